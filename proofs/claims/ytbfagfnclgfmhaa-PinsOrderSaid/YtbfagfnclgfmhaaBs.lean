import Derived.Test.YtbfagfnclgfmhaaChk
namespace Go.Proofs.Ytbfagfnclgfmhaa
open Go.RowKit

/-- Where a generation is, or would be. -/
def At (ps : List Pin) (g i : Nat) : Prop := i ≤ ps.length ∧ (∀ t, t < i → (nth ps t).1 < g) ∧ ∀ t, i ≤ t → t < ps.length → g ≤ (nth ps t).1
def there (ps : List Pin) (g i : Nat) : Bool := decide (i < ps.length) && (nth ps i).1 == g
theorem mono_of (ps : List Pin) (h : risen ps = true) : ∀ i j, i ≤ j → j < ps.length → (nth ps i).1 ≤ (nth ps j).1 := by
  intro i j hij hj
  unfold risen at h
  have h := of_decide_eq_true h
  induction j with
  | zero => obtain rfl : i = 0 := by omega
            exact Nat.le_refl _
  | succ j ih =>
    by_cases e : i = j + 1
    · subst e; exact Nat.le_refl _
    · exact Nat.le_trans (ih (by omega) (by omega)) (h j (by omega))

def BsPost (w : World) (ps : List Pin) (g : Nat) (e : Ending) (w' : World) : Prop :=
  ∃ i : Nat, e = .returned (.tuple #[.int .i64 i, .bool (there ps g i)]) ∧ At ps g i ∧ Below w.heap.size w w'

set_option maxHeartbeats 1000000 in
theorem bs_any (w : World) (A : Option Addr) (n c : Nat) (ps : List Pin) (gen : Nat) (hr : PR w A n ps) (hs : risen ps = true) (hn : n ≤ 1000) :
    Calls Try.prog 34 #[.slice A n c, .int .u64 gen, .func (.func 35) #[] #[]] w (BsPost w ps gen) := by
  have HR := hide hr
  have HL := hide hr.len
  have HM := hide (mono_of ps hs)
  clear hr hs
  go_enter Try.func34, Try.ntmps34
  go_wp2_with fail
  go_loopw [9, 10] (fun u v wr => ∃ i j : Nat, u = .int .i64 i ∧ v = .int .i64 j ∧ i ≤ j ∧ j ≤ n ∧ Hid (∀ t, t < i → (nth ps t).1 < gen) ∧ Hid (∀ t, j ≤ t → t < n → gen ≤ (nth ps t).1) ∧ Hid (Below w.heap.size w wr)) (fun u v _ => (intOf v).toNat - (intOf u).toNat)
  case atStart => exact ⟨0, n, rfl, rfl, by omega, by omega, hide (fun t h => by omega), hide (fun t h h' => by omega), hide (Below.refl _ _)⟩
  case round =>
    obtain ⟨i, j, rfl, rfl, hij, hj, HI, HJ, HB⟩ := hrel
    by_cases hlt : i < j
    · have hltz : (i : Int) < (j : Int) := by omega
      obtain ⟨h, hh⟩ : ∃ h, (i + j) / 2 = h := ⟨_, rfl⟩
      have hhz : (h : Int) < (n : Int) := by omega
      have hmid : ((i : Int) + (j : Int)) / 2 = (h : Int) := by omega
      obtain ⟨ad, rfl, c0, c1⟩ := (HR.out.below HB.out).cell h (by omega)
      obtain ⟨p, hp⟩ : ∃ p, nth ps h = p := ⟨_, rfl⟩
      rw [hp] at c0 c1
      have HP := hide hp
      have HH := hide hh
      clear hp hh
      by_cases hpg : p.1 < gen
      · have ce : cmpInt (p.1 : Int) gen = -1 := cmpInt_lt (by omega)
        have HPG := hide hpg
        clear hpg
        go_wp2_with (go_at_call 35; refine (near_any p gen _).mono ?_; rintro e w' ⟨rfl, hb⟩; have HB' := hide hb; clear hb; rw [ce])
        go_roundw
        case rel =>
          have := HH.out
          refine ⟨h + 1, j, by go_num, rfl, by omega, by omega, hide (fun t ht => ?_), HJ, hide (HB.out.trans (HB'.out.mono HB.out.size))⟩
          have := HM.out t h (by omega) (by rw [HL.out]; omega)
          rw [HP.out] at this
          have := HPG.out
          omega
        case measure => have := HH.out; simp [intOf]; omega
      · have hd : decide (cmpInt (p.1 : Int) gen < 0) = false := by
          unfold cmpInt; refine decide_eq_false ?_; rw [if_neg (by omega)]; split <;> omega
        have HPG := hide hpg
        clear hpg
        go_wp2_with (go_at_call 35; refine (near_any p gen _).mono ?_; rintro e w' ⟨rfl, hb⟩; have HB' := hide hb; clear hb)
        go_roundw
        case rel =>
          have := HH.out
          refine ⟨i, h, rfl, rfl, by omega, by omega, HI, hide (fun t ht htn => ?_), hide (HB.out.trans (HB'.out.mono HB.out.size))⟩
          have := HM.out h t (by omega) (by rw [HL.out]; omega)
          rw [HP.out] at this
          have := HPG.out
          omega
        case measure => have := HH.out; simp [intOf]; omega
    · have hltz : ¬ (i : Int) < (j : Int) := by omega
      obtain rfl : i = j := by omega
      have HAt : Hid (At ps gen i) := ⟨by rw [HL.out]; exact hj, HI.out, fun t h1 h2 => HJ.out t h1 (by rw [← HL.out]; exact h2)⟩
      by_cases hin : i < n
      · have hinz : (i : Int) < (n : Int) := by omega
        obtain ⟨ad, rfl, c0, c1⟩ := (HR.out.below HB.out).cell i (by omega)
        obtain ⟨p, hp⟩ : ∃ p, nth ps i = p := ⟨_, rfl⟩
        rw [hp] at c0 c1
        by_cases hpg : p.1 = gen
        · have ce : cmpInt (p.1 : Int) gen = 0 := by rw [hpg]; exact cmpInt_eq _
          have HT : Hid (there ps gen i = true) := by
            show there ps gen i = true
            unfold there; rw [decide_eq_true (by rw [HL.out]; exact hin), hp, hpg]; simp
          clear hp hpg
          go_wp2_with (go_at_call 35; refine (near_any p gen _).mono ?_; rintro e w' ⟨rfl, hb⟩; have HB' := hide hb; clear hb; rw [ce])
          go_ret2
          exact ⟨i, by rw [HT.out]; rfl, HAt.out, HB.out.trans (HB'.out.mono HB.out.size)⟩
        · have hd : (cmpInt (p.1 : Int) gen == 0) = false := by
            rw [beq_eq_false_iff_ne]; unfold cmpInt; split
            · omega
            · split <;> omega
          have HT : Hid (there ps gen i = false) := by
            show there ps gen i = false
            unfold there; rw [hp, beq_eq_false_iff_ne.2 hpg]; simp
          clear hp hpg
          go_wp2_with (go_at_call 35; refine (near_any p gen _).mono ?_; rintro e w' ⟨rfl, hb⟩; have HB' := hide hb; clear hb)
          go_ret2
          exact ⟨i, by rw [HT.out]; rfl, HAt.out, HB.out.trans (HB'.out.mono HB.out.size)⟩
      · have hinz : decide ((i : Int) < (n : Int)) = false := decide_eq_false (by omega)
        have HT : Hid (there ps gen i = false) := by
          show there ps gen i = false
          unfold there; rw [decide_eq_false (by rw [HL.out]; exact hin)]; simp
        go_wp2_with fail
        go_ret2
        exact ⟨i, by rw [HT.out]; rfl, HAt.out, HB.out⟩
end Go.Proofs.Ytbfagfnclgfmhaa
