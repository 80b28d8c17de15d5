/- Where a sector's page is, or is to be. -/
import Derived.Test.YthhemdjggdgaaaaDoorPg
namespace Go.Proofs.YthhemdjggdgaaaaDoor
open Go.RowKit

theorem isNaN_any (x : Int) (w : World) :
    Calls Tryd.prog 59 #[.int .i64 x] w fun e w' => e = .returned (.bool false) ∧ w = w' := by
  go_enter Tryd.func59, Tryd.ntmps59
  go_wp2
  go_ret
  exact ⟨rfl, rfl⟩
def cmpInt (x y : Int) : Int := if x < y then -1 else if y < x then 1 else 0
theorem ret_i64 {a b : Int} (h : a = b) : Ending.returned (.int .i64 a) = .returned (.int .i64 b) := by rw [h]
theorem cmpInt_lt {x y : Int} (h : x < y) : cmpInt x y = -1 := by unfold cmpInt; rw [if_pos h]
theorem cmpInt_gt {x y : Int} (h : y < x) : cmpInt x y = 1 := by unfold cmpInt; rw [if_neg (by omega), if_pos h]
theorem cmpInt_eq (x : Int) : cmpInt x x = 0 := by unfold cmpInt; rw [if_neg (by omega), if_neg (by omega)]
theorem compare_any (x y : Int) (w : World) :
    Calls Tryd.prog 54 #[.int .i64 x, .int .i64 y] w fun e w' => e = .returned (.int .i64 (cmpInt x y)) ∧ w = w' := by
  rcases Int.lt_trichotomy x y with h | h | h
  · have e := cmpInt_lt h
    have HE := hide e
    clear e
    go_enter Tryd.func54, Tryd.ntmps54
    go_wp2_with (go_at_call 59; refine (isNaN_any _ _).mono ?_; rintro e w' ⟨rfl, rfl⟩)
    go_ret
    exact ⟨ret_i64 HE.out.symm, rfl⟩
  · subst h
    have e := cmpInt_eq x
    have HE := hide e
    clear e
    go_enter Tryd.func54, Tryd.ntmps54
    go_wp2_with (go_at_call 59; refine (isNaN_any _ _).mono ?_; rintro e w' ⟨rfl, rfl⟩)
    go_ret
    exact ⟨ret_i64 HE.out.symm, rfl⟩
  · have e := cmpInt_gt h
    have HE := hide e
    clear e
    have hn : decide (x < y) = false := decide_eq_false (by omega)
    go_enter Tryd.func54, Tryd.ntmps54
    go_wp2_with (go_at_call 59; refine (isNaN_any _ _).mono ?_; rintro e w' ⟨rfl, rfl⟩)
    go_ret
    exact ⟨ret_i64 HE.out.symm, rfl⟩

theorem near_any (p : Pg) (g : Int) (w : World) :
    Calls Tryd.prog 53 #[pgv p, .int .i64 g] w fun e w' => e = .returned (.int .i64 (cmpInt p.1 g)) ∧ Below w.heap.size w w' := by
  obtain ⟨h, A, n, c⟩ := p
  unfold pgv
  simp only
  go_enter Tryd.func53, Tryd.ntmps53
  go_wp2_with (go_at_call 54; refine (compare_any _ _ _).mono ?_; rintro e w' ⟨rfl, rfl⟩)
  go_ret
  exact ⟨rfl, below_alloc _ _⟩
/-- Where a generation is, or would be. -/
def At (ps : List Pg) (g : Int) (i : Nat) : Prop := i ≤ ps.length ∧ (∀ t, t < i → (nth ps t).1 < g) ∧ ∀ t, i ≤ t → t < ps.length → g ≤ (nth ps t).1
def there (ps : List Pg) (g : Int) (i : Nat) : Bool := decide (i < ps.length) && (nth ps i).1 == g
def Asc (ps : List Pg) : Prop := ∀ i j, i ≤ j → j < ps.length → (nth ps i).1 ≤ (nth ps j).1

def BsPost (w : World) (ps : List Pg) (g : Int) (e : Ending) (w' : World) : Prop :=
  ∃ i : Nat, e = .returned (.tuple #[.int .i64 i, .bool (there ps g i)]) ∧ At ps g i ∧ Below w.heap.size w w'

set_option maxHeartbeats 1000000 in
theorem bs_any (w : World) (A : Option Addr) (n c : Nat) (ps : List Pg) (gen : Int) (hr : PR w A n ps) (hs : Asc ps) (hn : n ≤ 1000) :
    Calls Tryd.prog 52 #[.slice A n c, .int .i64 gen, .func (.func 53) #[] #[]] w (BsPost w ps gen) := by
  have HR := hide hr
  have HL := hide hr.len
  have HM := hide (hs)
  clear hr hs
  go_enter Tryd.func52, Tryd.ntmps52
  go_wp2_with fail
  go_loopw [9, 10] (fun u v wr => ∃ i j : Nat, u = .int .i64 i ∧ v = .int .i64 j ∧ i ≤ j ∧ j ≤ n ∧ Hid (∀ t, t < i → (nth ps t).1 < gen) ∧ Hid (∀ t, j ≤ t → t < n → gen ≤ (nth ps t).1) ∧ Hid (Below w.heap.size w wr)) (fun u v _ => (intOf v).toNat - (intOf u).toNat)
  case atStart => exact ⟨0, n, rfl, rfl, by omega, by omega, hide (fun t h => by omega), hide (fun t h h' => by omega), hide (Below.refl _ _)⟩
  case round =>
    obtain ⟨i, j, rfl, rfl, hij, hj, HI, HJ, HB⟩ := hrel
    by_cases hlt : i < j
    · have hltz : (i : Int) < (j : Int) := by omega
      obtain ⟨h, hh⟩ : ∃ h, (i + j) / 2 = h := ⟨_, rfl⟩
      have hhz : (h : Int) < (n : Int) := by omega
      have hmid : ((i : Int) + (j : Int)) / 2 = (h : Int) := by omega
      obtain ⟨ad, rfl, c0, c1⟩ := (HR.out.below HB.out).cell h (by omega)
      obtain ⟨p, hp⟩ : ∃ p, nth ps h = p := ⟨_, rfl⟩
      rw [hp] at c0 c1
      have HP := hide hp
      have HH := hide hh
      clear hp hh
      by_cases hpg : p.1 < gen
      · have ce : cmpInt p.1 gen = -1 := cmpInt_lt (by omega)
        have HPG := hide hpg
        clear hpg
        go_wp2_with (go_at_call 53; refine (near_any p gen _).mono ?_; rintro e w' ⟨rfl, hb⟩; have HB' := hide hb; clear hb; rw [ce])
        go_roundw
        case rel =>
          have := HH.out
          refine ⟨h + 1, j, by go_num, rfl, by omega, by omega, hide (fun t ht => ?_), HJ, hide (HB.out.trans (HB'.out.mono HB.out.size))⟩
          have := HM.out t h (by omega) (by rw [HL.out]; omega)
          rw [HP.out] at this
          have := HPG.out
          omega
        case measure => have := HH.out; simp [intOf]; omega
      · have hd : decide (cmpInt p.1 gen < 0) = false := by
          unfold cmpInt; refine decide_eq_false ?_; rw [if_neg (by omega)]; split <;> omega
        have HPG := hide hpg
        clear hpg
        go_wp2_with (go_at_call 53; refine (near_any p gen _).mono ?_; rintro e w' ⟨rfl, hb⟩; have HB' := hide hb; clear hb)
        go_roundw
        case rel =>
          have := HH.out
          refine ⟨i, h, rfl, rfl, by omega, by omega, HI, hide (fun t ht htn => ?_), hide (HB.out.trans (HB'.out.mono HB.out.size))⟩
          have := HM.out h t (by omega) (by rw [HL.out]; omega)
          rw [HP.out] at this
          have := HPG.out
          omega
        case measure => have := HH.out; simp [intOf]; omega
    · have hltz : ¬ (i : Int) < (j : Int) := by omega
      obtain rfl : i = j := by omega
      have HAt : Hid (At ps gen i) := ⟨by rw [HL.out]; exact hj, HI.out, fun t h1 h2 => HJ.out t h1 (by rw [← HL.out]; exact h2)⟩
      by_cases hin : i < n
      · have hinz : (i : Int) < (n : Int) := by omega
        obtain ⟨ad, rfl, c0, c1⟩ := (HR.out.below HB.out).cell i (by omega)
        obtain ⟨p, hp⟩ : ∃ p, nth ps i = p := ⟨_, rfl⟩
        rw [hp] at c0 c1
        by_cases hpg : p.1 = gen
        · have ce : cmpInt p.1 gen = 0 := by rw [hpg]; exact cmpInt_eq _
          have HT : Hid (there ps gen i = true) := by
            show there ps gen i = true
            unfold there; rw [decide_eq_true (by rw [HL.out]; exact hin), hp, hpg]; simp
          clear hp hpg
          go_wp2_with (go_at_call 53; refine (near_any p gen _).mono ?_; rintro e w' ⟨rfl, hb⟩; have HB' := hide hb; clear hb; rw [ce])
          go_ret2
          exact ⟨i, by rw [HT.out]; rfl, HAt.out, HB.out.trans (HB'.out.mono HB.out.size)⟩
        · have hd : (cmpInt p.1 gen == 0) = false := by
            rw [beq_eq_false_iff_ne]; unfold cmpInt; split
            · omega
            · split <;> omega
          have HT : Hid (there ps gen i = false) := by
            show there ps gen i = false
            unfold there; rw [hp, beq_eq_false_iff_ne.2 hpg]; simp
          clear hp hpg
          go_wp2_with (go_at_call 53; refine (near_any p gen _).mono ?_; rintro e w' ⟨rfl, hb⟩; have HB' := hide hb; clear hb)
          go_ret2
          exact ⟨i, by rw [HT.out]; rfl, HAt.out, HB.out.trans (HB'.out.mono HB.out.size)⟩
      · have hinz : decide ((i : Int) < (n : Int)) = false := decide_eq_false (by omega)
        have HT : Hid (there ps gen i = false) := by
          show there ps gen i = false
          unfold there; rw [decide_eq_false (by rw [HL.out]; exact hin)]; simp
        go_wp2_with fail
        go_ret2
        exact ⟨i, by rw [HT.out]; rfl, HAt.out, HB.out⟩
end Go.Proofs.YthhemdjggdgaaaaDoor
