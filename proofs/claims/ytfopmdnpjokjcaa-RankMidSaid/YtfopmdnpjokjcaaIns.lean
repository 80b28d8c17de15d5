import Derived.Test.YtfopmdnpjokjcaaRot
import Derived.Deep.QuietTactic
import Derived.BigQuiet
namespace Go.Proofs.Ytfopmdnpjokjcaa
open Go.RowKit Plain

theorem quiet_left {P : Program} {f : FuncId} {args : Array Value} {w : World} {n : Nat} {v : Value}
    (h : Calls P f args (w.drewN n) fun e w' => e = .returned v ∧ w.drewN n = w') : Calls P f args (w.drewN n) fun e w'' => e = .returned v ∧ ∃ m, w'' = w.drewN m :=
  h.mono fun _ _ ⟨he, hm⟩ => ⟨he, n, hm.symm⟩

/-- Between a and b, put otherwise; elsewhere as it was. -/
def InR (a b : Nat) (xs ys : List Nat) : Prop := ys.length = xs.length ∧ ys.Perm xs ∧ ∀ q, (q < a ∨ b ≤ q) → nth ys q = nth xs q
/-- Between a and b, the keys go up. -/
def Up (a b : Nat) (xs : List Nat) : Prop := ∀ p q, a ≤ p → p < q → q < b → keyN (nth xs p) ≤ keyN (nth xs q)
/-- All are words. -/
def Words (xs : List Nat) : Prop := ∀ x ∈ xs, x < 18446744073709551616

theorem InR.refl (a b : Nat) (xs : List Nat) : InR a b xs xs := ⟨rfl, List.Perm.refl _, fun _ _ => rfl⟩
theorem InR.trans {a b : Nat} {xs ys zs : List Nat} (h : InR a b xs ys) (k : InR a b ys zs) : InR a b xs zs :=
  ⟨k.1.trans h.1, k.2.1.trans h.2.1, fun q hq => (k.2.2 q hq).trans (h.2.2 q hq)⟩
theorem InR.wide {a b c d : Nat} {xs ys : List Nat} (h : InR a b xs ys) (hc : c ≤ a) (hd : b ≤ d) : InR c d xs ys :=
  ⟨h.1, h.2.1, fun q hq => h.2.2 q (by omega)⟩
theorem InR.swp_ {a b i j : Nat} (xs : List Nat) (hi : a ≤ i) (hi' : i < b) (hj : a ≤ j) (hj' : j < b) (hb : b ≤ xs.length) : InR a b xs (swp xs i j) :=
  ⟨swp_length _ _ _, perm_swp _ _ _ (by omega) (by omega), fun q hq => by rw [nth_swp _ _ _ _ (by omega) (by omega), if_neg (by omega), if_neg (by omega)]⟩
theorem Words.perm {xs ys : List Nat} (h : Words xs) (k : ys.Perm xs) : Words ys := fun x hx => h x (k.mem_iff.1 hx)
theorem Words.nth {xs : List Nat} (h : Words xs) (i : Nat) : nth xs i < 18446744073709551616 := by
  by_cases hi : i < xs.length
  · rw [nth_lt hi]; exact h _ (List.getElem_mem hi)
  · unfold Ytfopmdnpjokjcaa.nth; rw [List.getD_eq_getElem?_getD, List.getElem?_eq_none (by omega)]; decide

/-- Between a and i the keys go up, but for what stands at j, which may be less than what is ahead of it. -/
def UpBut (a i j : Nat) (xs : List Nat) : Prop := ∀ p q, a ≤ p → p < q → q ≤ i → q ≠ j → keyN (nth xs p) ≤ keyN (nth xs q)
theorem UpBut.start {a i : Nat} {xs : List Nat} (h : Up a i xs) : UpBut a i i xs := fun p q hp hpq hq hne => h p q hp hpq (by omega)
theorem UpBut.step {a i j : Nat} {xs : List Nat} (h : UpBut a i j xs) (ha : a < j) (hj : j ≤ i) (hi : i < xs.length) (hlt : keyN (nth xs j) < keyN (nth xs (j - 1))) : UpBut a i (j - 1) (swp xs j (j - 1)) := by
  intro p q hp hpq hq hne
  rw [nth_swp _ _ _ _ (by omega) (by omega), nth_swp _ _ _ _ (by omega) (by omega), if_neg hne]
  by_cases hqj : q = j
  · subst hqj
    rw [if_pos rfl]
    by_cases hpj : p = q - 1
    · rw [if_pos hpj]; omega
    · rw [if_neg hpj, if_neg (by omega)]
      exact h p (q - 1) hp (by omega) (by omega) (by omega)
  · rw [if_neg hqj]
    by_cases hp1 : p = j - 1
    · rw [if_pos hp1]
      exact h j q (by omega) (by omega) hq hqj
    · rw [if_neg hp1]
      by_cases hp2 : p = j
      · rw [if_pos hp2]
        exact h (j - 1) q (by omega) (by omega) hq hqj
      · rw [if_neg hp2]
        exact h p q hp hpq hq hqj
theorem UpBut.stop {a i j : Nat} {xs : List Nat} (h : UpBut a i j xs) (haj : a ≤ j) (hj : j ≤ i) (hs : j = a ∨ keyN (nth xs (j - 1)) ≤ keyN (nth xs j)) : Up a (i + 1) xs := by
  intro p q hp hpq hq
  by_cases hqj : q = j
  · subst hqj
    rcases hs with hs | hs
    · omega
    · by_cases hpj : p = q - 1
      · subst hpj; exact hs
      · exact Nat.le_trans (h p (q - 1) hp (by omega) (by omega) (by omega)) hs
  · exact h p q hp hpq (by omega) hqj

def InsPost (w0 : World) (g a b : Nat) (xs : List Nat) (e : Ending) (w' : World) : Prop :=
  e = .returned (.tuple #[]) ∧ ∃ ys, SRow w0 w' g ys ∧ InR a b xs ys ∧ Up a b ys

theorem cmp_lt {x y : Nat} (h : keyN x < keyN y) : decide (cmpInt (keyN x) (keyN y) < 0) = true := by
  rw [cmpInt_lt (by omega)]; rfl
theorem cmp_ge {x y : Nat} (h : ¬ keyN x < keyN y) : decide (cmpInt (keyN x) (keyN y) < 0) = false := by
  unfold cmpInt; rw [if_neg (by omega)]; split <;> rfl

attribute [local go_sem] run_store_fl

set_option maxHeartbeats 2000000 in
theorem ins_any (w0 w : World) (g cap a b : Nat) (xs : List Nat) (hr : SRow w0 w g xs) (hw : Words xs) (hab : a ≤ b) (hb : b ≤ xs.length) (hl : xs.length ≤ 1000) :
    Calls Try.prog 40 #[.slice (some ⟨g, 0, none⟩) xs.length cap, .int .i64 a, .int .i64 b, .func (.func 15) #[] #[]] w (InsPost w0 g a b xs) := by
  have HR := hide hr
  have HW := hide hw
  clear hr hw
  go_enter Try.func40, Try.ntmps40
  go_wp2_with fail
  go_loopw [8] (fun v wr => ∃ (i : Nat) (zs : List Nat), v = .int .i64 i ∧ a < i ∧ (i ≤ b ∨ i = a + 1) ∧ Hid (SRow w0 wr g zs) ∧ Hid (InR a b xs zs) ∧ Hid (Up a i zs)) (fun v _ => b - (intOf v).toNat)
  case atStart => exact ⟨a + 1, xs, by go_num, by omega, by omega, HR, hide (InR.refl a b xs), hide (fun p q _ _ _ => by omega)⟩
  case round =>
    obtain ⟨i, zs, rfl, hai, hib, HZ, HI, HU⟩ := hrel
    by_cases hlt : i < b
    · have hltz : (i : Int) < (b : Int) := by omega
      go_wp2_with fail
      go_loopw [9] (fun v wr2 => ∃ (j : Nat) (ys : List Nat), v = .int .i64 j ∧ a ≤ j ∧ j ≤ i ∧ Hid (SRow w0 wr2 g ys) ∧ Hid (InR a b xs ys) ∧ Hid (UpBut a i j ys)) (fun v _ => (intOf v).toNat)
      case atStart => exact ⟨i, zs, rfl, by omega, Nat.le_refl _, HZ, HI, hide (UpBut.start HU.out)⟩
      case round =>
        clear HZ HI HU
        obtain ⟨j, ys, rfl, haj, hji, HY, HI, HU⟩ := hrel
        have hyl : Hid (ys.length = xs.length) := HI.out.1
        by_cases hja : a < j
        · have hjaz : (a : Int) < (j : Int) := by omega
          have hj0 : (0 : Int) ≤ (j : Int) - 1 := by omega
          have ca := HY.out.cell j (by rw [hyl.out]; omega)
          have cb := HY.out.cell (j - 1) (by rw [hyl.out]; omega)
          have fa := HY.out.frozen j
          have fb := HY.out.frozen (j - 1)
          have hwx := HW.out.perm HI.out.2.1
          have wx := hide (hwx.nth j)
          have wy := hide (hwx.nth (j - 1))
          clear hwx
          obtain ⟨x, hx⟩ : ∃ x, x = nth ys j := ⟨_, rfl⟩
          obtain ⟨y, hy⟩ : ∃ y, y = nth ys (j - 1) := ⟨_, rfl⟩
          rw [← hx] at ca wx
          rw [← hy] at cb wy
          unfold fl at ca cb
          have HX := hide hx
          have HYY := hide hy
          clear hx hy
          by_cases hk : keyN x < keyN y
          · have hd := cmp_lt hk
            go_wp2_with fail
            go_quiet ((go_at_call 15; exact quiet_left (cmp_any x y wx.out wy.out _)))
            go_wp2_with fail
            go_region
            go_wp2_with fail
            go_roundw
            case rel =>
              refine ⟨j - 1, swp ys j (j - 1), by congr 1; omega, by omega, by omega, ?_, hide (HI.out.trans (InR.swp_ ys (by omega) (by omega) (by omega) (by omega) (by rw [hyl.out]; omega))), hide (HU.out.step hja hji (by rw [hyl.out]; omega) (by rw [← HX.out, ← HYY.out]; exact hk))⟩
              have hs := ((HY.out.drewN nq).swp_ j (j - 1) (by rw [hyl.out]; omega) (by rw [hyl.out]; omega)).drew
              rw [← HX.out, ← HYY.out] at hs
              exact hs
            case measure => simp [intOf]; omega
          · have hd := cmp_ge hk
            go_wp2_with fail
            go_quiet ((go_at_call 15; exact quiet_left (cmp_any x y wx.out wy.out _)))
            go_wp2_with fail
            go_roundw
            case rel => exact ⟨i + 1, ys, by go_num, by omega, by omega, HY.out.drewN nq, HI, hide (HU.out.stop haj hji (.inr (by rw [← HX.out, ← HYY.out]; omega)))⟩
            case measure => simp [intOf]; omega
        · have hjaz : decide ((a : Int) < (j : Int)) = false := decide_eq_false (by omega)
          go_wp2_with fail
          go_quiet (fail)
          go_wp2_with fail
          go_roundw
          case rel => exact ⟨i + 1, ys, by go_num, by omega, by omega, HY.out.drewN nq, HI, hide (HU.out.stop haj hji (.inl (by omega)))⟩
          case measure => simp [intOf]; omega
    · have hltz : ¬ (i : Int) < (b : Int) := by omega
      go_wp2_with fail
      go_end0
      exact ⟨rfl, zs, HZ.out, HI.out, fun p q hp hpq hq => HU.out p q hp hpq (by omega)⟩
end Go.Proofs.Ytfopmdnpjokjcaa
