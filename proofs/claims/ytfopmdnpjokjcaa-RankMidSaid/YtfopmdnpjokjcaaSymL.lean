import Derived.Test.YtfopmdnpjokjcaaIns
namespace Go.Proofs.Ytfopmdnpjokjcaa
open Go.RowKit Plain

/-- The key of what stands at a place. -/
def K (xs : List Nat) (i : Nat) : Nat := keyN (nth xs i)
theorem Up.le {a b : Nat} {xs : List Nat} (h : Up a b xs) {p q : Nat} (hp : a ≤ p) (hpq : p ≤ q) (hq : q < b) : K xs p ≤ K xs q := by
  rcases Nat.lt_or_eq_of_le hpq with h1 | h1
  · exact h p q hp h1 hq
  · subst h1; exact Nat.le_refl _

/-! ### One alone, put in from the left -/
/-- What stands at a has gone up to k; what it met has gone down by one. -/
def ShL (a k : Nat) (xs ys : List Nat) : Prop := ∀ q, nth ys q = if a ≤ q ∧ q < k then nth xs (q + 1) else if q = k then nth xs a else nth xs q
theorem ShL.start (a : Nat) (xs : List Nat) : ShL a a xs xs := fun q => by
  rw [if_neg (by omega)]; split
  · subst_vars; rfl
  · rfl
theorem ShL.step {a k : Nat} {xs ys : List Nat} (h : ShL a k xs ys) (hak : a ≤ k) (hk : k + 1 < ys.length) : ShL a (k + 1) xs (swp ys k (k + 1)) := by
  intro q
  rw [nth_swp _ _ _ _ (by omega) hk]
  by_cases h1 : q = k + 1
  · rw [if_pos h1, if_neg (by omega), if_pos h1, h k, if_neg (by omega), if_pos rfl]
  · rw [if_neg h1]
    by_cases h2 : q = k
    · rw [if_pos h2, if_pos (by omega), h (k + 1), if_neg (by omega), if_neg (by omega), h2]
    · rw [if_neg h2, h q]
      by_cases h3 : a ≤ q ∧ q < k
      · rw [if_pos h3, if_pos (by omega)]
      · rw [if_neg h3, if_neg h2, if_neg (by omega), if_neg h1]
theorem ShL.up {a i b : Nat} {xs ys : List Nat} (h : ShL a (i - 1) xs ys) (hai : a + 1 ≤ i) (hib : i ≤ b) (hU : Up (a + 1) b xs) (h1 : ∀ q, a + 1 ≤ q → q < i → K xs q < K xs a) (h2 : ∀ q, i ≤ q → q < b → K xs a ≤ K xs q) : Up a b ys := by
  intro p q hp hpq hq
  rw [h p, h q]
  by_cases c1 : q < i - 1
  · rw [if_pos (by omega), if_pos (by omega)]
    exact hU (p + 1) (q + 1) (by omega) (by omega) (by omega)
  · rw [if_neg (show ¬(a ≤ q ∧ q < i - 1) by omega)]
    by_cases c2 : q = i - 1
    · rw [if_pos (by omega), if_pos c2]
      exact Nat.le_of_lt (h1 (p + 1) (by omega) (by omega))
    · rw [if_neg c2]
      by_cases c3 : p < i - 1
      · rw [if_pos (by omega)]
        exact Nat.le_trans (Nat.le_of_lt (h1 (p + 1) (by omega) (by omega))) (h2 q (by omega) hq)
      · rw [if_neg (by omega)]
        by_cases c4 : p = i - 1
        · rw [if_pos c4]; exact h2 q (by omega) hq
        · rw [if_neg c4]; exact hU p q (by omega) hpq hq

def BsL (a i j b : Nat) (xs : List Nat) : Prop := (∀ q, a + 1 ≤ q → q < i → K xs q < K xs a) ∧ ∀ q, j ≤ q → q < b → K xs a ≤ K xs q

attribute [local go_sem] run_store_fl

set_option maxRecDepth 100000 in
set_option maxHeartbeats 4000000 in
theorem symL_any (w0 w : World) (g cap a m b : Nat) (xs : List Nat) (hr : SRow w0 w g xs) (hw : Words xs) (ham : m = a + 1) (hmb : m < b) (hb : b ≤ xs.length) (hl : xs.length ≤ 1000) (hu : Up m b xs) :
    Calls Try.prog 41 #[.slice (some ⟨g, 0, none⟩) xs.length cap, .int .i64 a, .int .i64 m, .int .i64 b, .func (.func 15) #[] #[]] w (InsPost w0 g a b xs) := by
  have HR := hide hr
  have HW := hide hw
  have HU := hide hu
  have HA := hide ham
  clear hr hw hu
  have t1 : (((m : Int) - (a : Int)) == 1) = true := beq_iff_eq.2 (by omega)
  clear ham
  have ham1 : a + 1 ≤ m := by have := HA.out; omega
  have ham2 : m ≤ a + 1 := by have := HA.out; omega
  go_enter Try.func41, Try.ntmps41
  go_wp2_with fail
  go_loopw [10, 11] (fun v u wr => ∃ (i j : Nat), v = .int .i64 i ∧ u = .int .i64 j ∧ m ≤ i ∧ i ≤ j ∧ j ≤ b ∧ Hid (SRow w0 wr g xs) ∧ Hid (BsL a i j b xs)) (fun v u _ => (intOf u - intOf v).toNat)
  case atStart => exact ⟨m, b, rfl, rfl, Nat.le_refl _, by omega, Nat.le_refl _, HR, hide ⟨fun q _ _ => by omega, fun q _ _ => by omega⟩⟩
  case round =>
    obtain ⟨i, j, rfl, rfl, hmi, hij, hjb, HZ, HB⟩ := hrel
    by_cases hlt : i < j
    · have hltz : (i : Int) < (j : Int) := by omega
      have hh1 : i ≤ (i + j) / 2 := by omega
      have hh2 : (i + j) / 2 < j := by omega
      have hz1 : ((i : Int) + (j : Int)) / 2 < (xs.length : Int) := by omega
      have hz0 : (0 : Int) ≤ ((i : Int) + (j : Int)) / 2 := by omega
      have ca := HZ.out.cell ((i + j) / 2) (by omega)
      have cb := HZ.out.cell a (by omega)
      have wx := hide (HW.out.nth ((i + j) / 2))
      have wy := hide (HW.out.nth a)
      obtain ⟨x, hx⟩ : ∃ x, x = nth xs ((i + j) / 2) := ⟨_, rfl⟩
      obtain ⟨y, hy⟩ : ∃ y, y = nth xs a := ⟨_, rfl⟩
      rw [← hx] at ca wx
      rw [← hy] at cb wy
      unfold fl at ca cb
      have HX := hide hx
      have HYY := hide hy
      clear hx hy
      by_cases hk : keyN x < keyN y
      · have hd := cmp_lt hk
        go_wp2_with fail
        go_quiet ((go_at_call 15; exact quiet_left (cmp_any x y wx.out wy.out _)))
        go_wp2_with fail
        go_roundw
        case rel =>
          refine ⟨(i + j) / 2 + 1, j, by go_num, rfl, by omega, by omega, by omega, HZ.out.drewN nq, hide ⟨fun q h1 h2 => ?_, HB.out.2⟩⟩
          have hxy : K xs ((i + j) / 2) < K xs a := by unfold K; rw [← HX.out, ← HYY.out]; exact hk
          exact Nat.lt_of_le_of_lt (HU.out.le (by omega) (by omega) (by omega)) hxy
        case measure => simp [intOf]; omega
      · have hd := cmp_ge hk
        go_wp2_with fail
        go_quiet ((go_at_call 15; exact quiet_left (cmp_any x y wx.out wy.out _)))
        go_wp2_with fail
        go_roundw
        case rel =>
          refine ⟨i, (i + j) / 2, rfl, by go_num, by omega, by omega, by omega, HZ.out.drewN nq, hide ⟨HB.out.1, fun q h1 h2 => ?_⟩⟩
          have hxy : K xs a ≤ K xs ((i + j) / 2) := by unfold K; rw [← HX.out, ← HYY.out]; omega
          exact Nat.le_trans hxy (HU.out.le (by omega) (by omega) (by omega))
        case measure => simp [intOf]; omega
    · have hltz : ¬ (i : Int) < (j : Int) := by omega
      have hji : Hid (j = i) := by show _ = _; omega
      have hib : i ≤ b := by omega
      go_wp2_with fail
      go_loopw [13] (fun v wr2 => ∃ (k : Nat) (ys : List Nat), v = .int .i64 k ∧ a ≤ k ∧ k ≤ i - 1 ∧ Hid (SRow w0 wr2 g ys) ∧ Hid (InR a b xs ys) ∧ Hid (ShL a k xs ys)) (fun v _ => (i - intOf v).toNat)
      case atStart => exact ⟨a, xs, rfl, Nat.le_refl _, by omega, HZ, hide (InR.refl a b xs), hide (ShL.start a xs)⟩
      case round =>
        clear HZ HR
        obtain ⟨k, ys, rfl, hak, hki, HZ, HI, HS⟩ := hrel
        have hyl : Hid (ys.length = xs.length) := HI.out.1
        by_cases hk1 : k < i - 1
        · have hkz : (k : Int) < (i : Int) - 1 := by omega
          have ca := HZ.out.cell k (by rw [hyl.out]; omega)
          have cb := HZ.out.cell (k + 1) (by rw [hyl.out]; omega)
          have fa := HZ.out.frozen k
          have fb := HZ.out.frozen (k + 1)
          obtain ⟨x, hx⟩ : ∃ x, x = nth ys k := ⟨_, rfl⟩
          obtain ⟨y, hy⟩ : ∃ y, y = nth ys (k + 1) := ⟨_, rfl⟩
          rw [← hx] at ca
          rw [← hy] at cb
          unfold fl at ca cb
          have HX := hide hx
          have HYY := hide hy
          clear hx hy
          go_wp2_with fail
          go_region
          go_wp2_with fail
          go_roundw
          case rel =>
            refine ⟨k + 1, swp ys k (k + 1), by go_num, by omega, by omega, ?_, hide (HI.out.trans (InR.swp_ ys (by omega) (by omega) (by omega) (by omega) (by rw [hyl.out]; omega))), hide (HS.out.step hak (by rw [hyl.out]; omega))⟩
            have hs := (HZ.out.swp_ k (k + 1) (by rw [hyl.out]; omega) (by rw [hyl.out]; omega)).drew
            rw [← HX.out, ← HYY.out] at hs
            exact hs
          case measure => simp [intOf]; omega
        · have hkz : ¬ (k : Int) < (i : Int) - 1 := by omega
          have hke : Hid (k = i - 1) := by show _ = _; omega
          go_wp2_with fail
          refine bodyPost_ret (results_none rfl _ _ _) rfl ?_
          refine ⟨rfl, ys, HZ.out, HI.out, ?_⟩
          have hs := HS.out
          rw [hke.out] at hs
          have hu := HU.out
          have hb2 := HB.out.2
          rw [hji.out] at hb2
          rw [HA.out] at hu
          exact hs.up (by omega) hib hu HB.out.1 hb2
end Go.Proofs.Ytfopmdnpjokjcaa
