import Derived.Test.YtfopmdnpjokjcaaSymL
namespace Go.Proofs.Ytfopmdnpjokjcaa
open Go.RowKit Plain

/-! ### One alone, put in from the right -/
/-- What stands at m has gone down to k; what it met has gone up by one. -/
def ShR (k m : Nat) (xs ys : List Nat) : Prop := ∀ q, nth ys q = if k < q ∧ q ≤ m then nth xs (q - 1) else if q = k then nth xs m else nth xs q
theorem ShR.start (m : Nat) (xs : List Nat) : ShR m m xs xs := fun q => by
  rw [if_neg (by omega)]; split
  · subst_vars; rfl
  · rfl
theorem ShR.step {k m : Nat} {xs ys : List Nat} (h : ShR k m xs ys) (h0 : 0 < k) (hkm : k ≤ m) (hm : m < ys.length) : ShR (k - 1) m xs (swp ys k (k - 1)) := by
  intro q
  rw [nth_swp _ _ _ _ (by omega) (by omega)]
  by_cases h1 : q = k - 1
  · rw [if_pos h1, if_neg (by omega), if_pos h1, h k, if_neg (by omega), if_pos rfl]
  · rw [if_neg h1]
    by_cases h2 : q = k
    · rw [if_pos h2, if_pos (by omega), h (k - 1), if_neg (by omega), if_neg (by omega), h2]
    · rw [if_neg h2, h q]
      by_cases h3 : k < q ∧ q ≤ m
      · rw [if_pos h3, if_pos (by omega)]
      · rw [if_neg h3, if_neg h2, if_neg (by omega), if_neg h1]
theorem ShR.up {a i m : Nat} {xs ys : List Nat} (h : ShR i m xs ys) (hai : a ≤ i) (him : i ≤ m) (hU : Up a m xs) (h1 : ∀ q, a ≤ q → q < i → K xs q ≤ K xs m) (h2 : ∀ q, i ≤ q → q < m → K xs m < K xs q) : Up a (m + 1) ys := by
  intro p q hp hpq hq
  rw [h p, h q]
  by_cases c1 : i < p
  · rw [if_pos (by omega), if_pos (by omega)]
    exact hU (p - 1) (q - 1) (by omega) (by omega) (by omega)
  · rw [if_neg (show ¬(i < p ∧ p ≤ m) by omega)]
    by_cases c2 : p = i
    · rw [if_pos c2, if_pos (by omega)]
      exact Nat.le_of_lt (h2 (q - 1) (by omega) (by omega))
    · rw [if_neg c2]
      by_cases c3 : i < q
      · rw [if_pos (by omega)]
        exact Nat.le_trans (h1 p (by omega) (by omega)) (Nat.le_of_lt (h2 (q - 1) (by omega) (by omega)))
      · rw [if_neg (by omega)]
        by_cases c4 : q = i
        · rw [if_pos c4]; exact h1 p (by omega) (by omega)
        · rw [if_neg c4]; exact hU p q (by omega) hpq (by omega)

def BsR (a i j m : Nat) (xs : List Nat) : Prop := (∀ q, a ≤ q → q < i → K xs q ≤ K xs m) ∧ ∀ q, j ≤ q → q < m → K xs m < K xs q

attribute [local go_sem] run_store_fl

set_option maxRecDepth 100000 in
set_option maxHeartbeats 4000000 in
theorem symR_any (w0 w : World) (g cap a m b : Nat) (xs : List Nat) (hr : SRow w0 w g xs) (hw : Words xs) (ham : a < m) (hne : m ≠ a + 1) (hmb : b = m + 1) (hb : b ≤ xs.length) (hl : xs.length ≤ 1000) (hu : Up a m xs) :
    Calls Try.prog 41 #[.slice (some ⟨g, 0, none⟩) xs.length cap, .int .i64 a, .int .i64 m, .int .i64 b, .func (.func 15) #[] #[]] w (InsPost w0 g a b xs) := by
  have HR := hide hr
  have HW := hide hw
  have HU := hide hu
  have HB0 := hide hmb
  clear hr hw hu
  have t1 : (((m : Int) - (a : Int)) == 1) = false := beq_eq_false_iff_ne.2 (by omega)
  have t2 : (((b : Int) - (m : Int)) == 1) = true := beq_iff_eq.2 (by omega)
  clear hmb hne
  have hmb1 : m + 1 ≤ b := by have := HB0.out; omega
  go_enter Try.func41, Try.ntmps41
  go_wp2_with fail
  go_loopw [14, 15] (fun v u wr => ∃ (i j : Nat), v = .int .i64 i ∧ u = .int .i64 j ∧ a ≤ i ∧ i ≤ j ∧ j ≤ m ∧ Hid (SRow w0 wr g xs) ∧ Hid (BsR a i j m xs)) (fun v u _ => (intOf u - intOf v).toNat)
  case atStart => exact ⟨a, m, rfl, rfl, Nat.le_refl _, by omega, Nat.le_refl _, HR, hide ⟨fun q _ _ => by omega, fun q _ _ => by omega⟩⟩
  case round =>
    obtain ⟨i, j, rfl, rfl, hmi, hij, hjb, HZ, HB⟩ := hrel
    by_cases hlt : i < j
    · have hltz : (i : Int) < (j : Int) := by omega
      have hh1 : i ≤ (i + j) / 2 := by omega
      have hh2 : (i + j) / 2 < j := by omega
      have hz1 : ((i : Int) + (j : Int)) / 2 < (xs.length : Int) := by omega
      have hz0 : (0 : Int) ≤ ((i : Int) + (j : Int)) / 2 := by omega
      have ca := HZ.out.cell ((i + j) / 2) (by omega)
      have cb := HZ.out.cell m (by omega)
      have wx := hide (HW.out.nth ((i + j) / 2))
      have wy := hide (HW.out.nth m)
      obtain ⟨x, hx⟩ : ∃ x, x = nth xs ((i + j) / 2) := ⟨_, rfl⟩
      obtain ⟨y, hy⟩ : ∃ y, y = nth xs m := ⟨_, rfl⟩
      rw [← hx] at ca wx
      rw [← hy] at cb wy
      unfold fl at ca cb
      have HX := hide hx
      have HYY := hide hy
      clear hx hy
      by_cases hk : keyN y < keyN x
      · have hd := cmp_lt hk
        go_wp2_with fail
        go_quiet ((go_at_call 15; exact quiet_left (cmp_any y x wy.out wx.out _)))
        go_wp2_with fail
        go_roundw
        case rel =>
          refine ⟨i, (i + j) / 2, rfl, by go_num, by omega, by omega, by omega, HZ.out.drewN nq, hide ⟨HB.out.1, fun q h1 h2 => ?_⟩⟩
          have hxy : K xs m < K xs ((i + j) / 2) := by unfold K; rw [← HX.out, ← HYY.out]; exact hk
          exact Nat.lt_of_lt_of_le hxy (HU.out.le (by omega) (by omega) (by omega))
        case measure => simp [intOf]; omega
      · have hd := cmp_ge hk
        go_wp2_with fail
        go_quiet ((go_at_call 15; exact quiet_left (cmp_any y x wy.out wx.out _)))
        go_wp2_with fail
        go_roundw
        case rel =>
          refine ⟨(i + j) / 2 + 1, j, by go_num, rfl, by omega, by omega, by omega, HZ.out.drewN nq, hide ⟨fun q h1 h2 => ?_, HB.out.2⟩⟩
          have hxy : K xs ((i + j) / 2) ≤ K xs m := by unfold K; rw [← HX.out, ← HYY.out]; omega
          exact Nat.le_trans (HU.out.le (by omega) (by omega) (by omega)) hxy
        case measure => simp [intOf]; omega
    · have hltz : ¬ (i : Int) < (j : Int) := by omega
      have hji : Hid (j = i) := by show _ = _; omega
      have hib : i ≤ m := by omega
      go_wp2_with fail
      go_loopw [17] (fun v wr2 => ∃ (k : Nat) (ys : List Nat), v = .int .i64 k ∧ i ≤ k ∧ k ≤ m ∧ Hid (SRow w0 wr2 g ys) ∧ Hid (InR a b xs ys) ∧ Hid (ShR k m xs ys)) (fun v _ => (intOf v).toNat)
      case atStart => exact ⟨m, xs, rfl, hib, Nat.le_refl _, HZ, hide (InR.refl a b xs), hide (ShR.start m xs)⟩
      case round =>
        clear HZ HR
        obtain ⟨k, ys, rfl, hik, hkm, HZ, HI, HS⟩ := hrel
        have hyl : Hid (ys.length = xs.length) := HI.out.1
        by_cases hk1 : i < k
        · have hkz : (i : Int) < (k : Int) := by omega
          have hk0 : (0 : Int) ≤ (k : Int) - 1 := by omega
          have ca := HZ.out.cell k (by rw [hyl.out]; omega)
          have cb := HZ.out.cell (k - 1) (by rw [hyl.out]; omega)
          have fa := HZ.out.frozen k
          have fb := HZ.out.frozen (k - 1)
          obtain ⟨x, hx⟩ : ∃ x, x = nth ys k := ⟨_, rfl⟩
          obtain ⟨y, hy⟩ : ∃ y, y = nth ys (k - 1) := ⟨_, rfl⟩
          rw [← hx] at ca
          rw [← hy] at cb
          unfold fl at ca cb
          have HX := hide hx
          have HYY := hide hy
          clear hx hy
          go_wp2_with fail
          go_region
          go_wp2_with fail
          go_roundw
          case rel =>
            refine ⟨k - 1, swp ys k (k - 1), by congr 1; omega, by omega, by omega, ?_, hide (HI.out.trans (InR.swp_ ys (by omega) (by omega) (by omega) (by omega) (by rw [hyl.out]; omega))), hide (HS.out.step (by omega) hkm (by rw [hyl.out]; omega))⟩
            have hs := (HZ.out.swp_ k (k - 1) (by rw [hyl.out]; omega) (by rw [hyl.out]; omega)).drew
            rw [← HX.out, ← HYY.out] at hs
            exact hs
          case measure => simp [intOf]; omega
        · have hkz : ¬ (i : Int) < (k : Int) := by omega
          have hke : Hid (k = i) := by show _ = _; omega
          go_wp2_with fail
          refine bodyPost_ret (results_none rfl _ _ _) rfl ?_
          refine ⟨rfl, ys, HZ.out, HI.out, ?_⟩
          have hs := HS.out
          rw [hke.out] at hs
          have hb2 := HB.out.2
          rw [hji.out] at hb2
          rw [HB0.out]
          exact hs.up (by omega) hib HU.out HB.out.1 hb2
end Go.Proofs.Ytfopmdnpjokjcaa
