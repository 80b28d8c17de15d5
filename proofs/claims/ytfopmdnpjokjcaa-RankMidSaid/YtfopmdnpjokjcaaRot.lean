import Derived.Test.YtfopmdnpjokjcaaSwap
namespace Go.Proofs.Ytfopmdnpjokjcaa
open Go.RowKit Plain

/-- What stands at a place when the stretch from a to m, and that from m to b, have changed places. -/
def rotF (xs : List Nat) (a m b i : Nat) : Nat := if i < a ∨ b ≤ i then nth xs i else if i < a + (b - m) then nth xs (m + (i - a)) else nth xs (a + (i - a - (b - m)))

/-- On the way: the i ahead of m, and the j from m on, are still to change places. -/
def RotI (xs : List Nat) (a m b i j : Nat) (zs : List Nat) : Prop :=
  zs.length = xs.length ∧ zs.Perm xs ∧ (∀ q, (q < m - i ∨ m + j ≤ q) → rotF xs a m b q = nth zs q) ∧
    (∀ k, k < j → rotF xs a m b (m - i + k) = nth zs (m + k)) ∧ ∀ k, k < i → rotF xs a m b (m - i + j + k) = nth zs (m - i + k)

theorem RotI.start (xs : List Nat) (a m b : Nat) (h1 : a ≤ m) (h2 : m ≤ b) : RotI xs a m b (m - a) (b - m) xs := by
  refine ⟨rfl, List.Perm.refl _, fun q hq => ?_, fun k hk => ?_, fun k hk => ?_⟩
  · unfold rotF; rw [if_pos (by omega)]
  · unfold rotF; rw [if_neg (by omega), if_pos (by omega)]; congr 1; omega
  · unfold rotF; rw [if_neg (by omega), if_neg (by omega)]; congr 1; omega

theorem RotI.left {xs zs ys : List Nat} {a m b i j : Nat} (h : RotI xs a m b i j zs) (hi : i ≤ m) (hji : j < i) (hs : SwR (m - i) m j zs ys) : RotI xs a m b (i - j) j ys := by
  obtain ⟨h1, h2, h3, h4, h5⟩ := h
  obtain ⟨s1, s2, s3, s4⟩ := hs
  refine ⟨by omega, s2.trans h2, fun q hq => ?_, fun k hk => ?_, fun k hk => ?_⟩
  · by_cases hq1 : q < m - i ∨ m + j ≤ q
    · rw [h3 q hq1, s4 q (by omega) (by omega)]
    · have := (s3 (q - (m - i)) (by omega)).1
      have h4' := h4 (q - (m - i)) (by omega)
      rw [show m - i + (q - (m - i)) = q by omega] at this h4'
      rw [h4', this]
  · have h5' := h5 k (by omega)
    have := (s3 k hk).2
    rw [show m - (i - j) + k = m - i + j + k by omega, h5', this]
  · have h5' := h5 (j + k) (by omega)
    rw [show m - i + j + (j + k) = m - (i - j) + j + k by omega] at h5'
    rw [h5', s4 (m - (i - j) + k) (by omega) (by omega)]
    congr 1; omega

theorem RotI.right {xs zs ys : List Nat} {a m b i j : Nat} (h : RotI xs a m b i j zs) (hi : i ≤ m) (hij : i < j) (hs : SwR (m - i) (m + j - i) i zs ys) : RotI xs a m b i (j - i) ys := by
  obtain ⟨h1, h2, h3, h4, h5⟩ := h
  obtain ⟨s1, s2, s3, s4⟩ := hs
  refine ⟨by omega, s2.trans h2, fun q hq => ?_, fun k hk => ?_, fun k hk => ?_⟩
  · by_cases hq1 : q < m - i ∨ m + j ≤ q
    · rw [h3 q hq1, s4 q (by omega) (by omega)]
    · have := (s3 (q - (m + j - i)) (by omega)).2
      have h5' := h5 (q - (m + j - i)) (by omega)
      rw [show m + j - i + (q - (m + j - i)) = q by omega] at this
      rw [show m - i + j + (q - (m + j - i)) = q by omega] at h5'
      rw [h5', this]
  · have h4' := h4 k (by omega)
    rw [h4', s4 (m + k) (by omega) (by omega)]
  · have h4' := h4 (j - i + k) (by omega)
    have := (s3 k hk).1
    rw [show m - i + (j - i + k) = m - i + (j - i) + k by omega] at h4'
    rw [h4', this]
    congr 1; omega

theorem RotI.last {xs zs ys : List Nat} {a m b i : Nat} (h : RotI xs a m b i i zs) (hi : i ≤ m) (hs : SwR (m - i) m i zs ys) (q : Nat) : nth ys q = rotF xs a m b q := by
  obtain ⟨h1, h2, h3, h4, h5⟩ := h
  obtain ⟨s1, s2, s3, s4⟩ := hs
  by_cases hq1 : q < m - i ∨ m + i ≤ q
  · rw [h3 q hq1, s4 q (by omega) (by omega)]
  · by_cases hq2 : q < m
    · have := (s3 (q - (m - i)) (by omega)).1
      have h4' := h4 (q - (m - i)) (by omega)
      rw [show m - i + (q - (m - i)) = q by omega] at this h4'
      rw [h4', this]
    · have := (s3 (q - m) (by omega)).2
      have h5' := h5 (q - m) (by omega)
      rw [show m + (q - m) = q by omega] at this
      rw [show m - i + i + (q - m) = q by omega] at h5'
      rw [h5', this]

def RotPost (w0 : World) (g a m b : Nat) (xs : List Nat) (e : Ending) (w' : World) : Prop :=
  e = .returned (.tuple #[]) ∧ ∃ ys, SRow w0 w' g ys ∧ ys.length = xs.length ∧ ys.Perm xs ∧ ∀ q, nth ys q = rotF xs a m b q

theorem swapRange_at (w0 w : World) (g cap : Nat) (L a b n : Int) (A B M : Nat) (xs : List Nat) (f : Value) (hr : SRow w0 w g xs) (eL : L = xs.length) (ea : a = A) (eb : b = B) (en : n = M) (hab : A + M ≤ B) (hb : B + M ≤ xs.length) (hl : xs.length ≤ 1000) :
    Calls Try.prog 43 #[.slice (some ⟨g, 0, none⟩) L.toNat cap, .int .i64 a, .int .i64 b, .int .i64 n, f] w (SwPost w0 g A B M xs) := by
  subst ea eb en eL
  exact swapRange_any w0 w g cap A B M xs f hr hab hb hl

set_option maxHeartbeats 1000000 in
theorem rotate_any (w0 w : World) (g cap a m b : Nat) (xs : List Nat) (f : Value) (hr : SRow w0 w g xs) (ham : a < m) (hmb : m < b) (hb : b ≤ xs.length) (hl : xs.length ≤ 1000) :
    Calls Try.prog 42 #[.slice (some ⟨g, 0, none⟩) xs.length cap, .int .i64 a, .int .i64 m, .int .i64 b, f] w (RotPost w0 g a m b xs) := by
  have HR := hide hr
  clear hr
  go_enter Try.func42, Try.ntmps42
  go_wp2_with fail
  go_loopw [10, 11] (fun v u wr => ∃ (i j : Nat) (zs : List Nat), v = .int .i64 i ∧ u = .int .i64 j ∧ 0 < i ∧ 0 < j ∧ i ≤ m - a ∧ j ≤ b - m ∧ Hid (SRow w0 wr g zs) ∧ Hid (RotI xs a m b i j zs)) (fun v u _ => (intOf v + intOf u).toNat)
  case atStart => exact ⟨m - a, b - m, xs, by congr 1; omega, by congr 1; omega, by omega, by omega, by omega, by omega, HR, hide (RotI.start xs a m b (by omega) (by omega))⟩
  case round =>
    obtain ⟨i, j, zs, rfl, rfl, hi, hj, hia, hjb, HZ, HI⟩ := hrel
    have hzl : Hid (zs.length = xs.length) := HI.out.1
    by_cases hij : i = j
    · subst hij
      have ht : ((i : Int) != (i : Int)) = false := by simp
      go_wp2_with fail
      refine (swapRange_at w0 _ g cap xs.length _ _ _ (m - i) m i zs f HZ.out (by rw [hzl.out]) (by omega) rfl rfl (by omega) (by rw [hzl.out]; omega) (by rw [hzl.out]; omega)).mono ?_
      rintro e w1 ⟨rfl, ys, HY, HS⟩
      have HY := hide HY
      have HS := hide HS
      go_wp2_with fail
      go_end0
      exact ⟨rfl, ys, HY.out, HS.out.1.trans hzl.out, HS.out.2.1.trans HI.out.2.1, HI.out.last (by omega) HS.out⟩
    · have ht : ((i : Int) != (j : Int)) = true := by rw [bne_iff_ne]; omega
      by_cases hgt : j < i
      · have hgz : (j : Int) < (i : Int) := by omega
        go_wp2_with fail
        refine (swapRange_at w0 _ g cap xs.length _ _ _ (m - i) m j zs f HZ.out (by rw [hzl.out]) (by omega) rfl rfl (by omega) (by rw [hzl.out]; omega) (by rw [hzl.out]; omega)).mono ?_
        rintro e w1 ⟨rfl, ys, HY, HS⟩
        have HY := hide HY
        have HS := hide HS
        go_wp2_with fail
        go_roundw
        case rel => exact ⟨i - j, j, ys, by congr 1; omega, rfl, by omega, by omega, by omega, by omega, HY, hide (HI.out.left (by omega) hgt HS.out)⟩
        case measure => simp [intOf]; omega
      · have hgz : ¬ (j : Int) < (i : Int) := by omega
        go_wp2_with fail
        refine (swapRange_at w0 _ g cap xs.length _ _ _ (m - i) (m + j - i) i zs f HZ.out (by rw [hzl.out]) (by omega) (by omega) rfl (by omega) (by rw [hzl.out]; omega) (by rw [hzl.out]; omega)).mono ?_
        rintro e w1 ⟨rfl, ys, HY, HS⟩
        have HY := hide HY
        have HS := hide HS
        go_wp2_with fail
        go_roundw
        case rel => exact ⟨i, j - i, ys, rfl, by congr 1; omega, by omega, by omega, by omega, by omega, HY, hide (HI.out.right (by omega) (by omega) HS.out)⟩
        case measure => simp [intOf]; omega
end Go.Proofs.Ytfopmdnpjokjcaa
