import Derived.Test.YtfopmdnpjokjcaaRow
import Derived.RegionTactic
import Derived.BigRegion
import Derived.LoopTactic
namespace Go.Proofs.Ytfopmdnpjokjcaa
open Go.RowKit Plain

theorem run_store_fl (P : Program) (w : World) (a : Addr) (m : Mode) (b : Nat) : (store a (.float .f64 b) m).run P w = stored P w a (.float .f64 b) m := run_store P w a _ m rfl
attribute [local go_sem] run_store_fl

/-- Some, standing at a, and as many, standing at b, have changed places. -/
def SwR (a b n : Nat) (xs ys : List Nat) : Prop :=
  ys.length = xs.length ∧ ys.Perm xs ∧ (∀ k, k < n → nth ys (a + k) = nth xs (b + k) ∧ nth ys (b + k) = nth xs (a + k)) ∧
    ∀ i, (i < a ∨ a + n ≤ i) → (i < b ∨ b + n ≤ i) → nth ys i = nth xs i

theorem SwR.zero (a b : Nat) (xs : List Nat) : SwR a b 0 xs xs := ⟨rfl, List.Perm.refl _, fun k h => absurd h (by omega), fun _ _ _ => rfl⟩
theorem SwR.step {a b k n : Nat} {xs ys : List Nat} (h : SwR a b k xs ys) (hab : a + n ≤ b) (hb : b + n ≤ xs.length) (hk : k < n) : SwR a b (k + 1) xs (swp ys (a + k) (b + k)) := by
  obtain ⟨h1, h2, h3, h4⟩ := h
  refine ⟨by rw [swp_length, h1], (perm_swp _ _ _ (by omega) (by omega)).trans h2, fun q hq => ?_, fun i hi hi' => ?_⟩
  · rw [nth_swp _ _ _ _ (by omega) (by omega), nth_swp _ _ _ _ (by omega) (by omega)]
    by_cases hqk : q = k
    · subst hqk
      rw [if_neg (by omega), if_pos rfl, if_pos rfl]
      exact ⟨h4 _ (by omega) (by omega), h4 _ (by omega) (by omega)⟩
    · rw [if_neg (by omega), if_neg (by omega), if_neg (by omega), if_neg (by omega)]
      exact h3 q (by omega)
  · rw [nth_swp _ _ _ _ (by omega) (by omega), if_neg (by omega), if_neg (by omega)]
    exact h4 i (by omega) (by omega)

def SwPost (w0 : World) (g a b n : Nat) (xs : List Nat) (e : Ending) (w' : World) : Prop := e = .returned (.tuple #[]) ∧ ∃ ys, SRow w0 w' g ys ∧ SwR a b n xs ys

set_option maxHeartbeats 1000000 in
theorem swapRange_any (w0 w : World) (g cap a b n : Nat) (xs : List Nat) (f : Value) (hr : SRow w0 w g xs) (hab : a + n ≤ b) (hb : b + n ≤ xs.length) (hl : xs.length ≤ 1000) :
    Calls Try.prog 43 #[.slice (some ⟨g, 0, none⟩) xs.length cap, .int .i64 a, .int .i64 b, .int .i64 n, f] w (SwPost w0 g a b n xs) := by
  have HR := hide hr
  clear hr
  go_enter Try.func43, Try.ntmps43
  go_wp2
  go_loopw [10] (fun v wr => ∃ (k : Nat) (ys : List Nat), k ≤ n ∧ v = .int .i64 k ∧ Hid (SRow w0 wr g ys) ∧ Hid (SwR a b k xs ys)) (fun v _ => n - (intOf v).toNat)
  case atStart => exact ⟨0, xs, Nat.zero_le _, rfl, HR, hide (SwR.zero a b xs)⟩
  case round =>
    obtain ⟨k, ys, hk, rfl, HY, HS⟩ := hrel
    by_cases hkn : k < n
    · have hyl : Hid (ys.length = xs.length) := HS.out.1
      have ca := HY.out.cell (a + k) (by rw [hyl.out]; omega)
      have cb := HY.out.cell (b + k) (by rw [hyl.out]; omega)
      have fa := HY.out.frozen (a + k)
      have fb := HY.out.frozen (b + k)
      obtain ⟨x, hx⟩ : ∃ x, x = nth ys (a + k) := ⟨_, rfl⟩
      obtain ⟨y, hy⟩ : ∃ y, y = nth ys (b + k) := ⟨_, rfl⟩
      rw [← hx] at ca
      rw [← hy] at cb
      unfold fl at ca cb
      have HX := hide hx
      have HYY := hide hy
      clear hx hy
      go_wp2
      go_region
      go_wp2
      go_roundw
      case rel =>
        refine ⟨k + 1, swp ys (a + k) (b + k), by omega, by go_num, ?_, hide (HS.out.step hab hb hkn)⟩
        have hs := (HY.out.swp_ (a + k) (b + k) (by rw [hyl.out]; omega) (by rw [hyl.out]; omega)).drew
        rw [← HX.out, ← HYY.out] at hs
        exact hs
      case measure => simp [intOf]; omega
    · obtain rfl : k = n := by omega
      go_wp2
      go_end0
      exact ⟨rfl, ys, HY.out, HS.out⟩
end Go.Proofs.Ytfopmdnpjokjcaa
