/- A new disk, by the reference. -/
import Derived.Test.YthhemdjggdgaaaaRsync
namespace Go.Proofs.Ythhemdjggdgaaaa
open Go.RowKit
set_option linter.unusedVariables false

set_option maxRecDepth 100000 in
set_option maxHeartbeats 2000000 in
theorem rnew_any (w : World) (k : Int) : Calls Try.prog 26 #[.int .i64 k] w (DPost w (newS k).1 (newS k).2) := by
  obtain ⟨i0, hi0, hz0, hz1, hz2⟩ := info_parts u8_info
  have zb : Hid (Below w.heap.size w (w.alloc (.cells #[.slice none 0 0, .slice none 0 0, .int .i64 0] 25))) := below_alloc _ _
  have Z0 := Bx.made w (.slice none 0 0) (.slice none 0 0) (.int .i64 0)
  have HZ := hide Z0
  clear Z0
  by_cases h : 1 ≤ k ∧ k ≤ 8192
  · obtain ⟨N, rfl⟩ : ∃ N : Nat, k = N := ⟨k.toNat, by omega⟩
    have h1 : 1 ≤ N := by omega
    have h2 : N ≤ 8192 := by omega
    have HS := hide (newS_ok h1 h2)
    have m1 : ¬ (N : Int) < 1 := by omega
    have m2 : ¬ (8192 : Int) < (N : Int) := by omega
    have w1 : IntKind.i64.wrap (32 * (N : Int)) = 32 * (N : Int) := IntWalk.i64_in _ (by omega)
    clear h
    go_enter Try.func26, Try.ntmps26
    go_wp2_with (first
      | (at_make; refine wpList_make_full _ rfl (.tmp 12) (.tmp 12) 22 rfl (w.heap.size + 1) 5 i0 _ 1 Try.underlying22 hi0 hz0 hz1 .i64 .i64 (32 * (N : Int)) (32 * (N : Int)) (N * 32) rfl rfl (by omega) (by omega) (by rw [hz2]; omega) (by simp only [maxLen]; omega) (by simp) ?_; intro w1 ho hg; rw [zero_bytes, box_size] at ho; have hb := (Below.refl (w.alloc (.cells #[.slice none 0 0, .slice none 0 0, .int .i64 0] 25)).heap.size _).grown hg (Nat.le_refl _) (fun q hq => by cases hq); have HO := hide (fresh_dr ho); have X := HZ.out.below hb; have z0 := X.c0; have z1 := X.c1; have z2 := X.c2; have y0 := X.f 0; have y1 := X.f 1; have y2 := X.f 2; have HX := hide X; have HB := hide (Below.then zb.out hb); clear ho hg hb X))
    have hz3 := HX.out.boxed (u := .slice (some ⟨w.heap.size + 1, 0, none⟩) (N * 32) (N * 32)) (v := .slice none 0 0) (t := .int .i64 (-1))
    have r0 := hz3.c0
    have r1 := hz3.c1
    have r2 := hz3.c2
    rw [HS.out]
    refine bodyPost_ret (v := .tuple #[.agg #[.slice (some ⟨w.heap.size + 1, 0, none⟩) (N * 32) (N * 32), .slice none 0 0, .int .i64 (-1)], .int .i64 0]) (by simp [results, Try.results26, go_sem, r0, r1, r2]) rfl ⟨_, _, _, _, _, _, rfl, ?_, ?_⟩
    · exact (((HO.out.set (by simp)).set (by simp)).set (by simp)).mono (by omega)
    · exact below_boxed HB.out (Nat.le_refl _)
  · have HS := hide (newS_bad h)
    have z0 := HZ.out.c0
    have z1 := HZ.out.c1
    have z2 := HZ.out.c2
    have y0 := HZ.out.f 0
    have y1 := HZ.out.f 1
    have y2 := HZ.out.f 2
    by_cases h1 : k < 1
    · clear h
      go_enter Try.func26, Try.ntmps26
      go_wp2_with fail
      rw [HS.out]
      refine bodyPost_ret (v := .tuple #[.agg #[.slice none 0 0, .slice none 0 0, .int .i64 0], .int .i64 1]) (by simp [results, Try.results26, go_sem, z0, z1, z2]) rfl ⟨_, _, _, _, _, _, rfl, DO.zero _ _, zb.out⟩
    · have h2 : (8192 : Int) < k := by omega
      clear h
      go_enter Try.func26, Try.ntmps26
      go_wp2_with fail
      rw [HS.out]
      refine bodyPost_ret (v := .tuple #[.agg #[.slice none 0 0, .slice none 0 0, .int .i64 0], .int .i64 1]) (by simp [results, Try.results26, go_sem, z0, z1, z2]) rfl ⟨_, _, _, _, _, _, rfl, DO.zero _ _, zb.out⟩
end Go.Proofs.Ythhemdjggdgaaaa
