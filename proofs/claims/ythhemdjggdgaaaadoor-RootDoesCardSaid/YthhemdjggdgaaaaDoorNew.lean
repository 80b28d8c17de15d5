/- A disk of zeros; a limit. -/
import Derived.Test.YthhemdjggdgaaaaDoorRread
namespace Go.Proofs.YthhemdjggdgaaaaDoor
open Go.RowKit
set_option linter.unusedVariables false

def zeros (n : Nat) : Bs := List.replicate n 0
theorem zeros_len (n : Nat) : (zeros n).length = n := by unfold zeros; simp
theorem zero_bytes (n : Nat) : (madeCells (Value.int .u8 0).cells (n * 1)).toList = byt (zeros n) := by
  unfold zeros byt
  simp [madeCells, Value.cells]
  apply List.ext_getElem
  · simp
  · intro i h1 h2
    simp
    rw [Nat.mod_one]
    rfl
/-- A new disk of so many sectors. -/
def fresh (k : Nat) : Dk := ⟨zeros (k * 32), [], -1⟩
theorem fresh_n (k : Nat) : (fresh k).n = k := by unfold fresh Dk.n; rw [zeros_len]; omega
theorem fresh_good {k : Nat} (h1 : 1 ≤ k) (h2 : k ≤ 8192) : Good (fresh k) :=
  ⟨by rw [fresh_n]; exact h1, by rw [fresh_n]; exact h2, by rw [fresh_n]; unfold fresh; rw [zeros_len]; omega, by unfold fresh; simp, by unfold fresh; simp, fun i hi => by simp [fresh] at hi, fun i hi => by simp [fresh] at hi, fun i hi => by simp [fresh] at hi, fun i hi => by simp [fresh] at hi⟩
theorem fresh_bad {k : Nat} (h : ¬ (1 ≤ k ∧ k ≤ 8192)) : ¬ Good (fresh k) := fun hg => h ⟨by have := hg.one; rwa [fresh_n] at this, by have := hg.max; rwa [fresh_n] at this⟩
def newS (k : Int) : Dk × Int := if 1 ≤ k ∧ k ≤ 8192 then (fresh k.toNat, 0) else (Dk.zero, 1)
theorem newS_ok {k : Nat} (h1 : 1 ≤ k) (h2 : k ≤ 8192) : newS k = (fresh k, 0) := by unfold newS; rw [if_pos (by omega)]; rfl
theorem newS_bad {k : Int} (h : ¬ (1 ≤ k ∧ k ≤ 8192)) : newS k = (Dk.zero, 1) := by unfold newS; rw [if_neg h]
theorem fresh_dr {base : Nat} {w : World} {A : Option Addr} {n c : Nat} {k : Nat} (h : OB base w A n c (zeros (k * 32))) : DO base w A n c none 0 0 (fresh k) := ⟨h, [], Own.nil _ _, rfl, fun i hi => by simp at hi⟩

theorem check_is (w : World) (A : Option Addr) (n c : Nat) (B : Option Addr) (m e' : Nat) (d : Dk) (l x : Int) (hl : d.left = l) (hx : chk d = x) (hr : DR w A n B m d) (hn : n ≤ 300000) (hm : m ≤ 1000) :
    Calls Tryd.prog 43 #[.agg #[.slice A n c, .slice B m e', .int .i64 l]] w fun e w' => e = .returned (.int .i64 x) ∧ Below w.heap.size w w' := by
  subst hl hx; exact check_any w A n c B m e' d hr hn hm
theorem rcheck_is (w : World) (A : Option Addr) (n c : Nat) (B : Option Addr) (m e' : Nat) (d : Dk) (l x : Int) (hl : d.left = l) (hx : chk d = x) (hr : DR w A n B m d) (hn : n ≤ 300000) (hm : m ≤ 1000) :
    Calls Tryd.prog 32 #[.agg #[.slice A n c, .slice B m e', .int .i64 l]] w fun e w' => e = .returned (.int .i64 x) ∧ Below w.heap.size w w' := by
  subst hl hx; exact rcheck_any w A n c B m e' d hr hn hm

set_option maxRecDepth 100000 in
set_option maxHeartbeats 2000000 in
theorem new_any (w : World) (k : Int) : Calls Tryd.prog 26 #[.int .i64 k] w (DPost w (newS k).1 (newS k).2) := by
  obtain ⟨i0, hi0, hz0, hz1, hz2⟩ := info_parts u8_info
  obtain ⟨N, hN⟩ : ∃ N : Nat, N = (max (min k 8193) 0).toNat := ⟨_, rfl⟩
  have hN1 : N ≤ 8193 := by omega
  have hNz : IntKind.i64.wrap ((N : Int) * 32) = (N : Int) * 32 := by rw [IntKind.wrap_i64]; omega
  have HL : Hid (∀ j, Dk.left (fresh j) = -1) := fun _ => rfl
  have zb : Hid (Below w.heap.size w (w.alloc (.cells #[.slice none 0 0, .slice none 0 0, .int .i64 0] 31))) := below_alloc _ _
  by_cases h : 1 ≤ k ∧ k ≤ 8192
  · obtain rfl : k = N := by omega
    have h1 : 1 ≤ N := by omega
    have h2 : N ≤ 8192 := by omega
    have HC := hide (chk_zero (fresh_good h1 h2))
    have HS := hide (newS_ok h1 h2)
    have m1 : (N : Int) ≤ 8193 := by omega
    have m2 : (0 : Int) ≤ (N : Int) := by omega
    have m3 : ¬ (N : Int) ≤ 0 := by omega
    have m4 : ¬ (N : Int) < 0 := by omega
    clear h hN
    go_enter Tryd.func26, Tryd.ntmps26
    go_wp2_with (first
      | (at_make; refine wpList_make_full _ rfl (.tmp 9) (.tmp 9) 28 rfl (w.heap.size + 1) 5 i0 _ 1 Tryd.underlying28 hi0 hz0 hz1 .i64 .i64 ((N : Int) * 32) ((N : Int) * 32) (N * 32) rfl rfl (by omega) (by omega) (by rw [hz2]; omega) (by simp only [maxLen]; omega) (by simp) ?_; intro w1 ho hg; rw [zero_bytes, box_size] at ho; have hb := (Below.refl (w.alloc (.cells #[.slice none 0 0, .slice none 0 0, .int .i64 0] 31)).heap.size _).grown hg (Nat.le_refl _) (fun q hq => by cases hq); have HO := hide (fresh_dr ho); have HX := hide ((Bx.made w (.slice none 0 0) (.slice none 0 0) (.int .i64 0)).below hb); have HB := hide (Below.then zb.out hb); clear ho hg hb)
      | (go_at_call 43; (refine (check_is _ (some ⟨w.heap.size + 1, 0, none⟩) (N * 32) (N * 32) none 0 0 (fresh N) (-1) 0 (HL.out N) HC.out (HO.out.alloc _).reads (by omega) (by omega)).mono ?_); rintro e w2 ⟨rfl, hb⟩; have X2 := (Bx.made w1 (.slice (some ⟨w.heap.size + 1, 0, none⟩) (N * 32) (N * 32)) (.slice none 0 0) (.int .i64 (-1))).below hb; have Z2 := (HX.out.alloc _).below hb; have c0 := X2.c0; have c1 := X2.c1; have c2 := X2.c2; have z0 := Z2.c0; have z1 := Z2.c1; have z2 := Z2.c2; have y0 := Z2.f 0; have y1 := Z2.f 1; have y2 := Z2.f 2; have HZ2 := hide Z2; have HO2 := hide ((HO.out.alloc _).below hb); have HB2 := hide (Below.then_ (HB.out.alloc HB.out.size _) hb (by have := HB.out.size; simp; omega)); clear X2 Z2 hb))
    have hz3 := HZ2.out.set0 (u := .slice (some ⟨w.heap.size + 1, 0, none⟩) (N * 32) (N * 32)) |>.set1 (u := .slice none 0 0) |>.set2 (u := .int .i64 (-1))
    have r0 := hz3.c0
    have r1 := hz3.c1
    have r2 := hz3.c2
    rw [HS.out]
    refine bodyPost_ret (v := .tuple #[.agg #[.slice (some ⟨w.heap.size + 1, 0, none⟩) (N * 32) (N * 32), .slice none 0 0, .int .i64 (-1)], .int .i64 0]) (by simp [results, Tryd.results26, go_sem, r0, r1, r2]) rfl ⟨_, _, _, _, _, _, rfl, ?_, ?_⟩
    · exact (((HO2.out.set (by simp)).set (by simp)).set (by simp)).mono (by omega)
    · exact ((HB2.out.setCell (by simp) _).setCell (by simp) _).setCell (by simp) _
  · have HC := hide (chk_one (fresh_bad (k := N) (by omega)))
    have HS := hide (newS_bad h)
    by_cases h1 : k < 1
    · obtain rfl : N = 0 := by omega
      have m1 : k ≤ 8193 := by omega
      have m2 : k ≤ 0 := by omega
      have m3 : ¬ (0 : Int) < k := by omega
      clear h hN h1 hNz
      go_enter Tryd.func26, Tryd.ntmps26
      go_wp2_with (first
        | (at_make; refine wpList_make_full _ rfl (.tmp 9) (.tmp 9) 28 rfl (w.heap.size + 1) 5 i0 _ 1 Tryd.underlying28 hi0 hz0 hz1 .i64 .i64 ((if k < 0 then 0 else k) * 32) ((if k < 0 then 0 else k) * 32) (0 * 32) rfl rfl (by split <;> omega) (by split <;> omega) (by rw [hz2]; omega) (by simp only [maxLen]; omega) (by simp) ?_; intro w1 ho hg; rw [zero_bytes, box_size] at ho; have hb := (Below.refl (w.alloc (.cells #[.slice none 0 0, .slice none 0 0, .int .i64 0] 31)).heap.size _).grown hg (Nat.le_refl _) (fun q hq => by cases hq); have HO := hide (fresh_dr ho); have HX := hide ((Bx.made w (.slice none 0 0) (.slice none 0 0) (.int .i64 0)).below hb); have HB := hide (Below.then zb.out hb); clear ho hg hb)
        | (go_at_call 43; (refine (check_is _ (some ⟨w.heap.size + 1, 0, none⟩) 0 0 none 0 0 (fresh 0) (-1) 1 (HL.out 0) HC.out (HO.out.alloc _).reads (by omega) (by omega)).mono ?_); rintro e w2 ⟨rfl, hb⟩; have Z2 := (HX.out.alloc _).below hb; have z0 := Z2.c0; have z1 := Z2.c1; have z2 := Z2.c2; have y0 := Z2.f 0; have y1 := Z2.f 1; have y2 := Z2.f 2; have HZ2 := hide Z2; have HB2 := hide (Below.then_ (HB.out.alloc HB.out.size _) hb (by have := HB.out.size; simp; omega)); clear Z2 hb))
      all_goals
        have hz3 := HZ2.out.set0 (u := .slice none 0 0) |>.set1 (u := .slice none 0 0) |>.set2 (u := .int .i64 0)
        have r0 := hz3.c0
        have r1 := hz3.c1
        have r2 := hz3.c2
        rw [HS.out]
        refine bodyPost_ret (v := .tuple #[.agg #[.slice none 0 0, .slice none 0 0, .int .i64 0], .int .i64 1]) (by simp [results, Tryd.results26, go_sem, r0, r1, r2]) rfl ⟨_, _, _, _, _, _, rfl, DO.zero _ _, ?_⟩
        exact ((HB2.out.setCell (by simp) _).setCell (by simp) _).setCell (by simp) _
    · obtain rfl : N = 8193 := by omega
      by_cases hk : k = 8193
      · subst hk
        clear h hN h1 hNz
        go_enter Tryd.func26, Tryd.ntmps26
        go_wp2_with (first
          | (at_make; refine wpList_make_full _ rfl (.tmp 9) (.tmp 9) 28 rfl (w.heap.size + 1) 5 i0 _ 1 Tryd.underlying28 hi0 hz0 hz1 .i64 .i64 262176 262176 (8193 * 32) rfl rfl (by omega) (by omega) (by rw [hz2]; omega) (by simp only [maxLen]; omega) (by simp) ?_; intro w1 ho hg; rw [zero_bytes, box_size] at ho; have hb := (Below.refl (w.alloc (.cells #[.slice none 0 0, .slice none 0 0, .int .i64 0] 31)).heap.size _).grown hg (Nat.le_refl _) (fun q hq => by cases hq); have HO := hide (fresh_dr ho); have HX := hide ((Bx.made w (.slice none 0 0) (.slice none 0 0) (.int .i64 0)).below hb); have HB := hide (Below.then zb.out hb); clear ho hg hb)
          | (go_at_call 43; (refine (check_is _ (some ⟨w.heap.size + 1, 0, none⟩) 262176 262176 none 0 0 (fresh 8193) (-1) 1 (HL.out 8193) HC.out (HO.out.alloc _).reads (by omega) (by omega)).mono ?_); rintro e w2 ⟨rfl, hb⟩; have Z2 := (HX.out.alloc _).below hb; have z0 := Z2.c0; have z1 := Z2.c1; have z2 := Z2.c2; have y0 := Z2.f 0; have y1 := Z2.f 1; have y2 := Z2.f 2; have HZ2 := hide Z2; have HB2 := hide (Below.then_ (HB.out.alloc HB.out.size _) hb (by have := HB.out.size; simp; omega)); clear Z2 hb))
        all_goals
          have hz3 := HZ2.out.set0 (u := .slice none 0 0) |>.set1 (u := .slice none 0 0) |>.set2 (u := .int .i64 0)
          have r0 := hz3.c0
          have r1 := hz3.c1
          have r2 := hz3.c2
          rw [HS.out]
          refine bodyPost_ret (v := .tuple #[.agg #[.slice none 0 0, .slice none 0 0, .int .i64 0], .int .i64 1]) (by simp [results, Tryd.results26, go_sem, r0, r1, r2]) rfl ⟨_, _, _, _, _, _, rfl, DO.zero _ _, ?_⟩
          exact ((HB2.out.setCell (by simp) _).setCell (by simp) _).setCell (by simp) _
      · have hk1 : 8193 < k := by omega
        have hk2 : ¬ k ≤ 8193 := by omega
        clear h hN h1 hNz hk
        go_enter Tryd.func26, Tryd.ntmps26
        go_wp2_with (first
          | (at_make; refine wpList_make_full _ rfl (.tmp 9) (.tmp 9) 28 rfl (w.heap.size + 1) 5 i0 _ 1 Tryd.underlying28 hi0 hz0 hz1 .i64 .i64 262176 262176 (8193 * 32) rfl rfl (by omega) (by omega) (by rw [hz2]; omega) (by simp only [maxLen]; omega) (by simp) ?_; intro w1 ho hg; rw [zero_bytes, box_size] at ho; have hb := (Below.refl (w.alloc (.cells #[.slice none 0 0, .slice none 0 0, .int .i64 0] 31)).heap.size _).grown hg (Nat.le_refl _) (fun q hq => by cases hq); have HO := hide (fresh_dr ho); have HX := hide ((Bx.made w (.slice none 0 0) (.slice none 0 0) (.int .i64 0)).below hb); have HB := hide (Below.then zb.out hb); clear ho hg hb)
          | (go_at_call 43; (refine (check_is _ (some ⟨w.heap.size + 1, 0, none⟩) 262176 262176 none 0 0 (fresh 8193) (-1) 1 (HL.out 8193) HC.out (HO.out.alloc _).reads (by omega) (by omega)).mono ?_); rintro e w2 ⟨rfl, hb⟩; have Z2 := (HX.out.alloc _).below hb; have z0 := Z2.c0; have z1 := Z2.c1; have z2 := Z2.c2; have y0 := Z2.f 0; have y1 := Z2.f 1; have y2 := Z2.f 2; have HZ2 := hide Z2; have HB2 := hide (Below.then_ (HB.out.alloc HB.out.size _) hb (by have := HB.out.size; simp; omega)); clear Z2 hb))
        all_goals
          have hz3 := HZ2.out.set0 (u := .slice none 0 0) |>.set1 (u := .slice none 0 0) |>.set2 (u := .int .i64 0)
          have r0 := hz3.c0
          have r1 := hz3.c1
          have r2 := hz3.c2
          rw [HS.out]
          refine bodyPost_ret (v := .tuple #[.agg #[.slice none 0 0, .slice none 0 0, .int .i64 0], .int .i64 1]) (by simp [results, Tryd.results26, go_sem, r0, r1, r2]) rfl ⟨_, _, _, _, _, _, rfl, DO.zero _ _, ?_⟩
          exact ((HB2.out.setCell (by simp) _).setCell (by simp) _).setCell (by simp) _
end Go.Proofs.YthhemdjggdgaaaaDoor
