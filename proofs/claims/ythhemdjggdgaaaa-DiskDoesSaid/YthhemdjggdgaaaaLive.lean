/- live. -/
import Derived.Test.YthhemdjggdgaaaaLiveP
namespace Go.Proofs.Ythhemdjggdgaaaa
open Go.RowKit
set_option linter.unusedVariables false

theorem mask1_br (w : World) : BR (w.alloc (.cells #[.int .u8 1] 5)) (some ⟨w.heap.size, 0, none⟩) 1 [1] := by
  refine ⟨rfl, fun _ => ⟨_, rfl, by simp, fun j u h => ?_⟩⟩
  cases j with
  | zero =>
    have e : u = .int .u8 1 := by
      have : (byt [1])[0]? = some (Value.int .u8 1) := rfl
      rw [this] at h
      exact (Option.some.inj h).symm
    subst e
    exact box_cell w #[.int .u8 1] 5 0 (.int .u8 1) rfl
  | succ j => simp [byt] at h
theorem mask3_br (w : World) (b : Nat) (u v t : Value) : BR ((((w.setCell ⟨b, 0, none⟩ u).setCell ⟨b, 1, none⟩ v).setCell ⟨b, 2, none⟩ t).alloc (.cells #[.int .u8 1] 5)) (some ⟨w.heap.size, 0, none⟩) 1 [1] := by
  have h := mask1_br (((w.setCell ⟨b, 0, none⟩ u).setCell ⟨b, 1, none⟩ v).setCell ⟨b, 2, none⟩ t)
  rwa [heap_boxed] at h
theorem live1_dry : live1.dry.length ≤ 300000 := by decide +kernel
theorem live1_wets : live1.wet.length ≤ 1000 := by decide +kernel
theorem live2_dry : live2.dry.length = 64 := by decide +kernel
theorem live2_wets : live2.wet.length ≤ 1000 := by decide +kernel
theorem live3_len : live3.length = 32 := by decide +kernel
theorem fresh2_dry : (fresh 2).dry.length ≤ 300000 := by decide +kernel
theorem fresh2_wet : (fresh 2).wet.length ≤ 1000 := by decide +kernel
set_option maxRecDepth 100000 in
set_option maxHeartbeats 2000000 in
theorem live_any (w : World) : Calls Try.prog 9 #[] w fun e w' => e = .returned (.bool true) ∧ Below w.heap.size w w' := by
  obtain ⟨i0, hi0, hz0, hz1, hz2⟩ := info_parts u8_info
  have HN : Hid (newS 2 = (fresh 2, 0)) := newS_ok (k := 2) (by omega) (by omega)
  have W1s := hide live1_is
  have W2s := hide live2_is
  have W3s := hide live3_is
  go_enter Try.func9, Try.ntmps9
  go_wp2_with (first
    | (at_make; refine wpList_make_full _ rfl (.const (.int .i64 32)) (.const (.int .i64 32)) 22 rfl w.heap.size 5 i0 _ 1 Try.underlying22 hi0 hz0 hz1 .i64 .i64 32 32 32 rfl rfl (by omega) (by omega) (by rw [hz2]; omega) (by simp only [maxLen]; omega) (by omega) ?_; intro w1 ho hg; rw [show 32 * 1 = 32 * 1 from rfl, zero_bytes] at ho; have y0 := World.ownsRow.frozenAt ho 0; have y4 := World.ownsRow.frozenAt ho 4; have a0 : w1.cell? ⟨w.heap.size, 0, none⟩ = some (.int .u8 0) := (World.ownsRow.cellAt ho 0 (by omega)).trans rfl; have a4 : w1.cell? ⟨w.heap.size, 4, none⟩ = some (.int .u8 0) := (World.ownsRow.cellAt ho 4 (by omega)).trans rfl; have HO := hide ho; have HB1 := hide ((((Below.refl w.heap.size w).grown hg (Nat.le_refl _) (fun q hq => by cases hq)).setCell (p := ⟨w.heap.size, 0, none⟩) (Nat.le_refl _) (.int .u8 7)).setCell (p := ⟨w.heap.size, 4, none⟩) (Nat.le_refl _) (.int .u8 9)); have HB : Hid (OB w.heap.size ((w1.setCell ⟨w.heap.size, 0, none⟩ (.int .u8 7)).setCell ⟨w.heap.size, 4, none⟩ (.int .u8 9)) (some ⟨w.heap.size, 0, none⟩) 32 32 liveB) := ((World.ownsRow.stored ho 0 (.int .u8 7)).1.stored 4 (.int .u8 9)).1; clear ho hg)
    | (go_at_call 25; refine (new_any _ 2).mono ?_; rw [HN.out]; rintro e w2 ⟨A2, n2, c2, B2, m2, e2, rfl, ho, hb⟩; have HO2 := hide ho; have HB2 := hide (Below.then_ HB1.out hb HB1.out.size); have HBR := hide (HB.out.below hb); have hn2 : n2 ≤ 300000 := Nat.le_trans (Nat.le_of_eq HO2.out.1.len.symm) fresh2_dry; have hm2 : m2 ≤ 1000 := Nat.le_trans (Nat.le_of_eq HO2.out.reads.wlen.symm) fresh2_wet; clear ho hb)
    | (go_at_call 18; refine (write_any _ A2 n2 c2 B2 m2 e2 (fresh 2) (fresh 2).left 1 (some ⟨w.heap.size, 0, none⟩) 32 32 liveB rfl (HO2.out.reads.alloc _) (HBR.out.reads.alloc _) hn2 hm2).mono ?_; rw [W1s.out]; rintro e w3 ⟨A3, n3, c3, B3, m3, e3, rfl, ho, hb⟩; have X3 := (Bx.made w2 (.slice A2 n2 c2) (.slice B2 m2 e2) (.int .i64 (fresh 2).left)).below hb; have k0 := X3.c0; have k1 := X3.c1; have k2 := X3.c2; have f0 := X3.f 0; have f1 := X3.f 1; have f2 := X3.f 2; have HX3 := hide X3; have HO3 := hide ho; have HB3 := hide (Below.then_ (HB2.out.alloc HB2.out.size _) hb (Nat.le_trans HB2.out.size (by simp))); have hn3 : n3 ≤ 300000 := Nat.le_trans (Nat.le_of_eq HO3.out.1.len.symm) live1_dry; have hm3 : m3 ≤ 1000 := Nat.le_trans (Nat.le_of_eq HO3.out.reads.wlen.symm) live1_wets; clear X3 ho hb)
    | (go_at_call 12; refine (crash_any _ A3 n3 c3 B3 m3 e3 live1 (some ⟨w3.heap.size, 0, none⟩) 1 1 [1] ((HO3.out.boxed (b := w2.heap.size) (by simp)).reads.alloc _) (mask3_br _ _ _ _ _) hn3 hm3).mono ?_; rw [W2s.out]; rintro e w4 ⟨A4, n4, c4, B4, m4, e4, rfl, ho, hb⟩; obtain rfl : 64 = n4 := live2_dry.symm.trans ho.1.len; obtain ⟨g4, rfl⟩ := row_addr ho.1 (show 0 < 64 by decide); have hc4 := (row_cap ho.1).1; have hm4 : m4 ≤ 1000 := Nat.le_trans (Nat.le_of_eq ho.reads.wlen.symm) live2_wets; have HLT := hide ((HX3.out.boxed (u := .slice A3 n3 c3) (v := .slice B3 m3 e3) (t := .int .i64 live1.left)).alloc (.cells #[.int .u8 1] 5)).lt; have hb3 := Below.alloc (below_boxed (b := w2.heap.size) (u := .slice A3 n3 c3) (v := .slice B3 m3 e3) (t := .int .i64 live1.left) HB3.out HB2.out.size) (by rw [heap_boxed]; exact HB3.out.size) (.cells #[.int .u8 1] 5); have HB4 := hide (Below.then_ hb3 hb hb3.size); clear hb3; have X4 := ((HX3.out.boxed (u := .slice A3 n3 c3) (v := .slice B3 m3 e3) (t := .int .i64 live1.left)).alloc (.cells #[.int .u8 1] 5)).below hb; have k0 := X4.c0; have k1 := X4.c1; have k2 := X4.c2; have f0 := X4.f 0; have f1 := X4.f 1; have f2 := X4.f 2; have HX4 := hide X4; have HO4 := hide ho; clear X4 ho hb)
    | (go_at_call 16; refine (read_any _ (some ⟨g4, 0, none⟩) 64 c4 B4 m4 e4 live2 1 (HO4.out.boxed (b := w2.heap.size) HLT.out).reads (by omega) hm4 hc4).mono ?_; rw [W3s.out]; rintro e w5 ⟨A5, n5, c5, rfl, ho, hb⟩; obtain rfl : 32 = n5 := live3_len.symm.trans ho.len; obtain ⟨g5, rfl⟩ := row_addr ho (show 0 < 32 by decide); have x0 : w5.cell? ⟨g5, 0, none⟩ = some (.int .u8 7) := (World.ownsRow.cellAt ho 0 (by omega)).trans rfl; have x4 : w5.cell? ⟨g5, 4, none⟩ = some (.int .u8 0) := (World.ownsRow.cellAt ho 4 (by omega)).trans rfl; have hb4 := below_boxed (b := w2.heap.size) (u := .slice (some ⟨g4, 0, none⟩) 64 c4) (v := .slice B4 m4 e4) (t := .int .i64 live2.left) HB4.out HB2.out.size; have HB5 := hide (Below.then_ hb4 hb hb4.size); clear ho hb hb4))
  go_ret
  exact ⟨rfl, HB5.out⟩
end Go.Proofs.Ythhemdjggdgaaaa
