/- The reference's finding of the greatest root. -/
import Derived.Test.YthhemdjggdgaaaaDoorRrof
import Derived.Test.YthhemdjggdgaaaaDoorRfind
import Derived.Test.YthhemdjggdgaaaaDoorRwrite
import Derived.Test.YthhemdjggdgaaaaDoorRsync
import Derived.Test.YthhemdjggdgaaaaDoorPlRTo
import Derived.Test.YthhemdjggdgaaaaDoorRread
namespace Go.Proofs.YthhemdjggdgaaaaDoor
open Go.RowKit
set_option linter.unusedVariables false

set_option maxRecDepth 100000 in
set_option maxHeartbeats 4000000 in
theorem rrwrite_any (w : World) (A : Option Addr) (n c : Nat) (B : Option Addr) (m e' : Nat) (d : Dk) (l : Int) (hl : d.left = l) (r : Rt) (hr : DR w A n B m d) (hn : n ≤ 300000) (hm : m ≤ 900) (hs : r.sum < 4294967296) :
    Calls Tryd.prog 16 #[.agg #[.slice A n c, .slice B m e', .int .i64 l], rtv r] w (DPost w (rtwS d r).1 (rtwS d r).2) := by
  subst hl
  have hdl := hr.dlen
  have hwl := hr.wlen
  obtain ⟨gen, at_, len, long, sum, next⟩ := r
  obtain ⟨R, hR⟩ : ∃ R : Rt, R = ⟨gen, at_, len, long, sum, next⟩ := ⟨_, rfl⟩
  have oc := fun (w : World) => rroct_any w ⟨gen, at_, len, long, sum, next⟩ hs
  unfold rtv at oc ⊢
  simp only at oc ⊢
  obtain ⟨W0, hW0⟩ : ∃ W0, W0 = (((w.alloc (.cells #[.slice A n c, .slice B m e', .int .i64 d.left] 31)).alloc (.cells #[.int .u64 gen, .int .i64 at_, .int .i64 len, .int .i64 long, .int .u32 sum, .int .u64 next] 27)).alloc (.cells #[.slice none 0 0, .slice none 0 0, .int .i64 0] 31)) := ⟨_, rfl⟩
  have hb0 : Below w.heap.size w W0 := by rw [hW0]; exact (below_alloc2 w _ _).alloc (by simp; omega) _
  have HX0 : Hid (Bx W0 w.heap.size (.slice A n c) (.slice B m e') (.int .i64 d.left)) := by rw [hW0]; exact ((Bx.made w _ _ _).alloc _).alloc _
  have HQ0 : Hid (RB W0 (w.heap.size + 1) (.int .u64 gen) (.int .i64 at_) (.int .i64 len) (.int .i64 long) (.int .u32 sum) (.int .u64 next)) := by
    rw [hW0]
    have := (RB.made (w.alloc (.cells #[.slice A n c, .slice B m e', .int .i64 d.left] 31)) (.int .u64 gen) (.int .i64 at_) (.int .i64 len) (.int .i64 long) (.int .u32 sum) (.int .u64 next)).below (below_alloc _ (.cells #[.slice none 0 0, .slice none 0 0, .int .i64 0] 31))
    rw [box_size] at this
    exact this
  have HZ0 : Hid (Bx W0 (w.heap.size + 1 + 1) (.slice none 0 0) (.slice none 0 0) (.int .i64 0)) := by
    rw [hW0]; exact Bx.made_ _ _ (by simp) _ _ _
  have HB0 := hide hb0
  have HS0 : Hid (w.heap.size + 3 ≤ W0.heap.size) := by show _ ≤ _; rw [hW0]; simp
  have HR0 : Hid (DR W0 A n B m d) := hr.below hb0
  rw [hW0] at HX0 HQ0 HZ0 HB0 HS0 HR0
  clear hW0 hb0 hr
  obtain ⟨ys, x, hys⟩ : ∃ ys x, octS ⟨gen, at_, len, long, sum, next⟩ = (ys, x) := ⟨_, _, rfl⟩
  simp only [hys] at oc
  have g1 : ((gen : Int)).tmod 2 = ((gen % 2 : Nat) : Int) := by rw [Int.tmod_eq_emod_of_nonneg (by omega)]; omega
  have g2 : IntKind.i64.wrap ((gen % 2 : Nat) : Int) = ((gen % 2 : Nat) : Int) := IntWalk.i64_in _ (by omega)
  have HYS := hide hys
  by_cases hx : x = 0
  · subst hx
    by_cases hf : fitS d = 0
    · have hcd : chk d = 0 := by rw [chk_zero (fit_good hf).1]
      have h96 : 96 ≤ n := by have h1 := (fit_good hf).2; have h2 := (fit_good hf).1.whole; omega
      have h96z : ¬ (n : Int) < 96 := by omega
      have HF := hide hcd
      obtain ⟨X, e, hX⟩ : ∃ X e, writeS d ((gen % 2 : Nat) : Int) ys = (X, e) := ⟨_, _, rfl⟩
      have HWR : Hid (writeS d ((gen : Int) % 2) ys = (X, e)) := by show _ = _; rw [← hX]; congr 1
      have HLX : Hid (X.dry.length ≤ 300000 ∧ X.wet.length ≤ 1000) := by
        have := writeS_len d ((gen % 2 : Nat) : Int) ys
        rw [hX] at this
        have h1 := this.1
        have h2 := this.2
        simp only at h1 h2
        exact ⟨by omega, by omega⟩
      by_cases he : e = 0
      · subst he
        obtain ⟨S, i, hS⟩ : ∃ S i, syncS X = (S, i) := ⟨_, _, rfl⟩
        have HSY := hide hS
        have HS : Hid (rtwS d ⟨gen, at_, len, long, sum, next⟩ = (S, i)) := by
          show _ = _
          unfold rtwS
          simp only [hys, hX, hf, hS]
          simp
        clear hX hS hf hys hR
        go_enter Tryd.func16, Tryd.ntmps16
        go_wp2_with (first
          | (go_at_call 12; (with_reducible refine (oc _).mono ?_); rintro e w1 ⟨Ay, ny, cy, rfl, ho, hb⟩; have HY := hide ho; have X1 := HX0.out.below hb; have k0 := X1.c0; have k1 := X1.c1; have k2 := X1.c2; have HX1 := hide X1; have Q1 := HQ0.out.below hb; have qq0 := Q1.c0; have HQ1 := hide Q1; have Z1 := HZ0.out.below hb; have z0 := Z1.c0; have z1 := Z1.c1; have z2 := Z1.c2; have y0 := Z1.f 0; have y1 := Z1.f 1; have y2 := Z1.f 2; have HZ1 := hide Z1; have HR1 := hide (HR0.out.below hb); have HS1 := hide (Nat.le_trans HS0.out hb.size); have HB1 := hide (Below.then_ HB0.out hb HB0.out.size); clear X1 Q1 Z1 ho hb)
          | (go_at_call 32; (with_reducible refine (rcheck_any _ A n c B m e' d HR1.out hn (by omega)).mono ?_); rw [HF.out]; rintro e w2 ⟨rfl, hb⟩; have HY2 := hide (HY.out.below hb); have X1 := HX1.out.below hb; have k0 := X1.c0; have k1 := X1.c1; have k2 := X1.c2; have f0 := X1.f 0; have f1 := X1.f 1; have f2 := X1.f 2; have HX2 := hide X1; have Q1 := HQ1.out.below hb; have qq0 := Q1.c0; have Z1 := HZ1.out.below hb; have z0 := Z1.c0; have z1 := Z1.c1; have z2 := Z1.c2; have y0 := Z1.f 0; have y1 := Z1.f 1; have y2 := Z1.f 2; have HZ2 := hide Z1; have HR2 := hide (HR1.out.below hb); have HS2 := hide (Nat.le_trans HS1.out hb.size); have HB2 := hide (Below.then_ HB1.out hb HB1.out.size); clear X1 Q1 Z1 hb)
          | (go_at_call 33; (with_reducible refine (rwrite_any _ A n c B m e' d ((gen : Int) % 2) Ay ny cy ys HR2.out HY2.out.reads hn (by omega)).mono ?_); rw [HWR.out]; rintro e w3 ⟨A2, n2, c2, B2, m2, e2, rfl, ho, hb⟩; have hn2 : n2 ≤ 300000 := (by have h1 : X.dry.length = n2 := ho.reads.dlen; have h2 := HLX.out.1; omega); have hm2 : m2 ≤ 1000 := (by have h1 : X.wet.length = m2 := ho.reads.wlen; have h2 := HLX.out.2; omega); have X1 := HX2.out.below hb; have s0 := X1.c0; have s1 := X1.c1; have s2 := X1.c2; have g0 := X1.f 0; have g1 := X1.f 1; have g2 := X1.f 2; have X2 := X1.boxed (u := .slice A2 n2 c2) (v := .slice B2 m2 e2) (t := .int .i64 X.left); have k0 := X2.c0; have k1 := X2.c1; have k2 := X2.c2; have HX3 := hide X2; have Z1 := (HZ2.out.below hb).beside (k := w.heap.size) (u := .slice A2 n2 c2) (v := .slice B2 m2 e2) (t := .int .i64 X.left) (by omega); have z0 := Z1.c0; have z1 := Z1.c1; have z2 := Z1.c2; have y0 := Z1.f 0; have y1 := Z1.f 1; have y2 := Z1.f 2; have HZ3 := hide Z1; have HO3 := hide (ho.boxed (b := w.heap.size) (u := .slice A2 n2 c2) (v := .slice B2 m2 e2) (t := .int .i64 X.left) (Nat.lt_of_lt_of_le (show w.heap.size < w.heap.size + 3 by omega) HS2.out)); have HB3 := hide (below_boxed (b := w.heap.size) (u := .slice A2 n2 c2) (v := .slice B2 m2 e2) (t := .int .i64 X.left) (Below.then_ HB2.out hb HB2.out.size) (Nat.le_refl _)); have HS3 : Hid (w.heap.size + 3 ≤ w3.heap.size) := Nat.le_trans HS2.out hb.size; clear X1 X2 Z1 ho hb)
          | (go_at_call 34; (with_reducible refine (rsync_any _ A2 n2 c2 B2 m2 e2 X HO3.out.reads hn2 hm2).mono ?_); rw [HSY.out]; rintro e w4 ⟨A3, n3, c3, B3, m3, e3, rfl, ho, hb⟩; have Z1 := HZ3.out.below hb; have z0 := Z1.c0; have z1 := Z1.c1; have z2 := Z1.c2; have y0 := Z1.f 0; have y1 := Z1.f 1; have y2 := Z1.f 2; have HZ4 := hide Z1; have HO4 := hide (ho.boxed (b := w.heap.size + 1 + 1) (u := .slice A3 n3 c3) (v := .slice B3 m3 e3) (t := .int .i64 S.left) (by rw [heap_boxed]; exact Nat.lt_of_lt_of_le (show w.heap.size + 1 + 1 < w.heap.size + 3 by omega) HS3.out)); have HSZ : Hid (w.heap.size ≤ w3.heap.size) := Nat.le_trans (by omega) HS3.out; have HB4 := hide (below_boxed (b := w.heap.size + 1 + 1) (u := .slice A3 n3 c3) (v := .slice B3 m3 e3) (t := .int .i64 S.left) (Below.then_ HB3.out hb HB3.out.size) (by omega)); clear Z1 ho hb))
        have hz6 := HZ4.out.boxed (u := .slice A3 n3 c3) (v := .slice B3 m3 e3) (t := .int .i64 S.left)
        have r0 := hz6.c0
        have r1 := hz6.c1
        have r2 := hz6.c2
        rw [HS.out]
        exact bodyPost_ret (v := .tuple #[.agg #[.slice A3 n3 c3, .slice B3 m3 e3, .int .i64 S.left], .int .i64 i]) (by simp [results, Tryd.results16, go_sem, r0, r1, r2]) rfl ⟨A3, n3, c3, B3, m3, e3, rfl, HO4.out.mono (by rw [heap_boxed]; exact HSZ.out), HB4.out⟩
      · have hez : (e != 0) = true := by rw [bne_iff_ne]; exact he
        have HS : Hid (rtwS d ⟨gen, at_, len, long, sum, next⟩ = (Dk.zero, e)) := by
          show _ = _
          unfold rtwS
          simp only [hys, hX, hf]
          simp [he]
        clear hX hf hys hR
        go_enter Tryd.func16, Tryd.ntmps16
        go_wp2_with (first
          | (go_at_call 12; (with_reducible refine (oc _).mono ?_); rintro e w1 ⟨Ay, ny, cy, rfl, ho, hb⟩; have HY := hide ho; have X1 := HX0.out.below hb; have k0 := X1.c0; have k1 := X1.c1; have k2 := X1.c2; have HX1 := hide X1; have Q1 := HQ0.out.below hb; have qq0 := Q1.c0; have HQ1 := hide Q1; have Z1 := HZ0.out.below hb; have z0 := Z1.c0; have z1 := Z1.c1; have z2 := Z1.c2; have y0 := Z1.f 0; have y1 := Z1.f 1; have y2 := Z1.f 2; have HZ1 := hide Z1; have HR1 := hide (HR0.out.below hb); have HS1 := hide (Nat.le_trans HS0.out hb.size); have HB1 := hide (Below.then_ HB0.out hb HB0.out.size); clear X1 Q1 Z1 ho hb)
          | (go_at_call 32; (with_reducible refine (rcheck_any _ A n c B m e' d HR1.out hn (by omega)).mono ?_); rw [HF.out]; rintro e w2 ⟨rfl, hb⟩; have HY2 := hide (HY.out.below hb); have X1 := HX1.out.below hb; have k0 := X1.c0; have k1 := X1.c1; have k2 := X1.c2; have f0 := X1.f 0; have f1 := X1.f 1; have f2 := X1.f 2; have HX2 := hide X1; have Q1 := HQ1.out.below hb; have qq0 := Q1.c0; have Z1 := HZ1.out.below hb; have z0 := Z1.c0; have z1 := Z1.c1; have z2 := Z1.c2; have y0 := Z1.f 0; have y1 := Z1.f 1; have y2 := Z1.f 2; have HZ2 := hide Z1; have HR2 := hide (HR1.out.below hb); have HS2 := hide (Nat.le_trans HS1.out hb.size); have HB2 := hide (Below.then_ HB1.out hb HB1.out.size); clear X1 Q1 Z1 hb)
          | (go_at_call 33; (with_reducible refine (rwrite_any _ A n c B m e' d ((gen : Int) % 2) Ay ny cy ys HR2.out HY2.out.reads hn (by omega)).mono ?_); rw [HWR.out]; rintro e w3 ⟨A2, n2, c2, B2, m2, e2, rfl, ho, hb⟩; have hn2 : n2 ≤ 300000 := (by have h1 : X.dry.length = n2 := ho.reads.dlen; have h2 := HLX.out.1; omega); have hm2 : m2 ≤ 1000 := (by have h1 : X.wet.length = m2 := ho.reads.wlen; have h2 := HLX.out.2; omega); have X1 := HX2.out.below hb; have s0 := X1.c0; have s1 := X1.c1; have s2 := X1.c2; have g0 := X1.f 0; have g1 := X1.f 1; have g2 := X1.f 2; have X2 := X1.boxed (u := .slice A2 n2 c2) (v := .slice B2 m2 e2) (t := .int .i64 X.left); have k0 := X2.c0; have k1 := X2.c1; have k2 := X2.c2; have HX3 := hide X2; have Z1 := (HZ2.out.below hb).beside (k := w.heap.size) (u := .slice A2 n2 c2) (v := .slice B2 m2 e2) (t := .int .i64 X.left) (by omega); have z0 := Z1.c0; have z1 := Z1.c1; have z2 := Z1.c2; have y0 := Z1.f 0; have y1 := Z1.f 1; have y2 := Z1.f 2; have HZ3 := hide Z1; have HO3 := hide (ho.boxed (b := w.heap.size) (u := .slice A2 n2 c2) (v := .slice B2 m2 e2) (t := .int .i64 X.left) (Nat.lt_of_lt_of_le (show w.heap.size < w.heap.size + 3 by omega) HS2.out)); have HB3 := hide (below_boxed (b := w.heap.size) (u := .slice A2 n2 c2) (v := .slice B2 m2 e2) (t := .int .i64 X.left) (Below.then_ HB2.out hb HB2.out.size) (Nat.le_refl _)); have HS3 : Hid (w.heap.size + 3 ≤ w3.heap.size) := Nat.le_trans HS2.out hb.size; clear X1 X2 Z1 ho hb))
        have hz6 := HZ3.out.boxed (u := .slice none 0 0) (v := .slice none 0 0) (t := .int .i64 0)
        have r0 := hz6.c0
        have r1 := hz6.c1
        have r2 := hz6.c2
        rw [HS.out]
        exact bodyPost_ret (v := .tuple #[.agg #[.slice none 0 0, .slice none 0 0, .int .i64 0], .int .i64 e]) (by simp [results, Tryd.results16, go_sem, r0, r1, r2]) rfl ⟨_, _, _, _, _, _, rfl, DO.zero _ _, below_boxed HB3.out (by omega)⟩
    · by_cases hcd : chk d = 0
      · have h96z : (n : Int) < 96 := by
          have h1 : d.dry.length ≤ 64 := by
            rcases Nat.lt_or_ge 64 d.dry.length with h | h
            · exact absurd (by unfold fitS; rw [if_neg (by omega)]; exact hcd) hf
            · exact h
          omega
        have HF := hide hcd
        have HS : Hid (rtwS d ⟨gen, at_, len, long, sum, next⟩ = (Dk.zero, 1)) := by
          show _ = _
          unfold rtwS
          rw [if_pos (.inr hf)]
        clear hys hR hcd
        go_enter Tryd.func16, Tryd.ntmps16
        go_wp2_with (first
          | (go_at_call 12; (with_reducible refine (oc _).mono ?_); rintro e w1 ⟨Ay, ny, cy, rfl, ho, hb⟩; have HY := hide ho; have X1 := HX0.out.below hb; have k0 := X1.c0; have k1 := X1.c1; have k2 := X1.c2; have HX1 := hide X1; have Q1 := HQ0.out.below hb; have qq0 := Q1.c0; have HQ1 := hide Q1; have Z1 := HZ0.out.below hb; have z0 := Z1.c0; have z1 := Z1.c1; have z2 := Z1.c2; have y0 := Z1.f 0; have y1 := Z1.f 1; have y2 := Z1.f 2; have HZ1 := hide Z1; have HR1 := hide (HR0.out.below hb); have HS1 := hide (Nat.le_trans HS0.out hb.size); have HB1 := hide (Below.then_ HB0.out hb HB0.out.size); clear X1 Q1 Z1 ho hb)
          | (go_at_call 32; (with_reducible refine (rcheck_any _ A n c B m e' d HR1.out hn (by omega)).mono ?_); rw [HF.out]; rintro e w2 ⟨rfl, hb⟩; have HY2 := hide (HY.out.below hb); have X1 := HX1.out.below hb; have k0 := X1.c0; have k1 := X1.c1; have k2 := X1.c2; have f0 := X1.f 0; have f1 := X1.f 1; have f2 := X1.f 2; have HX2 := hide X1; have Q1 := HQ1.out.below hb; have qq0 := Q1.c0; have Z1 := HZ1.out.below hb; have z0 := Z1.c0; have z1 := Z1.c1; have z2 := Z1.c2; have y0 := Z1.f 0; have y1 := Z1.f 1; have y2 := Z1.f 2; have HZ2 := hide Z1; have HR2 := hide (HR1.out.below hb); have HS2 := hide (Nat.le_trans HS1.out hb.size); have HB2 := hide (Below.then_ HB1.out hb HB1.out.size); clear X1 Q1 Z1 hb))
        have hz6 := HZ2.out.boxed (u := .slice none 0 0) (v := .slice none 0 0) (t := .int .i64 0)
        have r0 := hz6.c0
        have r1 := hz6.c1
        have r2 := hz6.c2
        rw [HS.out]
        exact bodyPost_ret (v := .tuple #[.agg #[.slice none 0 0, .slice none 0 0, .int .i64 0], .int .i64 1]) (by simp [results, Tryd.results16, go_sem, r0, r1, r2]) rfl ⟨_, _, _, _, _, _, rfl, DO.zero _ _, below_boxed HB2.out (by omega)⟩
      · have hfz : (chk d != 0) = true := by rw [bne_iff_ne]; exact hcd
        have HS : Hid (rtwS d ⟨gen, at_, len, long, sum, next⟩ = (Dk.zero, 1)) := by
          show _ = _
          unfold rtwS
          rw [if_pos (.inr hf)]
        clear hys hR
        go_enter Tryd.func16, Tryd.ntmps16
        go_wp2_with (first
          | (go_at_call 12; (with_reducible refine (oc _).mono ?_); rintro e w1 ⟨Ay, ny, cy, rfl, ho, hb⟩; have HY := hide ho; have X1 := HX0.out.below hb; have k0 := X1.c0; have k1 := X1.c1; have k2 := X1.c2; have HX1 := hide X1; have Q1 := HQ0.out.below hb; have qq0 := Q1.c0; have HQ1 := hide Q1; have Z1 := HZ0.out.below hb; have z0 := Z1.c0; have z1 := Z1.c1; have z2 := Z1.c2; have y0 := Z1.f 0; have y1 := Z1.f 1; have y2 := Z1.f 2; have HZ1 := hide Z1; have HR1 := hide (HR0.out.below hb); have HS1 := hide (Nat.le_trans HS0.out hb.size); have HB1 := hide (Below.then_ HB0.out hb HB0.out.size); clear X1 Q1 Z1 ho hb)
          | (go_at_call 32; (with_reducible refine (rcheck_any _ A n c B m e' d HR1.out hn (by omega)).mono ?_); rintro e w2 ⟨rfl, hb⟩; have HY2 := hide (HY.out.below hb); have X1 := HX1.out.below hb; have k0 := X1.c0; have k1 := X1.c1; have k2 := X1.c2; have f0 := X1.f 0; have f1 := X1.f 1; have f2 := X1.f 2; have HX2 := hide X1; have Q1 := HQ1.out.below hb; have qq0 := Q1.c0; have Z1 := HZ1.out.below hb; have z0 := Z1.c0; have z1 := Z1.c1; have z2 := Z1.c2; have y0 := Z1.f 0; have y1 := Z1.f 1; have y2 := Z1.f 2; have HZ2 := hide Z1; have HR2 := hide (HR1.out.below hb); have HS2 := hide (Nat.le_trans HS1.out hb.size); have HB2 := hide (Below.then_ HB1.out hb HB1.out.size); clear X1 Q1 Z1 hb))
        have hz6 := HZ2.out.boxed (u := .slice none 0 0) (v := .slice none 0 0) (t := .int .i64 0)
        have r0 := hz6.c0
        have r1 := hz6.c1
        have r2 := hz6.c2
        rw [HS.out]
        exact bodyPost_ret (v := .tuple #[.agg #[.slice none 0 0, .slice none 0 0, .int .i64 0], .int .i64 1]) (by simp [results, Tryd.results16, go_sem, r0, r1, r2]) rfl ⟨_, _, _, _, _, _, rfl, DO.zero _ _, below_boxed HB2.out (by omega)⟩
  · have hxz : (x != 0) = true := by rw [bne_iff_ne]; exact hx
    have HS : Hid (rtwS d ⟨gen, at_, len, long, sum, next⟩ = (Dk.zero, 1)) := by
      show _ = _
      unfold rtwS
      rw [if_pos (.inl (by rw [hys]; exact hx))]
    clear hys hR
    go_enter Tryd.func16, Tryd.ntmps16
    go_wp2_with (first
      | (go_at_call 12; (with_reducible refine (oc _).mono ?_); rintro e w1 ⟨Ay, ny, cy, rfl, ho, hb⟩; have HY := hide ho; have X1 := HX0.out.below hb; have k0 := X1.c0; have k1 := X1.c1; have k2 := X1.c2; have HX1 := hide X1; have Q1 := HQ0.out.below hb; have qq0 := Q1.c0; have HQ1 := hide Q1; have Z1 := HZ0.out.below hb; have z0 := Z1.c0; have z1 := Z1.c1; have z2 := Z1.c2; have y0 := Z1.f 0; have y1 := Z1.f 1; have y2 := Z1.f 2; have HZ1 := hide Z1; have HR1 := hide (HR0.out.below hb); have HS1 := hide (Nat.le_trans HS0.out hb.size); have HB1 := hide (Below.then_ HB0.out hb HB0.out.size); clear X1 Q1 Z1 ho hb))
    have hz6 := HZ1.out.boxed (u := .slice none 0 0) (v := .slice none 0 0) (t := .int .i64 0)
    have r0 := hz6.c0
    have r1 := hz6.c1
    have r2 := hz6.c2
    rw [HS.out]
    exact bodyPost_ret (v := .tuple #[.agg #[.slice none 0 0, .slice none 0 0, .int .i64 0], .int .i64 1]) (by simp [results, Tryd.results16, go_sem, r0, r1, r2]) rfl ⟨_, _, _, _, _, _, rfl, DO.zero _ _, below_boxed HB1.out (by omega)⟩

theorem best_zero {d : Dk} (h : (bestU d 2).gen = 0) : bestU d 2 = Rt.zero := by
  rcases best_or d with q | ⟨i, _, q⟩
  · exact q
  · have := (octs_of q).2.1.g1
    omega
theorem fit_chk {d : Dk} (h : fitS d ≠ 0) : fitS d = 1 := by
  unfold fitS at h ⊢
  by_cases h1 : d.dry.length ≤ 64
  · rw [if_pos h1]
  · rw [if_neg h1] at h ⊢
    by_cases hg : Good d
    · exact absurd (chk_zero hg) h
    · exact chk_one hg
theorem oth6 {w : World} {b k : Nat} {v0 v1 v2 v3 v4 v5 u0 u1 u2 u3 u4 u5 : Value} (h : RB w b v0 v1 v2 v3 v4 v5) (hne : b ≠ k) : RB (laidR w k u0 u1 u2 u3 u4 u5) b v0 v1 v2 v3 v4 v5 := by
  have s : ∀ {w : World} {a : Addr} {u : Value}, RB w b v0 v1 v2 v3 v4 v5 → b ≠ a.block → RB (w.setCell a u) b v0 v1 v2 v3 v4 v5 := fun {w a u} h hne => (Below.heap_setCell w a u b hne).trans h
  exact s (s (s (s (s (s h hne) hne) hne) hne) hne) hne
set_option maxRecDepth 100000 in
set_option maxHeartbeats 8000000 in
theorem rrfind_any (w : World) (A : Option Addr) (n c : Nat) (B : Option Addr) (m e' : Nat) (d : Dk) (hr : DR w A n B m d) (hn : n ≤ 300000) (hm : m ≤ 1000) (hc : n ≤ c) :
    Calls Tryd.prog 18 #[.agg #[.slice A n c, .slice B m e', .int .i64 d.left]] w (RtPost w (findS d).1 (findS d).2) := by
  obtain ⟨W0, hW0⟩ : ∃ W0, W0 = ((w.alloc (.cells #[.slice A n c, .slice B m e', .int .i64 d.left] 31)).alloc (.cells #[.int .u64 0, .int .i64 0, .int .i64 0, .int .i64 0, .int .u32 0, .int .u64 0] 27)) := ⟨_, rfl⟩
  have hb0 : Below w.heap.size w W0 := by rw [hW0]; exact below_alloc2 w _ _
  have HX0 : Hid (Bx W0 w.heap.size (.slice A n c) (.slice B m e') (.int .i64 d.left)) := by rw [hW0]; exact (Bx.made w _ _ _).alloc _
  have HZ0 : Hid (RBr W0 (w.heap.size + 1) Rt.zero) := by
    rw [hW0]
    have := RB.made (w.alloc (.cells #[.slice A n c, .slice B m e', .int .i64 d.left] 31)) (.int .u64 0) (.int .i64 0) (.int .i64 0) (.int .i64 0) (.int .u32 0) (.int .u64 0)
    rw [box_size] at this
    exact this
  have HB0 := hide hb0
  have hs0 : w.heap.size + 2 ≤ W0.heap.size := by rw [hW0]; simp
  have HS0 := hide hs0
  have HR0 : Hid (DR W0 A n B m d) := hr.below hb0
  have HRd := hide hr
  have hdl := hr.dlen
  rw [hW0] at HX0 HZ0 HB0 HS0 HR0
  clear hW0 hb0 hr hs0
  have ck := fun (w : World) (h : DR w A n B m d) => rcheck_any w A n c B m e' d h hn hm
  by_cases hf : fitS d = 0
  · have hcd : chk d = 0 := chk_zero (fit_good hf).1
    have h96 : 96 ≤ n := by have h1 := (fit_good hf).2; have h2 := (fit_good hf).1.whole; omega
    have h96z : ¬ (n : Int) < 96 := by omega
    rw [hcd] at ck
    have HF := hide hf
    clear hf hcd
    go_enter Tryd.func18, Tryd.ntmps18
    go_wp2_with (first
      | (go_at_call 32; (with_reducible refine (ck _ HR0.out).mono ?_); rintro e w1 ⟨rfl, hb⟩; have X1 := HX0.out.below hb; have k0 := X1.c0; have k1 := X1.c1; have k2 := X1.c2; have HX1 := hide X1; have Z1 : RBr w1 (w.heap.size + 1) Rt.zero := RB.below HZ0.out hb; have q0 := RB.c0 Z1; have q1 := RB.c1 Z1; have q2 := RB.c2 Z1; have q3 := RB.c3 Z1; have q4 := RB.c4 Z1; have q5 := RB.c5 Z1; have y0 := RB.f Z1 0; have y1 := RB.f Z1 1; have y2 := RB.f Z1 2; have y3 := RB.f Z1 3; have y4 := RB.f Z1 4; have y5 := RB.f Z1 5; have HZ1 := hide Z1; have HB1 := hide (Below.then_ HB0.out hb HB0.out.size); have HS1 := hide (Nat.le_trans HS0.out hb.size); clear X1 Z1 hb))
    have HX2 := hide (HX1.out.alloc (.cells #[.int .u64 0, .int .i64 0, .int .i64 0, .int .i64 0, .int .u32 0, .int .u64 0] 27))
    have HZ2 : Hid (RBr (w1.alloc (.cells #[.int .u64 0, .int .i64 0, .int .i64 0, .int .i64 0, .int .u32 0, .int .u64 0] 27)) (w.heap.size + 1) Rt.zero) := hide (RB.below HZ1.out (below_alloc _ _))
    have HQ2 : Hid (RBr (w1.alloc (.cells #[.int .u64 0, .int .i64 0, .int .i64 0, .int .i64 0, .int .u32 0, .int .u64 0] 27)) w1.heap.size Rt.zero) := hide (RB.made w1 (.int .u64 0) (.int .i64 0) (.int .i64 0) (.int .i64 0) (.int .u32 0) (.int .u64 0))
    have HB2 := hide (HB1.out.alloc HB1.out.size (.cells #[.int .u64 0, .int .i64 0, .int .i64 0, .int .i64 0, .int .u32 0, .int .u64 0] 27))
    obtain ⟨b4, hb4⟩ : ∃ b4, b4 = w1.heap.size := ⟨_, rfl⟩
    rw [← hb4] at HQ2 ⊢
    have HS2 : Hid (w.heap.size + 2 ≤ b4 ∧ b4 < (w1.alloc (.cells #[.int .u64 0, .int .i64 0, .int .i64 0, .int .i64 0, .int .u32 0, .int .u64 0] 27)).heap.size) := ⟨by rw [hb4]; exact HS1.out, by rw [hb4]; simp⟩
    clear ck HX0 HZ0 HB0 HS0 HR0 q0 q1 q2 q3 q4 q5 y0 y1 y2 y3 y4 y5 k0 k1 k2 HX1 HZ1 HB1 HS1
    go_loopw [21] (fun v wk => ∃ i : Nat, v = .int .i64 i ∧ i ≤ 2 ∧ Hid (Bx wk w.heap.size (.slice A n c) (.slice B m e') (.int .i64 d.left)) ∧ Hid (RBr wk (w.heap.size + 1) Rt.zero) ∧ Hid (RBr wk b4 (bestU d i)) ∧ Hid (Below w.heap.size w wk) ∧ Hid (w.heap.size + 2 ≤ b4 ∧ b4 < wk.heap.size)) (fun v _ => 2 - (intOf v).toNat)
    case atStart => exact ⟨0, rfl, by omega, HX2, HZ2, HQ2, HB2, HS2⟩
    case round =>
      clear HX2 HZ2 HQ2 HB2 HS2 hb4
      obtain ⟨i, rfl, hi, HX, HZ, HQ, HB, HS⟩ := hrel
      by_cases hi2 : i < 2
      · have hiz : (i : Int) < 2 := by omega
        have k0 := HX.out.c0
        have k1 := HX.out.c1
        have k2 := HX.out.c2
        have rd : ∀ w : World, DR w A n B m d → Calls Tryd.prog 35 #[.agg #[.slice A n c, .slice B m e', .int .i64 d.left], .int .i64 (i : Int)] w (RPost w (readB d (i : Int)) 0) := by
          intro w h
          have h1 := rread_any w A n c B m e' d (i : Int) h hn hm hc
          rw [readS_ok (fit_is HF.out hi2)] at h1
          exact h1
        obtain ⟨q, x, hq⟩ : ∃ q x, ofS (readB d (i : Int)) = (q, x) := ⟨_, _, rfl⟩
        have rc : ∀ (w : World) (A : Option Addr) (n c : Nat), BR w A n (readB d (i : Int)) → n ≤ 300000 → n ≤ c → Calls Tryd.prog 14 #[.slice A n c] w fun e w' => e = .returned (.tuple #[.agg #[.int .u64 q.gen, .int .i64 q.at_, .int .i64 q.len, .int .i64 q.long, .int .u32 q.sum, .int .u64 q.next], .int .i64 x]) ∧ Below w.heap.size w w' := by
          intro w A n c h1 h2 h3
          have := rrof_any w A n c _ h1 h2 h3
          rw [hq] at this
          exact this
        have HPK : Hid (bestU d (i + 1) = if x = 0 ∧ q.gen % 2 = i ∧ (bestU d i).gen < q.gen then q else bestU d i) := by
          show _ = _
          rw [bestU, pick, hq]
        have hlen := readB_len (fit_is HF.out hi2)
        clear hq
        have g1 : ((q.gen : Int)).tmod 2 = (q.gen : Int) % 2 := Int.tmod_eq_emod_of_nonneg (by omega)
        have g2 : IntKind.i64.wrap ((q.gen : Int) % 2) = (q.gen : Int) % 2 := IntWalk.i64_in _ (by omega)
        by_cases hx : x = 0
        · subst hx
          by_cases hg : q.gen % 2 = i
          · have hgz : (q.gen : Int) % 2 = (i : Int) := by omega
            by_cases hb : (bestU d i).gen < q.gen
            · have hbz : ((bestU d i).gen : Int) < (q.gen : Int) := by omega
              go_wp2_with (first
                | (go_at_call 35; (with_reducible refine (rd _ (HRd.out.below HB.out)).mono ?_); rintro e w1 ⟨Ay, ny, cy, rfl, ho, hb⟩; have HY := hide ho; have hny : ny ≤ 300000 := (by have h1 : (readB d (i : Int)).length = ny := ho.len; omega); have hcy : ny ≤ cy := ho.max; have HX1 := hide (HX.out.below hb); have HZ1 : Hid (RBr w1 (w.heap.size + 1) Rt.zero) := hide (RB.below HZ.out hb); have HQ1 : Hid (RBr w1 b4 (bestU d i)) := hide (RB.below HQ.out hb); have HB1 := hide (Below.then_ HB.out hb HB.out.size); have HS1 : Hid (w.heap.size + 2 ≤ b4 ∧ b4 < w1.heap.size) := ⟨HS.out.1, Nat.lt_of_lt_of_le HS.out.2 hb.size⟩; clear ho hb)
                | (go_at_call 14; (with_reducible refine (rc _ Ay ny cy HY.out.reads hny hcy).mono ?_); rintro e w2 ⟨rfl, hb⟩; have HX2 := hide ((HX1.out.below hb).alloc (.cells #[.int .u64 q.gen, .int .i64 q.at_, .int .i64 q.len, .int .i64 q.long, .int .u32 q.sum, .int .u64 q.next] 27)); have HZ2 : Hid (RBr (w2.alloc (.cells #[.int .u64 q.gen, .int .i64 q.at_, .int .i64 q.len, .int .i64 q.long, .int .u32 q.sum, .int .u64 q.next] 27)) (w.heap.size + 1) Rt.zero) := hide (RB.below (RB.below HZ1.out hb) (below_alloc w2 (.cells #[.int .u64 q.gen, .int .i64 q.at_, .int .i64 q.len, .int .i64 q.long, .int .u32 q.sum, .int .u64 q.next] 27))); have Q2 : RBr (w2.alloc (.cells #[.int .u64 q.gen, .int .i64 q.at_, .int .i64 q.len, .int .i64 q.long, .int .u32 q.sum, .int .u64 q.next] 27)) b4 (bestU d i) := RB.below (RB.below HQ1.out hb) (below_alloc w2 (.cells #[.int .u64 q.gen, .int .i64 q.at_, .int .i64 q.len, .int .i64 q.long, .int .u32 q.sum, .int .u64 q.next] 27)); have b0 := RB.c0 Q2; have b1 := RB.c1 Q2; have b2 := RB.c2 Q2; have b3 := RB.c3 Q2; have b4' := RB.c4 Q2; have b5 := RB.c5 Q2; have f0 := RB.f Q2 0; have f1 := RB.f Q2 1; have f2 := RB.f Q2 2; have f3 := RB.f Q2 3; have f4 := RB.f Q2 4; have f5 := RB.f Q2 5; have HQ2 := hide Q2; have HB2 := hide ((Below.then_ HB1.out hb HB1.out.size).alloc (Nat.le_trans HB1.out.size hb.size) (.cells #[.int .u64 q.gen, .int .i64 q.at_, .int .i64 q.len, .int .i64 q.long, .int .u32 q.sum, .int .u64 q.next] 27)); have HS2 : Hid (w.heap.size + 2 ≤ b4 ∧ b4 < (w2.alloc (.cells #[.int .u64 q.gen, .int .i64 q.at_, .int .i64 q.len, .int .i64 q.long, .int .u32 q.sum, .int .u64 q.next] 27)).heap.size) := ⟨HS1.out.1, Nat.lt_of_lt_of_le (Nat.lt_of_lt_of_le HS1.out.2 hb.size) (by simp)⟩; clear Q2 hb))
              go_roundw
              case rel => have hs := HS2.out; exact ⟨i + 1, by go_num, by omega, hide (((HX2.out.other (by simp; omega)).other (by simp; omega)).other (by simp; omega) |>.other (by simp; omega) |>.other (by simp; omega) |>.other (by simp; omega)), hide (oth6 HZ2.out (by omega)), hide (by rw [HPK.out, if_pos ⟨by first | trivial | rfl, hg, hb⟩]; exact RB.laid HQ2.out), hide (below_laid HB2.out (by omega)), hide ⟨hs.1, Nat.lt_of_lt_of_le hs.2 (by simp)⟩⟩
              case measure => simp [intOf]; omega
            · have hbz : ¬ ((bestU d i).gen : Int) < (q.gen : Int) := by omega
              go_wp2_with (first
                | (go_at_call 35; (with_reducible refine (rd _ (HRd.out.below HB.out)).mono ?_); rintro e w1 ⟨Ay, ny, cy, rfl, ho, hb⟩; have HY := hide ho; have hny : ny ≤ 300000 := (by have h1 : (readB d (i : Int)).length = ny := ho.len; omega); have hcy : ny ≤ cy := ho.max; have HX1 := hide (HX.out.below hb); have HZ1 : Hid (RBr w1 (w.heap.size + 1) Rt.zero) := hide (RB.below HZ.out hb); have HQ1 : Hid (RBr w1 b4 (bestU d i)) := hide (RB.below HQ.out hb); have HB1 := hide (Below.then_ HB.out hb HB.out.size); have HS1 : Hid (w.heap.size + 2 ≤ b4 ∧ b4 < w1.heap.size) := ⟨HS.out.1, Nat.lt_of_lt_of_le HS.out.2 hb.size⟩; clear ho hb)
                | (go_at_call 14; (with_reducible refine (rc _ Ay ny cy HY.out.reads hny hcy).mono ?_); rintro e w2 ⟨rfl, hb⟩; have HX2 := hide ((HX1.out.below hb).alloc (.cells #[.int .u64 q.gen, .int .i64 q.at_, .int .i64 q.len, .int .i64 q.long, .int .u32 q.sum, .int .u64 q.next] 27)); have HZ2 : Hid (RBr (w2.alloc (.cells #[.int .u64 q.gen, .int .i64 q.at_, .int .i64 q.len, .int .i64 q.long, .int .u32 q.sum, .int .u64 q.next] 27)) (w.heap.size + 1) Rt.zero) := hide (RB.below (RB.below HZ1.out hb) (below_alloc w2 (.cells #[.int .u64 q.gen, .int .i64 q.at_, .int .i64 q.len, .int .i64 q.long, .int .u32 q.sum, .int .u64 q.next] 27))); have Q2 : RBr (w2.alloc (.cells #[.int .u64 q.gen, .int .i64 q.at_, .int .i64 q.len, .int .i64 q.long, .int .u32 q.sum, .int .u64 q.next] 27)) b4 (bestU d i) := RB.below (RB.below HQ1.out hb) (below_alloc w2 (.cells #[.int .u64 q.gen, .int .i64 q.at_, .int .i64 q.len, .int .i64 q.long, .int .u32 q.sum, .int .u64 q.next] 27)); have b0 := RB.c0 Q2; have b1 := RB.c1 Q2; have b2 := RB.c2 Q2; have b3 := RB.c3 Q2; have b4' := RB.c4 Q2; have b5 := RB.c5 Q2; have f0 := RB.f Q2 0; have f1 := RB.f Q2 1; have f2 := RB.f Q2 2; have f3 := RB.f Q2 3; have f4 := RB.f Q2 4; have f5 := RB.f Q2 5; have HQ2 := hide Q2; have HB2 := hide ((Below.then_ HB1.out hb HB1.out.size).alloc (Nat.le_trans HB1.out.size hb.size) (.cells #[.int .u64 q.gen, .int .i64 q.at_, .int .i64 q.len, .int .i64 q.long, .int .u32 q.sum, .int .u64 q.next] 27)); have HS2 : Hid (w.heap.size + 2 ≤ b4 ∧ b4 < (w2.alloc (.cells #[.int .u64 q.gen, .int .i64 q.at_, .int .i64 q.len, .int .i64 q.long, .int .u32 q.sum, .int .u64 q.next] 27)).heap.size) := ⟨HS1.out.1, Nat.lt_of_lt_of_le (Nat.lt_of_lt_of_le HS1.out.2 hb.size) (by simp)⟩; clear Q2 hb))
              go_roundw
              case rel => exact ⟨i + 1, by go_num, by omega, HX2, HZ2, hide (by rw [HPK.out, if_neg (fun h => hb h.2.2)]; exact HQ2.out), HB2, HS2⟩
              case measure => simp [intOf]; omega
          · have hgz : ¬ (q.gen : Int) % 2 = (i : Int) := by omega
            go_wp2_with (first
              | (go_at_call 35; (with_reducible refine (rd _ (HRd.out.below HB.out)).mono ?_); rintro e w1 ⟨Ay, ny, cy, rfl, ho, hb⟩; have HY := hide ho; have hny : ny ≤ 300000 := (by have h1 : (readB d (i : Int)).length = ny := ho.len; omega); have hcy : ny ≤ cy := ho.max; have HX1 := hide (HX.out.below hb); have HZ1 : Hid (RBr w1 (w.heap.size + 1) Rt.zero) := hide (RB.below HZ.out hb); have HQ1 : Hid (RBr w1 b4 (bestU d i)) := hide (RB.below HQ.out hb); have HB1 := hide (Below.then_ HB.out hb HB.out.size); have HS1 : Hid (w.heap.size + 2 ≤ b4 ∧ b4 < w1.heap.size) := ⟨HS.out.1, Nat.lt_of_lt_of_le HS.out.2 hb.size⟩; clear ho hb)
              | (go_at_call 14; (with_reducible refine (rc _ Ay ny cy HY.out.reads hny hcy).mono ?_); rintro e w2 ⟨rfl, hb⟩; have HX2 := hide ((HX1.out.below hb).alloc (.cells #[.int .u64 q.gen, .int .i64 q.at_, .int .i64 q.len, .int .i64 q.long, .int .u32 q.sum, .int .u64 q.next] 27)); have HZ2 : Hid (RBr (w2.alloc (.cells #[.int .u64 q.gen, .int .i64 q.at_, .int .i64 q.len, .int .i64 q.long, .int .u32 q.sum, .int .u64 q.next] 27)) (w.heap.size + 1) Rt.zero) := hide (RB.below (RB.below HZ1.out hb) (below_alloc w2 (.cells #[.int .u64 q.gen, .int .i64 q.at_, .int .i64 q.len, .int .i64 q.long, .int .u32 q.sum, .int .u64 q.next] 27))); have Q2 : RBr (w2.alloc (.cells #[.int .u64 q.gen, .int .i64 q.at_, .int .i64 q.len, .int .i64 q.long, .int .u32 q.sum, .int .u64 q.next] 27)) b4 (bestU d i) := RB.below (RB.below HQ1.out hb) (below_alloc w2 (.cells #[.int .u64 q.gen, .int .i64 q.at_, .int .i64 q.len, .int .i64 q.long, .int .u32 q.sum, .int .u64 q.next] 27)); have b0 := RB.c0 Q2; have b1 := RB.c1 Q2; have b2 := RB.c2 Q2; have b3 := RB.c3 Q2; have b4' := RB.c4 Q2; have b5 := RB.c5 Q2; have f0 := RB.f Q2 0; have f1 := RB.f Q2 1; have f2 := RB.f Q2 2; have f3 := RB.f Q2 3; have f4 := RB.f Q2 4; have f5 := RB.f Q2 5; have HQ2 := hide Q2; have HB2 := hide ((Below.then_ HB1.out hb HB1.out.size).alloc (Nat.le_trans HB1.out.size hb.size) (.cells #[.int .u64 q.gen, .int .i64 q.at_, .int .i64 q.len, .int .i64 q.long, .int .u32 q.sum, .int .u64 q.next] 27)); have HS2 : Hid (w.heap.size + 2 ≤ b4 ∧ b4 < (w2.alloc (.cells #[.int .u64 q.gen, .int .i64 q.at_, .int .i64 q.len, .int .i64 q.long, .int .u32 q.sum, .int .u64 q.next] 27)).heap.size) := ⟨HS1.out.1, Nat.lt_of_lt_of_le (Nat.lt_of_lt_of_le HS1.out.2 hb.size) (by simp)⟩; clear Q2 hb))
            go_roundw
            case rel => exact ⟨i + 1, by go_num, by omega, HX2, HZ2, hide (by rw [HPK.out, if_neg (fun h => hg h.2.1)]; exact HQ2.out), HB2, HS2⟩
            case measure => simp [intOf]; omega
        · have hxz : (x == 0) = false := by rw [beq_eq_false_iff_ne]; exact hx
          go_wp2_with (first
            | (go_at_call 35; (with_reducible refine (rd _ (HRd.out.below HB.out)).mono ?_); rintro e w1 ⟨Ay, ny, cy, rfl, ho, hb⟩; have HY := hide ho; have hny : ny ≤ 300000 := (by have h1 : (readB d (i : Int)).length = ny := ho.len; omega); have hcy : ny ≤ cy := ho.max; have HX1 := hide (HX.out.below hb); have HZ1 : Hid (RBr w1 (w.heap.size + 1) Rt.zero) := hide (RB.below HZ.out hb); have HQ1 : Hid (RBr w1 b4 (bestU d i)) := hide (RB.below HQ.out hb); have HB1 := hide (Below.then_ HB.out hb HB.out.size); have HS1 : Hid (w.heap.size + 2 ≤ b4 ∧ b4 < w1.heap.size) := ⟨HS.out.1, Nat.lt_of_lt_of_le HS.out.2 hb.size⟩; clear ho hb)
            | (go_at_call 14; (with_reducible refine (rc _ Ay ny cy HY.out.reads hny hcy).mono ?_); rintro e w2 ⟨rfl, hb⟩; have HX2 := hide ((HX1.out.below hb).alloc (.cells #[.int .u64 q.gen, .int .i64 q.at_, .int .i64 q.len, .int .i64 q.long, .int .u32 q.sum, .int .u64 q.next] 27)); have HZ2 : Hid (RBr (w2.alloc (.cells #[.int .u64 q.gen, .int .i64 q.at_, .int .i64 q.len, .int .i64 q.long, .int .u32 q.sum, .int .u64 q.next] 27)) (w.heap.size + 1) Rt.zero) := hide (RB.below (RB.below HZ1.out hb) (below_alloc w2 (.cells #[.int .u64 q.gen, .int .i64 q.at_, .int .i64 q.len, .int .i64 q.long, .int .u32 q.sum, .int .u64 q.next] 27))); have Q2 : RBr (w2.alloc (.cells #[.int .u64 q.gen, .int .i64 q.at_, .int .i64 q.len, .int .i64 q.long, .int .u32 q.sum, .int .u64 q.next] 27)) b4 (bestU d i) := RB.below (RB.below HQ1.out hb) (below_alloc w2 (.cells #[.int .u64 q.gen, .int .i64 q.at_, .int .i64 q.len, .int .i64 q.long, .int .u32 q.sum, .int .u64 q.next] 27)); have b0 := RB.c0 Q2; have b1 := RB.c1 Q2; have b2 := RB.c2 Q2; have b3 := RB.c3 Q2; have b4' := RB.c4 Q2; have b5 := RB.c5 Q2; have f0 := RB.f Q2 0; have f1 := RB.f Q2 1; have f2 := RB.f Q2 2; have f3 := RB.f Q2 3; have f4 := RB.f Q2 4; have f5 := RB.f Q2 5; have HQ2 := hide Q2; have HB2 := hide ((Below.then_ HB1.out hb HB1.out.size).alloc (Nat.le_trans HB1.out.size hb.size) (.cells #[.int .u64 q.gen, .int .i64 q.at_, .int .i64 q.len, .int .i64 q.long, .int .u32 q.sum, .int .u64 q.next] 27)); have HS2 : Hid (w.heap.size + 2 ≤ b4 ∧ b4 < (w2.alloc (.cells #[.int .u64 q.gen, .int .i64 q.at_, .int .i64 q.len, .int .i64 q.long, .int .u32 q.sum, .int .u64 q.next] 27)).heap.size) := ⟨HS1.out.1, Nat.lt_of_lt_of_le (Nat.lt_of_lt_of_le HS1.out.2 hb.size) (by simp)⟩; clear Q2 hb))
          go_roundw
          case rel => exact ⟨i + 1, by go_num, by omega, HX2, HZ2, hide (by rw [HPK.out, if_neg (fun h => hx h.1)]; exact HQ2.out), HB2, HS2⟩
          case measure => simp [intOf]; omega
      · have hiz : ¬ (i : Int) < 2 := by omega
        obtain rfl : i = 2 := by omega
        have b0 := RB.c0 HQ.out
        have b1 := RB.c1 HQ.out
        have b2 := RB.c2 HQ.out
        have b3 := RB.c3 HQ.out
        have b4' := RB.c4 HQ.out
        have b5 := RB.c5 HQ.out
        have z0 := RB.c0 HZ.out
        have z1 := RB.c1 HZ.out
        have z2 := RB.c2 HZ.out
        have z3 := RB.c3 HZ.out
        have z4 := RB.c4 HZ.out
        have z5 := RB.c5 HZ.out
        have f0 := RB.f HZ.out 0
        have f1 := RB.f HZ.out 1
        have f2 := RB.f HZ.out 2
        have f3 := RB.f HZ.out 3
        have f4 := RB.f HZ.out 4
        have f5 := RB.f HZ.out 5
        by_cases h0 : (bestU d 2).gen = 0
        · have h0z : (((bestU d 2).gen : Int) == 0) = true := by rw [beq_iff_eq]; omega
          have HSF : Hid (findS d = (Rt.zero, 4)) := by show _ = _; unfold findS; rw [if_neg (by rw [HF.out]; simp), if_pos h0, best_zero h0]
          clear h0
          go_wp2_with fail
          have hF := RB.laid (u0 := .int .u64 0) (u1 := .int .i64 0) (u2 := .int .i64 0) (u3 := .int .i64 0) (u4 := .int .u32 0) (u5 := .int .u64 0) HZ.out
          have r0 := hF.c0
          have r1 := hF.c1
          have r2 := hF.c2
          have r3 := hF.c3
          have r4 := hF.c4
          have r5 := hF.c5
          unfold laidR at r0 r1 r2 r3 r4 r5
          rw [HSF.out]
          exact bodyPost_ret (v := .tuple #[.agg #[.int .u64 0, .int .i64 0, .int .i64 0, .int .i64 0, .int .u32 0, .int .u64 0], .int .i64 4]) (by simp [results, Tryd.results18, go_sem, r0, r1, r2, r3, r4, r5]) rfl ⟨rfl, below_laid HB.out (by omega)⟩
        · have h0z : (((bestU d 2).gen : Int) == 0) = false := by rw [beq_eq_false_iff_ne]; omega
          have HSF : Hid (findS d = (bestU d 2, 0)) := by show _ = _; unfold findS; rw [if_neg (by rw [HF.out]; simp), if_neg h0]
          clear h0
          go_wp2_with fail
          have hF := RB.laid (u0 := .int .u64 (bestU d 2).gen) (u1 := .int .i64 (bestU d 2).at_) (u2 := .int .i64 (bestU d 2).len) (u3 := .int .i64 (bestU d 2).long) (u4 := .int .u32 (bestU d 2).sum) (u5 := .int .u64 (bestU d 2).next) HZ.out
          have r0 := hF.c0
          have r1 := hF.c1
          have r2 := hF.c2
          have r3 := hF.c3
          have r4 := hF.c4
          have r5 := hF.c5
          unfold laidR at r0 r1 r2 r3 r4 r5
          rw [HSF.out]
          exact bodyPost_ret (v := .tuple #[.agg #[.int .u64 (bestU d 2).gen, .int .i64 (bestU d 2).at_, .int .i64 (bestU d 2).len, .int .i64 (bestU d 2).long, .int .u32 (bestU d 2).sum, .int .u64 (bestU d 2).next], .int .i64 0]) (by simp [results, Tryd.results18, go_sem, r0, r1, r2, r3, r4, r5]) rfl ⟨rfl, below_laid HB.out (by omega)⟩
  · have HSF : Hid (findS d = (Rt.zero, 1)) := by show _ = _; unfold findS; rw [if_pos hf, fit_chk hf]
    by_cases hcd : chk d = 0
    · have h96z : (n : Int) < 96 := by
        have h1 : d.dry.length ≤ 64 := by
          rcases Nat.lt_or_ge 64 d.dry.length with h | h
          · exact absurd (by unfold fitS; rw [if_neg (by omega)]; exact hcd) hf
          · exact h
        omega
      rw [hcd] at ck
      clear hcd hf
      go_enter Tryd.func18, Tryd.ntmps18
      go_wp2_with (first
        | (go_at_call 32; (with_reducible refine (ck _ HR0.out).mono ?_); rintro e w1 ⟨rfl, hb⟩; have X1 := HX0.out.below hb; have k0 := X1.c0; have k1 := X1.c1; have k2 := X1.c2; have HX1 := hide X1; have Z1 : RBr w1 (w.heap.size + 1) Rt.zero := RB.below HZ0.out hb; have q0 := RB.c0 Z1; have q1 := RB.c1 Z1; have q2 := RB.c2 Z1; have q3 := RB.c3 Z1; have q4 := RB.c4 Z1; have q5 := RB.c5 Z1; have y0 := RB.f Z1 0; have y1 := RB.f Z1 1; have y2 := RB.f Z1 2; have y3 := RB.f Z1 3; have y4 := RB.f Z1 4; have y5 := RB.f Z1 5; have HZ1 := hide Z1; have HB1 := hide (Below.then_ HB0.out hb HB0.out.size); have HS1 := hide (Nat.le_trans HS0.out hb.size); clear X1 Z1 hb))
      have hF := RB.laid (u0 := .int .u64 0) (u1 := .int .i64 0) (u2 := .int .i64 0) (u3 := .int .i64 0) (u4 := .int .u32 0) (u5 := .int .u64 0) HZ1.out
      have r0 := hF.c0
      have r1 := hF.c1
      have r2 := hF.c2
      have r3 := hF.c3
      have r4 := hF.c4
      have r5 := hF.c5
      unfold laidR at r0 r1 r2 r3 r4 r5
      rw [HSF.out]
      exact bodyPost_ret (v := .tuple #[.agg #[.int .u64 0, .int .i64 0, .int .i64 0, .int .i64 0, .int .u32 0, .int .u64 0], .int .i64 1]) (by simp [results, Tryd.results18, go_sem, r0, r1, r2, r3, r4, r5]) rfl ⟨rfl, below_laid HB1.out (by omega)⟩
    · have hfz : (chk d != 0) = true := by rw [bne_iff_ne]; exact hcd
      clear hcd hf
      go_enter Tryd.func18, Tryd.ntmps18
      go_wp2_with (first
        | (go_at_call 32; (with_reducible refine (ck _ HR0.out).mono ?_); rintro e w1 ⟨rfl, hb⟩; have X1 := HX0.out.below hb; have k0 := X1.c0; have k1 := X1.c1; have k2 := X1.c2; have HX1 := hide X1; have Z1 : RBr w1 (w.heap.size + 1) Rt.zero := RB.below HZ0.out hb; have q0 := RB.c0 Z1; have q1 := RB.c1 Z1; have q2 := RB.c2 Z1; have q3 := RB.c3 Z1; have q4 := RB.c4 Z1; have q5 := RB.c5 Z1; have y0 := RB.f Z1 0; have y1 := RB.f Z1 1; have y2 := RB.f Z1 2; have y3 := RB.f Z1 3; have y4 := RB.f Z1 4; have y5 := RB.f Z1 5; have HZ1 := hide Z1; have HB1 := hide (Below.then_ HB0.out hb HB0.out.size); have HS1 := hide (Nat.le_trans HS0.out hb.size); clear X1 Z1 hb))
      have hF := RB.laid (u0 := .int .u64 0) (u1 := .int .i64 0) (u2 := .int .i64 0) (u3 := .int .i64 0) (u4 := .int .u32 0) (u5 := .int .u64 0) HZ1.out
      have r0 := hF.c0
      have r1 := hF.c1
      have r2 := hF.c2
      have r3 := hF.c3
      have r4 := hF.c4
      have r5 := hF.c5
      unfold laidR at r0 r1 r2 r3 r4 r5
      rw [HSF.out]
      exact bodyPost_ret (v := .tuple #[.agg #[.int .u64 0, .int .i64 0, .int .i64 0, .int .i64 0, .int .u32 0, .int .u64 0], .int .i64 1]) (by simp [results, Tryd.results18, go_sem, r0, r1, r2, r3, r4, r5]) rfl ⟨rfl, below_laid HB1.out (by omega)⟩
end Go.Proofs.YthhemdjggdgaaaaDoor
