/- A root written to a disk. -/
import Derived.Test.YthhemdjggdgaaaaDoorRof
import Derived.Test.YthhemdjggdgaaaaDoorPlLast
namespace Go.Proofs.YthhemdjggdgaaaaDoor
open Go.RowKit
set_option linter.unusedVariables false

theorem filters_len (qs : Wet) (k : Int) : (qs.filter fun p => decide (p.1 < k)).length + (qs.filter fun p => decide (k < p.1)).length ≤ qs.length := by
  induction qs with
  | nil => simp
  | cons p qs ih =>
    rw [List.filter_cons, List.filter_cons, List.length_cons]
    by_cases h1 : p.1 < k
    · rw [if_pos (by simpa using h1), if_neg (by simp; omega), List.length_cons]; omega
    · by_cases h2 : k < p.1
      · rw [if_neg (by simpa using h1), if_pos (by simpa using h2), List.length_cons]; omega
      · rw [if_neg (by simpa using h1), if_neg (by simpa using h2)]; omega
theorem putW_len (qs : Wet) (k : Int) (b : Bs) : (putW qs k b).length ≤ qs.length + 1 := by
  have := filters_len qs k
  unfold putW
  rw [List.length_append, List.length_cons]
  omega
theorem writeS_len (d : Dk) (k : Int) (b : Bs) : (writeS d k b).1.dry.length ≤ d.dry.length ∧ (writeS d k b).1.wet.length ≤ d.wet.length + 1 := by
  by_cases h : Is d k ∧ b.length = 32
  · by_cases h0 : d.left = 0
    · rw [write_dead h.1 h.2 h0]; exact ⟨Nat.zero_le _, Nat.zero_le _⟩
    · rw [write_lives h.1 h.2 h0]; exact ⟨Nat.le_refl _, putW_len _ _ _⟩
  · rw [writeS_bad h]; exact ⟨Nat.zero_le _, Nat.zero_le _⟩
/-- There is room for roots, and more. -/
noncomputable def fitS (d : Dk) : Int := if d.dry.length ≤ 64 then 1 else chk d
set_option maxRecDepth 100000 in
set_option maxHeartbeats 2000000 in
theorem fits_any (w : World) (A : Option Addr) (n c : Nat) (B : Option Addr) (m e' : Nat) (d : Dk) (l : Int) (hl : d.left = l) (hr : DR w A n B m d) (hn : n ≤ 300000) (hm : m ≤ 1000) :
    Calls Tryd.prog 30 #[.agg #[.slice A n c, .slice B m e', .int .i64 l]] w fun e w' => e = .returned (.int .i64 (fitS d)) ∧ Below w.heap.size w w' := by
  have hdl := hr.dlen
  have HR := hide (hr.below (below_alloc w (.cells #[.slice A n c, .slice B m e', .int .i64 l] 31)))
  have HB := hide (below_alloc w (.cells #[.slice A n c, .slice B m e', .int .i64 l] 31))
  clear hr
  by_cases h : n ≤ 64
  · have hz : (n : Int) ≤ 64 := by omega
    have HS : Hid (fitS d = 1) := by show _ = _; unfold fitS; rw [if_pos (by omega)]
    go_enter Tryd.func30, Tryd.ntmps30
    go_wp2_with fail
    go_ret
    exact ⟨by rw [HS.out]; rfl, HB.out⟩
  · have hz : ¬ (n : Int) ≤ 64 := by omega
    have HS : Hid (fitS d = chk d) := by show _ = _; unfold fitS; rw [if_neg (by omega)]
    go_enter Tryd.func30, Tryd.ntmps30
    go_wp2_with (first
      | (go_at_call 43; (with_reducible refine (check_is _ A n c B m e' d l (chk d) hl rfl HR.out hn hm).mono ?_); rintro e w' ⟨rfl, hb⟩; have HB2 := hide (Below.then_ HB.out hb HB.out.size); clear hb))
    go_ret
    exact ⟨by rw [HS.out]; rfl, HB2.out⟩
/-- A root written. -/
noncomputable def rtwS (d : Dk) (r : Rt) : Dk × Int :=
  if (octS r).2 ≠ 0 ∨ fitS d ≠ 0 then (Dk.zero, 1) else if (writeS d ((r.gen % 2 : Nat) : Int) (octS r).1).2 ≠ 0 then (Dk.zero, (writeS d ((r.gen % 2 : Nat) : Int) (octS r).1).2) else syncS (writeS d ((r.gen % 2 : Nat) : Int) (octS r).1).1
set_option maxRecDepth 100000 in
set_option maxHeartbeats 4000000 in
theorem rtwrite_any (w : World) (A : Option Addr) (n c : Nat) (B : Option Addr) (m e' : Nat) (d : Dk) (l : Int) (hl : d.left = l) (r : Rt) (hr : DR w A n B m d) (hn : n ≤ 300000) (hm : m ≤ 900) (hs : r.sum < 4294967296) (hw : Wd w) :
    Calls Tryd.prog 15 #[.agg #[.slice A n c, .slice B m e', .int .i64 l], rtv r] w (DPost w (rtwS d r).1 (rtwS d r).2) := by
  have hdl := hr.dlen
  have hwl := hr.wlen
  obtain ⟨gen, at_, len, long, sum, next⟩ := r
  obtain ⟨R, hR⟩ : ∃ R : Rt, R = ⟨gen, at_, len, long, sum, next⟩ := ⟨_, rfl⟩
  have oc := fun (w : World) (hw : Wd w) => rtoct_any w ⟨gen, at_, len, long, sum, next⟩ hs hw
  unfold rtv at oc ⊢
  simp only at oc ⊢
  obtain ⟨W0, hW0⟩ : ∃ W0, W0 = (((w.alloc (.cells #[.slice A n c, .slice B m e', .int .i64 l] 31)).alloc (.cells #[.int .u64 gen, .int .i64 at_, .int .i64 len, .int .i64 long, .int .u32 sum, .int .u64 next] 27)).alloc (.cells #[.slice none 0 0, .slice none 0 0, .int .i64 0] 31)) := ⟨_, rfl⟩
  have hb0 : Below w.heap.size w W0 := by rw [hW0]; exact (below_alloc2 w _ _).alloc (by simp; omega) _
  have HX0 : Hid (Bx W0 w.heap.size (.slice A n c) (.slice B m e') (.int .i64 l)) := by rw [hW0]; exact ((Bx.made w _ _ _).alloc _).alloc _
  have HQ0 : Hid (RB W0 (w.heap.size + 1) (.int .u64 gen) (.int .i64 at_) (.int .i64 len) (.int .i64 long) (.int .u32 sum) (.int .u64 next)) := by
    rw [hW0]
    have := (RB.made (w.alloc (.cells #[.slice A n c, .slice B m e', .int .i64 l] 31)) (.int .u64 gen) (.int .i64 at_) (.int .i64 len) (.int .i64 long) (.int .u32 sum) (.int .u64 next)).below (below_alloc _ (.cells #[.slice none 0 0, .slice none 0 0, .int .i64 0] 31))
    rw [box_size] at this
    exact this
  have HZ0 : Hid (Bx W0 (w.heap.size + 1 + 1) (.slice none 0 0) (.slice none 0 0) (.int .i64 0)) := by
    rw [hW0]; exact Bx.made_ _ _ (by simp) _ _ _
  have HB0 := hide hb0
  have HS0 : Hid (w.heap.size + 3 ≤ W0.heap.size) := by show _ ≤ _; rw [hW0]; simp
  have HR0 : Hid (DR W0 A n B m d) := hr.below hb0
  have hp := hw.pos
  have HW0 : Hid (Wd W0) := hw.below hb0 hp
  rw [hW0] at HX0 HQ0 HZ0 HB0 HS0 HR0 HW0
  clear hW0 hb0 hr hw
  obtain ⟨ys, x, hys⟩ : ∃ ys x, octS ⟨gen, at_, len, long, sum, next⟩ = (ys, x) := ⟨_, _, rfl⟩
  simp only [hys] at oc
  have g1 : ((gen : Int)).tmod 2 = ((gen % 2 : Nat) : Int) := by rw [Int.tmod_eq_emod_of_nonneg (by omega)]; omega
  have g2 : IntKind.i64.wrap ((gen % 2 : Nat) : Int) = ((gen % 2 : Nat) : Int) := IntWalk.i64_in _ (by omega)
  have HYS := hide hys
  by_cases hx : x = 0
  · subst hx
    by_cases hf : fitS d = 0
    · have HF := hide hf
      obtain ⟨X, e, hX⟩ : ∃ X e, writeS d ((gen % 2 : Nat) : Int) ys = (X, e) := ⟨_, _, rfl⟩
      have HWR : Hid (writeS d ((gen : Int) % 2) ys = (X, e)) := by show _ = _; rw [← hX]; congr 1
      have HLX : Hid (X.dry.length ≤ 300000 ∧ X.wet.length ≤ 1000) := by
        have := writeS_len d ((gen % 2 : Nat) : Int) ys
        rw [hX] at this
        have h1 := this.1
        have h2 := this.2
        simp only at h1 h2
        exact ⟨by omega, by omega⟩
      by_cases he : e = 0
      · subst he
        obtain ⟨S, i, hS⟩ : ∃ S i, syncS X = (S, i) := ⟨_, _, rfl⟩
        have HSY := hide hS
        have HS : Hid (rtwS d ⟨gen, at_, len, long, sum, next⟩ = (S, i)) := by
          show _ = _
          unfold rtwS
          simp only [hys, hX, hf, hS]
          simp
        clear hX hS hf hys hR
        go_enter Tryd.func15, Tryd.ntmps15
        go_wp2_with (first
          | (go_at_call 11; (with_reducible refine (oc _ HW0.out).mono ?_); rintro e w1 ⟨Ay, ny, cy, rfl, ho, hb⟩; have HY := hide ho; have X1 := HX0.out.below hb; have k0 := X1.c0; have k1 := X1.c1; have k2 := X1.c2; have HX1 := hide X1; have Q1 := HQ0.out.below hb; have qq0 := Q1.c0; have HQ1 := hide Q1; have Z1 := HZ0.out.below hb; have z0 := Z1.c0; have z1 := Z1.c1; have z2 := Z1.c2; have y0 := Z1.f 0; have y1 := Z1.f 1; have y2 := Z1.f 2; have HZ1 := hide Z1; have HR1 := hide (HR0.out.below hb); have HS1 := hide (Nat.le_trans HS0.out hb.size); have HB1 := hide (Below.then_ HB0.out hb HB0.out.size); clear X1 Q1 Z1 ho hb)
          | (go_at_call 30; (with_reducible refine (fits_any _ A n c B m e' d l hl HR1.out hn (by omega)).mono ?_); rw [HF.out]; rintro e w2 ⟨rfl, hb⟩; have HY2 := hide (HY.out.below hb); have X1 := HX1.out.below hb; have k0 := X1.c0; have k1 := X1.c1; have k2 := X1.c2; have f0 := X1.f 0; have f1 := X1.f 1; have f2 := X1.f 2; have HX2 := hide X1; have Q1 := HQ1.out.below hb; have qq0 := Q1.c0; have Z1 := HZ1.out.below hb; have z0 := Z1.c0; have z1 := Z1.c1; have z2 := Z1.c2; have y0 := Z1.f 0; have y1 := Z1.f 1; have y2 := Z1.f 2; have HZ2 := hide Z1; have HR2 := hide (HR1.out.below hb); have HS2 := hide (Nat.le_trans HS1.out hb.size); have HB2 := hide (Below.then_ HB1.out hb HB1.out.size); clear X1 Q1 Z1 hb)
          | (go_at_call 23; (with_reducible refine (write_any _ A n c B m e' d l ((gen : Int) % 2) Ay ny cy ys hl HR2.out HY2.out.reads hn (by omega)).mono ?_); rw [HWR.out]; rintro e w3 ⟨A2, n2, c2, B2, m2, e2, rfl, ho, hb⟩; have hn2 : n2 ≤ 300000 := (by have h1 : X.dry.length = n2 := ho.reads.dlen; have h2 := HLX.out.1; omega); have hm2 : m2 ≤ 1000 := (by have h1 : X.wet.length = m2 := ho.reads.wlen; have h2 := HLX.out.2; omega); have X1 := HX2.out.below hb; have s0 := X1.c0; have s1 := X1.c1; have s2 := X1.c2; have g0 := X1.f 0; have g1 := X1.f 1; have g2 := X1.f 2; have X2 := X1.boxed (u := .slice A2 n2 c2) (v := .slice B2 m2 e2) (t := .int .i64 X.left); have k0 := X2.c0; have k1 := X2.c1; have k2 := X2.c2; have HX3 := hide X2; have Z1 := (HZ2.out.below hb).beside (k := w.heap.size) (u := .slice A2 n2 c2) (v := .slice B2 m2 e2) (t := .int .i64 X.left) (by omega); have z0 := Z1.c0; have z1 := Z1.c1; have z2 := Z1.c2; have y0 := Z1.f 0; have y1 := Z1.f 1; have y2 := Z1.f 2; have HZ3 := hide Z1; have HO3 := hide (ho.boxed (b := w.heap.size) (u := .slice A2 n2 c2) (v := .slice B2 m2 e2) (t := .int .i64 X.left) (Nat.lt_of_lt_of_le (show w.heap.size < w.heap.size + 3 by omega) HS2.out)); have HB3 := hide (below_boxed (b := w.heap.size) (u := .slice A2 n2 c2) (v := .slice B2 m2 e2) (t := .int .i64 X.left) (Below.then_ HB2.out hb HB2.out.size) (Nat.le_refl _)); have HS3 : Hid (w.heap.size + 3 ≤ w3.heap.size) := Nat.le_trans HS2.out hb.size; clear X1 X2 Z1 ho hb)
          | (go_at_call 31; (with_reducible refine (sync_any _ A2 n2 c2 B2 m2 e2 X X.left rfl HO3.out.reads hn2 hm2).mono ?_); rw [HSY.out]; rintro e w4 ⟨A3, n3, c3, B3, m3, e3, rfl, ho, hb⟩; have Z1 := HZ3.out.below hb; have z0 := Z1.c0; have z1 := Z1.c1; have z2 := Z1.c2; have y0 := Z1.f 0; have y1 := Z1.f 1; have y2 := Z1.f 2; have HZ4 := hide Z1; have HO4 := hide (ho.boxed (b := w.heap.size + 1 + 1) (u := .slice A3 n3 c3) (v := .slice B3 m3 e3) (t := .int .i64 S.left) (by rw [heap_boxed]; exact Nat.lt_of_lt_of_le (show w.heap.size + 1 + 1 < w.heap.size + 3 by omega) HS3.out)); have HSZ : Hid (w.heap.size ≤ w3.heap.size) := Nat.le_trans (by omega) HS3.out; have HB4 := hide (below_boxed (b := w.heap.size + 1 + 1) (u := .slice A3 n3 c3) (v := .slice B3 m3 e3) (t := .int .i64 S.left) (Below.then_ HB3.out hb HB3.out.size) (by omega)); clear Z1 ho hb))
        have hz6 := HZ4.out.boxed (u := .slice A3 n3 c3) (v := .slice B3 m3 e3) (t := .int .i64 S.left)
        have r0 := hz6.c0
        have r1 := hz6.c1
        have r2 := hz6.c2
        rw [HS.out]
        exact bodyPost_ret (v := .tuple #[.agg #[.slice A3 n3 c3, .slice B3 m3 e3, .int .i64 S.left], .int .i64 i]) (by simp [results, Tryd.results15, go_sem, r0, r1, r2]) rfl ⟨A3, n3, c3, B3, m3, e3, rfl, HO4.out.mono (by rw [heap_boxed]; exact HSZ.out), HB4.out⟩
      · have hez : (e != 0) = true := by rw [bne_iff_ne]; exact he
        have HS : Hid (rtwS d ⟨gen, at_, len, long, sum, next⟩ = (Dk.zero, e)) := by
          show _ = _
          unfold rtwS
          simp only [hys, hX, hf]
          simp [he]
        clear hX hf hys hR
        go_enter Tryd.func15, Tryd.ntmps15
        go_wp2_with (first
          | (go_at_call 11; (with_reducible refine (oc _ HW0.out).mono ?_); rintro e w1 ⟨Ay, ny, cy, rfl, ho, hb⟩; have HY := hide ho; have X1 := HX0.out.below hb; have k0 := X1.c0; have k1 := X1.c1; have k2 := X1.c2; have HX1 := hide X1; have Q1 := HQ0.out.below hb; have qq0 := Q1.c0; have HQ1 := hide Q1; have Z1 := HZ0.out.below hb; have z0 := Z1.c0; have z1 := Z1.c1; have z2 := Z1.c2; have y0 := Z1.f 0; have y1 := Z1.f 1; have y2 := Z1.f 2; have HZ1 := hide Z1; have HR1 := hide (HR0.out.below hb); have HS1 := hide (Nat.le_trans HS0.out hb.size); have HB1 := hide (Below.then_ HB0.out hb HB0.out.size); clear X1 Q1 Z1 ho hb)
          | (go_at_call 30; (with_reducible refine (fits_any _ A n c B m e' d l hl HR1.out hn (by omega)).mono ?_); rw [HF.out]; rintro e w2 ⟨rfl, hb⟩; have HY2 := hide (HY.out.below hb); have X1 := HX1.out.below hb; have k0 := X1.c0; have k1 := X1.c1; have k2 := X1.c2; have f0 := X1.f 0; have f1 := X1.f 1; have f2 := X1.f 2; have HX2 := hide X1; have Q1 := HQ1.out.below hb; have qq0 := Q1.c0; have Z1 := HZ1.out.below hb; have z0 := Z1.c0; have z1 := Z1.c1; have z2 := Z1.c2; have y0 := Z1.f 0; have y1 := Z1.f 1; have y2 := Z1.f 2; have HZ2 := hide Z1; have HR2 := hide (HR1.out.below hb); have HS2 := hide (Nat.le_trans HS1.out hb.size); have HB2 := hide (Below.then_ HB1.out hb HB1.out.size); clear X1 Q1 Z1 hb)
          | (go_at_call 23; (with_reducible refine (write_any _ A n c B m e' d l ((gen : Int) % 2) Ay ny cy ys hl HR2.out HY2.out.reads hn (by omega)).mono ?_); rw [HWR.out]; rintro e w3 ⟨A2, n2, c2, B2, m2, e2, rfl, ho, hb⟩; have hn2 : n2 ≤ 300000 := (by have h1 : X.dry.length = n2 := ho.reads.dlen; have h2 := HLX.out.1; omega); have hm2 : m2 ≤ 1000 := (by have h1 : X.wet.length = m2 := ho.reads.wlen; have h2 := HLX.out.2; omega); have X1 := HX2.out.below hb; have s0 := X1.c0; have s1 := X1.c1; have s2 := X1.c2; have g0 := X1.f 0; have g1 := X1.f 1; have g2 := X1.f 2; have X2 := X1.boxed (u := .slice A2 n2 c2) (v := .slice B2 m2 e2) (t := .int .i64 X.left); have k0 := X2.c0; have k1 := X2.c1; have k2 := X2.c2; have HX3 := hide X2; have Z1 := (HZ2.out.below hb).beside (k := w.heap.size) (u := .slice A2 n2 c2) (v := .slice B2 m2 e2) (t := .int .i64 X.left) (by omega); have z0 := Z1.c0; have z1 := Z1.c1; have z2 := Z1.c2; have y0 := Z1.f 0; have y1 := Z1.f 1; have y2 := Z1.f 2; have HZ3 := hide Z1; have HO3 := hide (ho.boxed (b := w.heap.size) (u := .slice A2 n2 c2) (v := .slice B2 m2 e2) (t := .int .i64 X.left) (Nat.lt_of_lt_of_le (show w.heap.size < w.heap.size + 3 by omega) HS2.out)); have HB3 := hide (below_boxed (b := w.heap.size) (u := .slice A2 n2 c2) (v := .slice B2 m2 e2) (t := .int .i64 X.left) (Below.then_ HB2.out hb HB2.out.size) (Nat.le_refl _)); have HS3 : Hid (w.heap.size + 3 ≤ w3.heap.size) := Nat.le_trans HS2.out hb.size; clear X1 X2 Z1 ho hb))
        have hz6 := HZ3.out.boxed (u := .slice none 0 0) (v := .slice none 0 0) (t := .int .i64 0)
        have r0 := hz6.c0
        have r1 := hz6.c1
        have r2 := hz6.c2
        rw [HS.out]
        exact bodyPost_ret (v := .tuple #[.agg #[.slice none 0 0, .slice none 0 0, .int .i64 0], .int .i64 e]) (by simp [results, Tryd.results15, go_sem, r0, r1, r2]) rfl ⟨_, _, _, _, _, _, rfl, DO.zero _ _, below_boxed HB3.out (by omega)⟩
    · have HF : Hid (fitS d = fitS d) := rfl
      have hfz : (fitS d != 0) = true := by rw [bne_iff_ne]; exact hf
      have HS : Hid (rtwS d ⟨gen, at_, len, long, sum, next⟩ = (Dk.zero, 1)) := by
        show _ = _
        unfold rtwS
        rw [if_pos (.inr hf)]
      clear hys hR
      go_enter Tryd.func15, Tryd.ntmps15
      go_wp2_with (first
        | (go_at_call 11; (with_reducible refine (oc _ HW0.out).mono ?_); rintro e w1 ⟨Ay, ny, cy, rfl, ho, hb⟩; have HY := hide ho; have X1 := HX0.out.below hb; have k0 := X1.c0; have k1 := X1.c1; have k2 := X1.c2; have HX1 := hide X1; have Q1 := HQ0.out.below hb; have qq0 := Q1.c0; have HQ1 := hide Q1; have Z1 := HZ0.out.below hb; have z0 := Z1.c0; have z1 := Z1.c1; have z2 := Z1.c2; have y0 := Z1.f 0; have y1 := Z1.f 1; have y2 := Z1.f 2; have HZ1 := hide Z1; have HR1 := hide (HR0.out.below hb); have HS1 := hide (Nat.le_trans HS0.out hb.size); have HB1 := hide (Below.then_ HB0.out hb HB0.out.size); clear X1 Q1 Z1 ho hb)
        | (go_at_call 30; (with_reducible refine (fits_any _ A n c B m e' d l hl HR1.out hn (by omega)).mono ?_); rintro e w2 ⟨rfl, hb⟩; have HY2 := hide (HY.out.below hb); have X1 := HX1.out.below hb; have k0 := X1.c0; have k1 := X1.c1; have k2 := X1.c2; have f0 := X1.f 0; have f1 := X1.f 1; have f2 := X1.f 2; have HX2 := hide X1; have Q1 := HQ1.out.below hb; have qq0 := Q1.c0; have Z1 := HZ1.out.below hb; have z0 := Z1.c0; have z1 := Z1.c1; have z2 := Z1.c2; have y0 := Z1.f 0; have y1 := Z1.f 1; have y2 := Z1.f 2; have HZ2 := hide Z1; have HR2 := hide (HR1.out.below hb); have HS2 := hide (Nat.le_trans HS1.out hb.size); have HB2 := hide (Below.then_ HB1.out hb HB1.out.size); clear X1 Q1 Z1 hb))
      have hz6 := HZ2.out.boxed (u := .slice none 0 0) (v := .slice none 0 0) (t := .int .i64 0)
      have r0 := hz6.c0
      have r1 := hz6.c1
      have r2 := hz6.c2
      rw [HS.out]
      exact bodyPost_ret (v := .tuple #[.agg #[.slice none 0 0, .slice none 0 0, .int .i64 0], .int .i64 1]) (by simp [results, Tryd.results15, go_sem, r0, r1, r2]) rfl ⟨_, _, _, _, _, _, rfl, DO.zero _ _, below_boxed HB2.out (by omega)⟩
  · have hxz : (x != 0) = true := by rw [bne_iff_ne]; exact hx
    have HS : Hid (rtwS d ⟨gen, at_, len, long, sum, next⟩ = (Dk.zero, 1)) := by
      show _ = _
      unfold rtwS
      rw [if_pos (.inl (by rw [hys]; exact hx))]
    clear hys hR
    go_enter Tryd.func15, Tryd.ntmps15
    go_wp2_with (first
      | (go_at_call 11; (with_reducible refine (oc _ HW0.out).mono ?_); rintro e w1 ⟨Ay, ny, cy, rfl, ho, hb⟩; have HY := hide ho; have X1 := HX0.out.below hb; have k0 := X1.c0; have k1 := X1.c1; have k2 := X1.c2; have HX1 := hide X1; have Q1 := HQ0.out.below hb; have qq0 := Q1.c0; have HQ1 := hide Q1; have Z1 := HZ0.out.below hb; have z0 := Z1.c0; have z1 := Z1.c1; have z2 := Z1.c2; have y0 := Z1.f 0; have y1 := Z1.f 1; have y2 := Z1.f 2; have HZ1 := hide Z1; have HR1 := hide (HR0.out.below hb); have HS1 := hide (Nat.le_trans HS0.out hb.size); have HB1 := hide (Below.then_ HB0.out hb HB0.out.size); clear X1 Q1 Z1 ho hb))
    have hz6 := HZ1.out.boxed (u := .slice none 0 0) (v := .slice none 0 0) (t := .int .i64 0)
    have r0 := hz6.c0
    have r1 := hz6.c1
    have r2 := hz6.c2
    rw [HS.out]
    exact bodyPost_ret (v := .tuple #[.agg #[.slice none 0 0, .slice none 0 0, .int .i64 0], .int .i64 1]) (by simp [results, Tryd.results15, go_sem, r0, r1, r2]) rfl ⟨_, _, _, _, _, _, rfl, DO.zero _ _, below_boxed HB1.out (by omega)⟩
end Go.Proofs.YthhemdjggdgaaaaDoor
