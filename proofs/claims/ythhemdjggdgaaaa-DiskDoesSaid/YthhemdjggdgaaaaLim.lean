/- A limit; by the reference too. -/
import Derived.Test.YthhemdjggdgaaaaDeed
namespace Go.Proofs.Ythhemdjggdgaaaa
open Go.RowKit
set_option linter.unusedVariables false

open Classical in
noncomputable def limS (d : Dk) (k : Int) : Dk × Int := if Good d ∧ -1 ≤ k ∧ k ≤ 1073741824 then (d.leave k, 0) else (Dk.zero, 1)
theorem limS_ok {d : Dk} {k : Int} (h : Good d) (h1 : -1 ≤ k) (h2 : k ≤ 1073741824) : limS d k = (d.leave k, 0) := by unfold limS; rw [if_pos ⟨h, h1, h2⟩]
theorem limS_bad {d : Dk} {k : Int} (h : ¬ (Good d ∧ -1 ≤ k ∧ k ≤ 1073741824)) : limS d k = (Dk.zero, 1) := by unfold limS; rw [if_neg h]

set_option maxRecDepth 100000 in
set_option maxHeartbeats 2000000 in
theorem lim_any (w : World) (A : Option Addr) (n c : Nat) (B : Option Addr) (m e' : Nat) (d : Dk) (k : Int) (hr : DR w A n B m d) (hn : n ≤ 300000) (hm : m ≤ 1000) :
    Calls Try.prog 20 #[.agg #[.slice A n c, .slice B m e', .int .i64 d.left], .int .i64 k] w (DPost w (limS d k).1 (limS d k).2) := by
  obtain ⟨W0, hW0⟩ : ∃ W0, W0 = ((w.alloc (.cells #[.slice A n c, .slice B m e', .int .i64 d.left] 25)).alloc (.cells #[.slice none 0 0, .slice none 0 0, .int .i64 0] 25)) := ⟨_, rfl⟩
  have HX0 : Hid (Bx W0 w.heap.size (.slice A n c) (.slice B m e') (.int .i64 d.left)) := by rw [hW0]; exact (Bx.made w _ _ _).alloc _
  have HZ0 : Hid (Bx W0 (w.heap.size + 1) (.slice none 0 0) (.slice none 0 0) (.int .i64 0)) := by
    rw [hW0]; exact Bx.made_ _ _ (by simp) _ _ _
  have HB0 : Hid (Below w.heap.size w W0) := by rw [hW0]; exact below_alloc2 w _ _
  have HS0 : Hid (w.heap.size + 2 ≤ W0.heap.size) := by
    show _ ≤ _
    rw [hW0]; simp
  have HR0 : Hid (DR W0 A n B m d) := hr.below (by rw [hW0]; exact below_alloc2 w _ _)
  rw [hW0] at HX0 HZ0 HB0 HS0 HR0
  clear hW0 hr
  by_cases hg : Good d
  · have HC := hide (chk_zero hg)
    have HL32 := hide hg.len32
    cases hk : lims k with
    | true =>
      have hk2 := lims_iff.1 hk
      have HS := hide (limS_ok hg hk2.1 hk2.2)
      clear hg hk2
      go_enter Try.func20, Try.ntmps20
      go_wp2_with (first | (go_at_call 15; refine (check_is _ A n c B m e' d d.left 0 rfl HC.out HR0.out hn hm).mono ?_; rintro e w1 ⟨rfl, hb⟩; have X1 := HX0.out.below hb; have k0 := X1.c0; have k1 := X1.c1; have k2 := X1.c2; have Z1 := HZ0.out.below hb; have z0 := Z1.c0; have z1 := Z1.c1; have z2 := Z1.c2; have y0 := Z1.f 0; have y1 := Z1.f 1; have y2 := Z1.f 2; have HX1 := hide X1; have HZ1 := hide Z1; have HR1 := hide (HR0.out.below hb); have HS1 := hide (Nat.le_trans HS0.out hb.size); have HB1 := hide (Below.then_ HB0.out hb HB0.out.size); clear X1 Z1 hb) | (go_at_call 32; refine (limit_any _ _).mono ?_; rintro e w' ⟨rfl, rfl⟩; rw [hk]) | (go_at_call 29; refine (own_any _ A n c B m e' d HR1.out hn hm HL32.out).mono ?_; rintro e w2 ⟨A2, n2, c2, B2, m2, e2, rfl, ho, hb⟩; have X2 := HX1.out.below hb; have k0 := X2.c0; have k1 := X2.c1; have k2 := X2.c2; have f0 := X2.f 0; have f1 := X2.f 1; have f2 := X2.f 2; have Z2 := HZ1.out.below hb; have z0 := Z2.c0; have z1 := Z2.c1; have z2 := Z2.c2; have y0 := Z2.f 0; have y1 := Z2.f 1; have y2 := Z2.f 2; have X3 := ((X2.set0 (u := .slice A2 n2 c2)).set1 (u := .slice B2 m2 e2)).set2 (u := .int .i64 d.left); have X4 := X3.set2 (u := .int .i64 k); have q0 := X4.c0; have q1 := X4.c1; have q2 := X4.c2; have HX4 := hide X4; clear X3 X4; have HX2 := hide X2; have HZ2 := hide Z2; have HO2 := hide (ho.do.mono HS1.out); have HB2 := hide (Below.then HB1.out hb); clear X2 Z2 ho hb))
      have hz7 := fin4 (a0 := .slice A2 n2 c2) (a1 := .slice B2 m2 e2) (a2 := .int .i64 d.left) (k := .int .i64 k) HZ2.out
      have r0 := hz7.c0
      have r1 := hz7.c1
      have r2 := hz7.c2
      rw [HS.out]
      refine bodyPost_ret (v := .tuple #[.agg #[.slice A2 n2 c2, .slice B2 m2 e2, .int .i64 k], .int .i64 0]) (by simp [results, Try.results20, go_sem, r0, r1, r2]) rfl ⟨A2, n2, c2, B2, m2, e2, rfl, DO.leave ?_ k, ?_⟩
      · exact (((((((HO2.out.set (by simp)).set (by simp)).set (by simp)).set (by simp)).set (by simp)).set (by simp)).set (by simp)).mono (by omega)
      · exact ((((((HB2.out.setCell (by simp) _).setCell (by simp) _).setCell (by simp) _).setCell (by simp) _).setCell (by simp) _).setCell (by simp) _).setCell (by simp) _
    | false =>
      have HS := hide (limS_bad (d := d) (k := k) (fun h => by rw [lims_iff.2 h.2] at hk; cases hk))
      clear hg
      go_enter Try.func20, Try.ntmps20
      go_wp2_with (first | (go_at_call 15; refine (check_is _ A n c B m e' d d.left 0 rfl HC.out HR0.out hn hm).mono ?_; rintro e w1 ⟨rfl, hb⟩; have X1 := HX0.out.below hb; have k0 := X1.c0; have k1 := X1.c1; have k2 := X1.c2; have Z1 := HZ0.out.below hb; have z0 := Z1.c0; have z1 := Z1.c1; have z2 := Z1.c2; have y0 := Z1.f 0; have y1 := Z1.f 1; have y2 := Z1.f 2; have HX1 := hide X1; have HZ1 := hide Z1; have HR1 := hide (HR0.out.below hb); have HS1 := hide (Nat.le_trans HS0.out hb.size); have HB1 := hide (Below.then_ HB0.out hb HB0.out.size); clear X1 Z1 hb) | (go_at_call 32; refine (limit_any _ _).mono ?_; rintro e w' ⟨rfl, rfl⟩; rw [hk]))
      have hz3 := HZ1.out.set0 (u := .slice none 0 0) |>.set1 (u := .slice none 0 0) |>.set2 (u := .int .i64 0)
      have r0 := hz3.c0
      have r1 := hz3.c1
      have r2 := hz3.c2
      rw [HS.out]
      refine bodyPost_ret (v := .tuple #[.agg #[.slice none 0 0, .slice none 0 0, .int .i64 0], .int .i64 1]) (by simp [results, Try.results20, go_sem, r0, r1, r2]) rfl ⟨_, _, _, _, _, _, rfl, DO.zero _ _, ?_⟩
      exact ((HB1.out.setCell (by simp) _).setCell (by simp) _).setCell (by simp) _
  · have HC := hide (chk_one hg)
    have HS := hide (limS_bad (d := d) (k := k) (fun h => hg h.1))
    clear hg
    go_enter Try.func20, Try.ntmps20
    go_wp2_with (first | (go_at_call 15; refine (check_is _ A n c B m e' d d.left 1 rfl HC.out HR0.out hn hm).mono ?_; rintro e w1 ⟨rfl, hb⟩; have X1 := HX0.out.below hb; have k0 := X1.c0; have k1 := X1.c1; have k2 := X1.c2; have Z1 := HZ0.out.below hb; have z0 := Z1.c0; have z1 := Z1.c1; have z2 := Z1.c2; have y0 := Z1.f 0; have y1 := Z1.f 1; have y2 := Z1.f 2; have HX1 := hide X1; have HZ1 := hide Z1; have HR1 := hide (HR0.out.below hb); have HS1 := hide (Nat.le_trans HS0.out hb.size); have HB1 := hide (Below.then_ HB0.out hb HB0.out.size); clear X1 Z1 hb))
    have hz3 := HZ1.out.set0 (u := .slice none 0 0) |>.set1 (u := .slice none 0 0) |>.set2 (u := .int .i64 0)
    have r0 := hz3.c0
    have r1 := hz3.c1
    have r2 := hz3.c2
    rw [HS.out]
    refine bodyPost_ret (v := .tuple #[.agg #[.slice none 0 0, .slice none 0 0, .int .i64 0], .int .i64 1]) (by simp [results, Try.results20, go_sem, r0, r1, r2]) rfl ⟨_, _, _, _, _, _, rfl, DO.zero _ _, ?_⟩
    exact ((HB1.out.setCell (by simp) _).setCell (by simp) _).setCell (by simp) _

set_option maxRecDepth 100000 in
set_option maxHeartbeats 2000000 in
theorem rlim_any (w : World) (A : Option Addr) (n c : Nat) (B : Option Addr) (m e' : Nat) (d : Dk) (k : Int) (hr : DR w A n B m d) (hn : n ≤ 300000) (hm : m ≤ 1000) :
    Calls Try.prog 27 #[.agg #[.slice A n c, .slice B m e', .int .i64 d.left], .int .i64 k] w (DPost w (limS d k).1 (limS d k).2) := by
  obtain ⟨W0, hW0⟩ : ∃ W0, W0 = ((w.alloc (.cells #[.slice A n c, .slice B m e', .int .i64 d.left] 25)).alloc (.cells #[.slice none 0 0, .slice none 0 0, .int .i64 0] 25)) := ⟨_, rfl⟩
  have HX0 : Hid (Bx W0 w.heap.size (.slice A n c) (.slice B m e') (.int .i64 d.left)) := by rw [hW0]; exact (Bx.made w _ _ _).alloc _
  have HZ0 : Hid (Bx W0 (w.heap.size + 1) (.slice none 0 0) (.slice none 0 0) (.int .i64 0)) := by
    rw [hW0]; exact Bx.made_ _ _ (by simp) _ _ _
  have HB0 : Hid (Below w.heap.size w W0) := by rw [hW0]; exact below_alloc2 w _ _
  have HS0 : Hid (w.heap.size + 2 ≤ W0.heap.size) := by
    show _ ≤ _
    rw [hW0]; simp
  have HR0 : Hid (DR W0 A n B m d) := hr.below (by rw [hW0]; exact below_alloc2 w _ _)
  rw [hW0] at HX0 HZ0 HB0 HS0 HR0
  clear hW0 hr
  by_cases hg : Good d
  · have HC := hide (chk_zero hg)
    have HL32 := hide hg.len32
    by_cases h1 : k < -1
    · have t1 : decide (k < -1) = true := decide_eq_true h1
      have HS := hide (limS_bad (d := d) (k := k) (fun h => by omega))
      clear hg h1
      go_enter Try.func27, Try.ntmps27
      go_wp2_with (first | (go_at_call 28; refine (rcheck_is _ A n c B m e' d d.left 0 rfl HC.out HR0.out hn hm).mono ?_; rintro e w1 ⟨rfl, hb⟩; have X1 := HX0.out.below hb; have k0 := X1.c0; have k1 := X1.c1; have k2 := X1.c2; have Z1 := HZ0.out.below hb; have z0 := Z1.c0; have z1 := Z1.c1; have z2 := Z1.c2; have y0 := Z1.f 0; have y1 := Z1.f 1; have y2 := Z1.f 2; have HX1 := hide X1; have HZ1 := hide Z1; have HR1 := hide (HR0.out.below hb); have HS1 := hide (Nat.le_trans HS0.out hb.size); have HB1 := hide (Below.then_ HB0.out hb HB0.out.size); clear X1 Z1 hb))
      have hz3 := HZ1.out.set0 (u := .slice none 0 0) |>.set1 (u := .slice none 0 0) |>.set2 (u := .int .i64 0)
      have r0 := hz3.c0
      have r1 := hz3.c1
      have r2 := hz3.c2
      rw [HS.out]
      refine bodyPost_ret (v := .tuple #[.agg #[.slice none 0 0, .slice none 0 0, .int .i64 0], .int .i64 1]) (by simp [results, Try.results27, go_sem, r0, r1, r2]) rfl ⟨_, _, _, _, _, _, rfl, DO.zero _ _, ?_⟩
      exact ((HB1.out.setCell (by simp) _).setCell (by simp) _).setCell (by simp) _
    · have t1 : decide (k < -1) = false := decide_eq_false h1
      by_cases h2 : 1073741824 < k
      · have t2 : decide (1073741824 < k) = true := decide_eq_true h2
        have HS := hide (limS_bad (d := d) (k := k) (fun h => by omega))
        clear hg h1 h2
        go_enter Try.func27, Try.ntmps27
        go_wp2_with (first | (go_at_call 28; refine (rcheck_is _ A n c B m e' d d.left 0 rfl HC.out HR0.out hn hm).mono ?_; rintro e w1 ⟨rfl, hb⟩; have X1 := HX0.out.below hb; have k0 := X1.c0; have k1 := X1.c1; have k2 := X1.c2; have Z1 := HZ0.out.below hb; have z0 := Z1.c0; have z1 := Z1.c1; have z2 := Z1.c2; have y0 := Z1.f 0; have y1 := Z1.f 1; have y2 := Z1.f 2; have HX1 := hide X1; have HZ1 := hide Z1; have HR1 := hide (HR0.out.below hb); have HS1 := hide (Nat.le_trans HS0.out hb.size); have HB1 := hide (Below.then_ HB0.out hb HB0.out.size); clear X1 Z1 hb))
        have hz3 := HZ1.out.set0 (u := .slice none 0 0) |>.set1 (u := .slice none 0 0) |>.set2 (u := .int .i64 0)
        have r0 := hz3.c0
        have r1 := hz3.c1
        have r2 := hz3.c2
        rw [HS.out]
        refine bodyPost_ret (v := .tuple #[.agg #[.slice none 0 0, .slice none 0 0, .int .i64 0], .int .i64 1]) (by simp [results, Try.results27, go_sem, r0, r1, r2]) rfl ⟨_, _, _, _, _, _, rfl, DO.zero _ _, ?_⟩
        exact ((HB1.out.setCell (by simp) _).setCell (by simp) _).setCell (by simp) _
      · have t2 : decide (1073741824 < k) = false := decide_eq_false h2
        have HS := hide (limS_ok hg (by omega : -1 ≤ k) (by omega))
        clear hg h1 h2
        go_enter Try.func27, Try.ntmps27
        go_wp2_with (first | (go_at_call 28; refine (rcheck_is _ A n c B m e' d d.left 0 rfl HC.out HR0.out hn hm).mono ?_; rintro e w1 ⟨rfl, hb⟩; have X1 := HX0.out.below hb; have k0 := X1.c0; have k1 := X1.c1; have k2 := X1.c2; have Z1 := HZ0.out.below hb; have z0 := Z1.c0; have z1 := Z1.c1; have z2 := Z1.c2; have y0 := Z1.f 0; have y1 := Z1.f 1; have y2 := Z1.f 2; have HX1 := hide X1; have HZ1 := hide Z1; have HR1 := hide (HR0.out.below hb); have HS1 := hide (Nat.le_trans HS0.out hb.size); have HB1 := hide (Below.then_ HB0.out hb HB0.out.size); clear X1 Z1 hb) | (go_at_call 11; refine (copy_any _ A n c B m e' d HR1.out hn hm HL32.out).mono ?_; rintro e w2 ⟨A2, n2, c2, B2, m2, e2, rfl, ho, hb⟩; have X2 := HX1.out.below hb; have k0 := X2.c0; have k1 := X2.c1; have k2 := X2.c2; have f0 := X2.f 0; have f1 := X2.f 1; have f2 := X2.f 2; have Z2 := HZ1.out.below hb; have z0 := Z2.c0; have z1 := Z2.c1; have z2 := Z2.c2; have y0 := Z2.f 0; have y1 := Z2.f 1; have y2 := Z2.f 2; have X3 := ((X2.set0 (u := .slice A2 n2 c2)).set1 (u := .slice B2 m2 e2)).set2 (u := .int .i64 d.left); have X4 := X3.set2 (u := .int .i64 k); have q0 := X4.c0; have q1 := X4.c1; have q2 := X4.c2; have HX4 := hide X4; clear X3 X4; have HX2 := hide X2; have HZ2 := hide Z2; have HO2 := hide (ho.do.mono HS1.out); have HB2 := hide (Below.then HB1.out hb); clear X2 Z2 ho hb))
        have hz7 := fin4 (a0 := .slice A2 n2 c2) (a1 := .slice B2 m2 e2) (a2 := .int .i64 d.left) (k := .int .i64 k) HZ2.out
        have r0 := hz7.c0
        have r1 := hz7.c1
        have r2 := hz7.c2
        rw [HS.out]
        refine bodyPost_ret (v := .tuple #[.agg #[.slice A2 n2 c2, .slice B2 m2 e2, .int .i64 k], .int .i64 0]) (by simp [results, Try.results27, go_sem, r0, r1, r2]) rfl ⟨A2, n2, c2, B2, m2, e2, rfl, DO.leave ?_ k, ?_⟩
        · exact (((((((HO2.out.set (by simp)).set (by simp)).set (by simp)).set (by simp)).set (by simp)).set (by simp)).set (by simp)).mono (by omega)
        · exact ((((((HB2.out.setCell (by simp) _).setCell (by simp) _).setCell (by simp) _).setCell (by simp) _).setCell (by simp) _).setCell (by simp) _).setCell (by simp) _
  · have HC := hide (chk_one hg)
    have HS := hide (limS_bad (d := d) (k := k) (fun h => hg h.1))
    clear hg
    go_enter Try.func27, Try.ntmps27
    go_wp2_with (first | (go_at_call 28; refine (rcheck_is _ A n c B m e' d d.left 1 rfl HC.out HR0.out hn hm).mono ?_; rintro e w1 ⟨rfl, hb⟩; have X1 := HX0.out.below hb; have k0 := X1.c0; have k1 := X1.c1; have k2 := X1.c2; have Z1 := HZ0.out.below hb; have z0 := Z1.c0; have z1 := Z1.c1; have z2 := Z1.c2; have y0 := Z1.f 0; have y1 := Z1.f 1; have y2 := Z1.f 2; have HX1 := hide X1; have HZ1 := hide Z1; have HR1 := hide (HR0.out.below hb); have HS1 := hide (Nat.le_trans HS0.out hb.size); have HB1 := hide (Below.then_ HB0.out hb HB0.out.size); clear X1 Z1 hb))
    have hz3 := HZ1.out.set0 (u := .slice none 0 0) |>.set1 (u := .slice none 0 0) |>.set2 (u := .int .i64 0)
    have r0 := hz3.c0
    have r1 := hz3.c1
    have r2 := hz3.c2
    rw [HS.out]
    refine bodyPost_ret (v := .tuple #[.agg #[.slice none 0 0, .slice none 0 0, .int .i64 0], .int .i64 1]) (by simp [results, Try.results27, go_sem, r0, r1, r2]) rfl ⟨_, _, _, _, _, _, rfl, DO.zero _ _, ?_⟩
    exact ((HB1.out.setCell (by simp) _).setCell (by simp) _).setCell (by simp) _

end Go.Proofs.Ythhemdjggdgaaaa
