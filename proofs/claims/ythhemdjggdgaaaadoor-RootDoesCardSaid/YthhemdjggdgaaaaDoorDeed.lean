/- A deed, by the reference. -/
import Derived.Test.YthhemdjggdgaaaaDoorNew
namespace Go.Proofs.YthhemdjggdgaaaaDoor
open Go.RowKit
set_option linter.unusedVariables false

/-- .. with so many deeds left. -/
def Dk.leave (d : Dk) (k : Int) : Dk := ⟨d.dry, d.wet, k⟩
theorem DO.leave {base n c m e : Nat} {w : World} {A B : Option Addr} {d : Dk} (h : DO base w A n c B m e d) (k : Int) : DO base w A n c B m e (d.leave k) := h
theorem Good.leave {d : Dk} (h : Good d) {k : Int} (h1 : -1 ≤ k) (h2 : k ≤ 1073741824) : Good (d.leave k) := ⟨h.one, h.max, h.whole, h1, h2, h.at0, h.at1, h.len, h.up⟩

/-- A disk's cells laid into its box, one of them anew, and all into the answer's. -/
theorem fin4 {w : World} {b : Nat} {a0 a1 a2 k z0 z1 z2 : Value} (h : Bx w (b + 1) z0 z1 z2) :
    Bx (((((((w.setCell ⟨b, 0, none⟩ a0).setCell ⟨b, 1, none⟩ a1).setCell ⟨b, 2, none⟩ a2).setCell ⟨b, 2, none⟩ k).setCell ⟨b + 1, 0, none⟩ a0).setCell ⟨b + 1, 1, none⟩ a1).setCell ⟨b + 1, 2, none⟩ k) (b + 1) a0 a1 k :=
  ((((((h.other (by simp)).other (by simp)).other (by simp)).other (by simp)).set0).set1).set2

theorem DX.leave {base n c m e : Nat} {w : World} {A B : Option Addr} {d : Dk} (h : DX base w A n c B m e d) (k : Int) : DX base w A n c B m e (d.leave k) := h
theorem DX.zero (base : Nat) (w : World) : DX base w none 0 0 none 0 0 Dk.zero := ⟨OB.nil _ _, [], Own.nil _ _, ⟨rfl, fun i hi => by simp at hi⟩, fun i hi => by simp at hi⟩
def DPostX (w : World) (d : Dk) (x : Int) (e : Ending) (w' : World) : Prop :=
  ∃ (A : Option Addr) (n c : Nat) (B : Option Addr) (m e' : Nat), e = .returned (.tuple #[.agg #[.slice A n c, .slice B m e', .int .i64 d.left], .int .i64 x]) ∧ DX w.heap.size w' A n c B m e' d ∧ Below w.heap.size w w'

/-- A disk behind a deed. -/
def dec (l : Int) : Int := if 0 < l then l - 1 else l
def deedS (d : Dk) : Dk × Int := if d.left = 0 then (Dk.zero, 11) else (d.leave (dec d.left), 0)
theorem deedS_dead {d : Dk} (h : d.left = 0) : deedS d = (Dk.zero, 11) := by unfold deedS; rw [if_pos h]
theorem deedS_ok {d : Dk} (h : ¬ d.left = 0) : deedS d = (d.leave (dec d.left), 0) := by unfold deedS; rw [if_neg h]

theorem fin3 {w : World} {b : Nat} {a0 a1 a2 z0 z1 z2 : Value} (h : Bx w (b + 1) z0 z1 z2) :
    Bx ((((((w.setCell ⟨b, 0, none⟩ a0).setCell ⟨b, 1, none⟩ a1).setCell ⟨b, 2, none⟩ a2).setCell ⟨b + 1, 0, none⟩ a0).setCell ⟨b + 1, 1, none⟩ a1).setCell ⟨b + 1, 2, none⟩ a2) (b + 1) a0 a1 a2 :=
  (((((h.other (by simp)).other (by simp)).other (by simp)).set0).set1).set2

set_option maxRecDepth 100000 in
set_option maxHeartbeats 2000000 in
theorem rdeed_any (w : World) (A : Option Addr) (n c : Nat) (B : Option Addr) (m e' : Nat) (d : Dk) (hr : DR w A n B m d) (hg : Good d) (hn : n ≤ 300000) (hm : m ≤ 1000) :
    Calls Tryd.prog 51 #[.agg #[.slice A n c, .slice B m e', .int .i64 d.left]] w (DPostX w (deedS d).1 (deedS d).2) := by
  obtain ⟨W0, hW0⟩ : ∃ W0, W0 = ((w.alloc (.cells #[.slice A n c, .slice B m e', .int .i64 d.left] 31)).alloc (.cells #[.slice none 0 0, .slice none 0 0, .int .i64 0] 31)) := ⟨_, rfl⟩
  have HX0 : Hid (Bx W0 w.heap.size (.slice A n c) (.slice B m e') (.int .i64 d.left)) := by rw [hW0]; exact (Bx.made w _ _ _).alloc _
  have HZ0 : Hid (Bx W0 (w.heap.size + 1) (.slice none 0 0) (.slice none 0 0) (.int .i64 0)) := by
    rw [hW0]; exact Bx.made_ _ _ (by simp) _ _ _
  have HB0 : Hid (Below w.heap.size w W0) := by rw [hW0]; exact below_alloc2 w _ _
  have HS0 : Hid (w.heap.size + 2 ≤ W0.heap.size) := by
    show _ ≤ _
    rw [hW0]; simp
  have HR0 : Hid (DR W0 A n B m d) := hr.below (by rw [hW0]; exact below_alloc2 w _ _)
  rw [hW0] at HX0 HZ0 HB0 HS0 HR0
  clear hW0 hr
  have HX1 := HX0
  have HZ1 := HZ0
  have HR1 := HR0
  have HS1 := HS0
  have HB1 := HB0
  have HL32 := hide hg.len32
  have hl0 := hg.left0
  have hl1 := hg.left1
  clear hg
  by_cases h0 : d.left = 0
  · have t0 : (d.left == 0) = true := beq_iff_eq.2 h0
    have HS := hide (deedS_dead h0)
    clear h0 HX1 HZ1 HR1 HS1
    go_enter Tryd.func51, Tryd.ntmps51
    go_wp2_with fail
    have r0 := HZ0.out.c0
    have r1 := HZ0.out.c1
    have r2 := HZ0.out.c2
    rw [HS.out]
    exact bodyPost_ret (v := .tuple #[.agg #[.slice none 0 0, .slice none 0 0, .int .i64 0], .int .i64 11]) (by simp [results, Tryd.results51, go_sem, r0, r1, r2]) rfl ⟨_, _, _, _, _, _, rfl, DX.zero _ _, HB0.out⟩
  · have t0 : (d.left == 0) = false := beq_eq_false_iff_ne.2 h0
    have HS := hide (deedS_ok h0)
    by_cases h1 : 0 < d.left
    · have t1 : decide (0 < d.left) = true := decide_eq_true h1
      have HD : Hid (dec d.left = d.left - 1) := by show dec d.left = _; unfold dec; rw [if_pos h1]
      have hw1 : IntKind.i64.wrap (d.left - 1) = d.left - 1 := by rw [IntKind.wrap_i64]; omega
      clear h0 h1
      go_enter Tryd.func51, Tryd.ntmps51
      go_wp2_with (first | (go_at_call 10; refine (copy_any _ A n c B m e' d HR1.out hn hm HL32.out).mono ?_; rintro e w2 ⟨A2, n2, c2, B2, m2, e2, rfl, ho, hb⟩; have X2 := HX1.out.below hb; have k0 := X2.c0; have k1 := X2.c1; have k2 := X2.c2; have f0 := X2.f 0; have f1 := X2.f 1; have f2 := X2.f 2; have Z2 := HZ1.out.below hb; have z0 := Z2.c0; have z1 := Z2.c1; have z2 := Z2.c2; have y0 := Z2.f 0; have y1 := Z2.f 1; have y2 := Z2.f 2; have X3 := ((X2.set0 (u := .slice A2 n2 c2)).set1 (u := .slice B2 m2 e2)).set2 (u := .int .i64 d.left); have X4 := X3.set2 (u := .int .i64 (d.left - 1)); have q0 := X4.c0; have q1 := X4.c1; have q2 := X4.c2; have HX4 := hide X4; clear X3 X4; have HX2 := hide X2; have HZ2 := hide Z2; have HO2 := hide (ho.mono HS1.out); have HB2 := hide (Below.then HB1.out hb); clear X2 Z2 ho hb))
      have hz7 := fin4 (a0 := .slice A2 n2 c2) (a1 := .slice B2 m2 e2) (a2 := .int .i64 d.left) (k := .int .i64 (d.left - 1)) HZ2.out
      have r0 := hz7.c0
      have r1 := hz7.c1
      have r2 := hz7.c2
      rw [HS.out, HD.out]
      refine bodyPost_ret (v := .tuple #[.agg #[.slice A2 n2 c2, .slice B2 m2 e2, .int .i64 (d.left - 1)], .int .i64 0]) (by simp [results, Tryd.results51, go_sem, r0, r1, r2]) rfl ⟨A2, n2, c2, B2, m2, e2, rfl, DX.leave ?_ _, ?_⟩
      · exact (((((((HO2.out.set (by simp)).set (by simp)).set (by simp)).set (by simp)).set (by simp)).set (by simp)).set (by simp)).mono (by omega)
      · exact ((((((HB2.out.setCell (by simp) _).setCell (by simp) _).setCell (by simp) _).setCell (by simp) _).setCell (by simp) _).setCell (by simp) _).setCell (by simp) _
    · have t1 : decide (0 < d.left) = false := decide_eq_false h1
      have HD : Hid (dec d.left = d.left) := by show dec d.left = _; unfold dec; rw [if_neg h1]
      clear h0 h1
      go_enter Tryd.func51, Tryd.ntmps51
      go_wp2_with (first | (go_at_call 10; refine (copy_any _ A n c B m e' d HR1.out hn hm HL32.out).mono ?_; rintro e w2 ⟨A2, n2, c2, B2, m2, e2, rfl, ho, hb⟩; have X2 := HX1.out.below hb; have k0 := X2.c0; have k1 := X2.c1; have k2 := X2.c2; have f0 := X2.f 0; have f1 := X2.f 1; have f2 := X2.f 2; have Z2 := HZ1.out.below hb; have z0 := Z2.c0; have z1 := Z2.c1; have z2 := Z2.c2; have y0 := Z2.f 0; have y1 := Z2.f 1; have y2 := Z2.f 2; have X3 := ((X2.set0 (u := .slice A2 n2 c2)).set1 (u := .slice B2 m2 e2)).set2 (u := .int .i64 d.left); have X4 := X3.set2 (u := .int .i64 d.left); have q0 := X4.c0; have q1 := X4.c1; have q2 := X4.c2; have HX4 := hide X4; clear X3 X4; have HX2 := hide X2; have HZ2 := hide Z2; have HO2 := hide (ho.mono HS1.out); have HB2 := hide (Below.then HB1.out hb); clear X2 Z2 ho hb))
      have hz7 := fin3 (a0 := .slice A2 n2 c2) (a1 := .slice B2 m2 e2) (a2 := .int .i64 d.left) HZ2.out
      have r0 := hz7.c0
      have r1 := hz7.c1
      have r2 := hz7.c2
      rw [HS.out, HD.out]
      refine bodyPost_ret (v := .tuple #[.agg #[.slice A2 n2 c2, .slice B2 m2 e2, .int .i64 d.left], .int .i64 0]) (by simp [results, Tryd.results51, go_sem, r0, r1, r2]) rfl ⟨A2, n2, c2, B2, m2, e2, rfl, DX.leave ?_ _, ?_⟩
      · exact ((((((HO2.out.set (by simp)).set (by simp)).set (by simp)).set (by simp)).set (by simp)).set (by simp)).mono (by omega)
      · exact (((((HB2.out.setCell (by simp) _).setCell (by simp) _).setCell (by simp) _).setCell (by simp) _).setCell (by simp) _).setCell (by simp) _
end Go.Proofs.YthhemdjggdgaaaaDoor
