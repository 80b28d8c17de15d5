/- A crash. -/
import Derived.Test.YthhemdjggdgaaaaDoorSettle
namespace Go.Proofs.YthhemdjggdgaaaaDoor
open Go.RowKit
set_option linter.unusedVariables false

/-- A crash lets of each wet sector the masks' groups be dry. -/
def Dk.settled (d : Dk) (mask : Nat → UInt8) (l : Int) : Dk := ⟨setUpto d.dry d.wet mask d.wet.length, [], l⟩
open Classical in
noncomputable def crashS (d : Dk) (ms : Bs) : Dk × Int := if Good d then (d.settled (maskAt ms) (-1), 0) else (Dk.zero, 1)
theorem crashS_ok {d : Dk} (h : Good d) (ms : Bs) : crashS d ms = (d.settled (maskAt ms) (-1), 0) := by unfold crashS; rw [if_pos h]
theorem crashS_bad {d : Dk} (h : ¬ Good d) (ms : Bs) : crashS d ms = (Dk.zero, 1) := by unfold crashS; rw [if_neg h]
theorem DX.boxed {base b n c m e : Nat} {w : World} {A B : Option Addr} {d : Dk} {u v t : Value} (h : DX base w A n c B m e d) (hb : b < base) :
    DX base (((w.setCell ⟨b, 0, none⟩ u).setCell ⟨b, 1, none⟩ v).setCell ⟨b, 2, none⟩ t) A n c B m e d := ((h.set hb).set hb).set hb
theorem DO.boxed {base b n c m e : Nat} {w : World} {A B : Option Addr} {d : Dk} {u v t : Value} (h : DO base w A n c B m e d) (hb : b < base) :
    DO base (((w.setCell ⟨b, 0, none⟩ u).setCell ⟨b, 1, none⟩ v).setCell ⟨b, 2, none⟩ t) A n c B m e d := ((h.set hb).set hb).set hb
theorem DX.nlen {base n c m e : Nat} {w : World} {A B : Option Addr} {d : Dk} (h : DX base w A n c B m e d) : d.dry.length = n := h.1.len
theorem DX.wlen {base n c m e : Nat} {w : World} {A B : Option Addr} {d : Dk} (h : DX base w A n c B m e d) : d.wet.length = m := by obtain ⟨_, ps, h2, h3, _⟩ := h; rw [← h3.1, h2.len]
theorem Bx.settled {base k b : Nat} {w w4 w5 : World} {x0 x1 x2 u : Value} (h : Bx w k x0 x1 x2) (hb : Below base w w4) (hk : k < base) (hne : k ≠ b) (hw : w5 = w4.setCell ⟨b, 1, none⟩ u) : Bx w5 k x0 x1 x2 := by
  subst hw
  exact Bx.other ((hb.block k hk).trans h) hne
theorem below_boxed {base b : Nat} {w0 w : World} {u v t : Value} (h : Below base w0 w) (hb : base ≤ b) :
    Below base w0 (((w.setCell ⟨b, 0, none⟩ u).setCell ⟨b, 1, none⟩ v).setCell ⟨b, 2, none⟩ t) := ((h.setCell hb _).setCell hb _).setCell hb _
theorem Bx.boxed {b : Nat} {w : World} {x0 x1 x2 u v t : Value} (h : Bx w b x0 x1 x2) :
    Bx (((w.setCell ⟨b, 0, none⟩ u).setCell ⟨b, 1, none⟩ v).setCell ⟨b, 2, none⟩ t) b u v t := ((h.set0 (u := u)).set1 (u := v)).set2 (u := t)
theorem Bx.beside {b k : Nat} {w : World} {x0 x1 x2 u v t : Value} (h : Bx w b x0 x1 x2) (hk : k ≠ b) :
    Bx (((w.setCell ⟨k, 0, none⟩ u).setCell ⟨k, 1, none⟩ v).setCell ⟨k, 2, none⟩ t) b x0 x1 x2 := ((h.other (Ne.symm hk)).other (Ne.symm hk)).other (Ne.symm hk)
theorem cell_beside {b k : Nat} {w : World} {x u v t : Value} (h : w.cell? ⟨b, 0, none⟩ = some x) (hk : k ≠ b) :
    (((w.setCell ⟨k, 0, none⟩ u).setCell ⟨k, 1, none⟩ v).setCell ⟨k, 2, none⟩ t).cell? ⟨b, 0, none⟩ = some x := by
  rw [World.cell?_of_block (Below.heap_setCell _ _ _ b (Ne.symm hk)), World.cell?_of_block (Below.heap_setCell _ _ _ b (Ne.symm hk)), World.cell?_of_block (Below.heap_setCell _ _ _ b (Ne.symm hk))]; exact h
theorem heap_boxed {b : Nat} {w : World} {u v t : Value} : (((w.setCell ⟨b, 0, none⟩ u).setCell ⟨b, 1, none⟩ v).setCell ⟨b, 2, none⟩ t).heap.size = w.heap.size := by simp
theorem dry_do {base n c : Nat} {w : World} {A : Option Addr} {bs : Bs} {l : Int} (h : OB base w A n c bs) : DO base w A n c none 0 0 ⟨bs, [], l⟩ := ⟨h, [], Own.nil _ _, rfl, fun i hi => by simp at hi⟩

set_option maxRecDepth 100000 in
set_option maxHeartbeats 2000000 in
theorem crash_any (w : World) (A : Option Addr) (n c : Nat) (B : Option Addr) (m e' : Nat) (d : Dk) (Am : Option Addr) (nm cm : Nat) (ms : Bs) (hr : DR w A n B m d) (hms : BR w Am nm ms) (hn : n ≤ 300000) (hm : m ≤ 1000) :
    Calls Tryd.prog 24 #[.agg #[.slice A n c, .slice B m e', .int .i64 d.left], .slice Am nm cm] w (DPost w (crashS d ms).1 (crashS d ms).2) := by
  obtain ⟨W0, hW0⟩ : ∃ W0, W0 = (((w.alloc (.cells #[.slice A n c, .slice B m e', .int .i64 d.left] 31)).alloc (.cells #[.slice Am nm cm] 28)).alloc (.cells #[.slice none 0 0, .slice none 0 0, .int .i64 0] 31)) := ⟨_, rfl⟩
  have hb0 : Below w.heap.size w W0 := by rw [hW0]; exact (below_alloc2 w _ _).alloc (by simp; omega) _
  have HX0 : Hid (Bx W0 w.heap.size (.slice A n c) (.slice B m e') (.int .i64 d.left)) := by rw [hW0]; exact ((Bx.made w _ _ _).alloc _).alloc _
  have HZ0 : Hid (Bx W0 (w.heap.size + 1 + 1) (.slice none 0 0) (.slice none 0 0) (.int .i64 0)) := by
    rw [hW0]; exact Bx.made_ _ _ (by simp) _ _ _
  have HB0 : Hid (Below w.heap.size w W0) := hb0
  have HS0 : Hid (w.heap.size + 3 ≤ W0.heap.size) := by
    show _ ≤ _
    rw [hW0]; simp
  have HM0 : Hid (W0.cell? ⟨w.heap.size + 1, 0, none⟩ = some (.slice Am nm cm)) := by
    show _ = _
    rw [hW0]
    exact (World.cell?_alloc_lt _ _ _ (by simp)).trans (by simp)
  have HR0 : Hid (DR W0 A n B m d) := hr.below hb0
  have HMS : Hid (Reads W0 w.heap.size 1 Am nm (byt ms)) := Reads.below hms hb0
  rw [hW0] at HX0 HZ0 HB0 HS0 HR0 HM0 HMS
  clear hW0 hms hb0
  by_cases hg : Good d
  · have HC := hide (chk_zero hg)
    have HS := hide (crashS_ok hg ms)
    have HG := hide hg
    have HL32 := hide hg.len32
    have hD : d.dry.length ≤ 300000 := by have := hg.whole; have := hg.max; omega
    have hW : d.wet.length ≤ 1000 := by rw [hr.wlen]; exact hm
    clear hg hr
    go_enter Tryd.func24, Tryd.ntmps24
    go_wp2_with (first
      | (go_at_call 43; refine (check_is _ A n c B m e' d d.left 0 rfl HC.out HR0.out hn hm).mono ?_; rintro e w1 ⟨rfl, hb⟩; have X1 := HX0.out.below hb; have k0 := X1.c0; have k1 := X1.c1; have k2 := X1.c2; have HX1 := hide X1; have HZ1 := hide (HZ0.out.below hb); have HR1 := hide (HR0.out.below hb); have HS1 := hide (Nat.le_trans HS0.out hb.size); have HB1 := hide (Below.then_ HB0.out hb HB0.out.size); have HM1 := hide ((hb.cell (p := ⟨w.heap.size + 1, 0, none⟩) (Nat.lt_of_lt_of_le (show w.heap.size + 1 < w.heap.size + 3 by omega) HS0.out)).trans HM0.out); have HMS1 := hide (Reads.below HMS.out (hb.mono HB0.out.size)); clear X1 hb)
      | (go_at_call 44; refine (own_any _ A n c B m e' d HR1.out hn hm HL32.out).mono ?_; rintro e w2 ⟨A2, n2, c2, B2, m2, e2, rfl, ho, hb⟩; have X2 := HX1.out.below hb; have k0 := X2.c0; have k1 := X2.c1; have k2 := X2.c2; have f0 := X2.f 0; have f1 := X2.f 1; have f2 := X2.f 2; have HX3 := hide (X2.boxed (u := .slice A2 n2 c2) (v := .slice B2 m2 e2) (t := .int .i64 d.left)); have HZ3 := hide ((HZ1.out.below hb).beside (k := w.heap.size) (u := .slice A2 n2 c2) (v := .slice B2 m2 e2) (t := .int .i64 d.left) (by omega)); have HM3 := hide (cell_beside (k := w.heap.size) (u := .slice A2 n2 c2) (v := .slice B2 m2 e2) (t := .int .i64 d.left) ((hb.cell (p := ⟨w.heap.size + 1, 0, none⟩) (Nat.lt_of_lt_of_le (show w.heap.size + 1 < w.heap.size + 3 by omega) HS1.out)).trans HM1.out) (by omega)); have HD3 := hide ((ho.mono HS1.out).boxed (b := w.heap.size) (u := .slice A2 n2 c2) (v := .slice B2 m2 e2) (t := .int .i64 d.left) (by omega)); have HB3 := hide (below_boxed (Below.then_ HB1.out hb HB1.out.size) (b := w.heap.size) (u := .slice A2 n2 c2) (v := .slice B2 m2 e2) (t := .int .i64 d.left) (Nat.le_refl _)); have HMS3 := hide (Reads.below (Reads.below HMS1.out (hb.mono HB1.out.size)) (below_boxed (Below.refl w.heap.size w2) (b := w.heap.size) (u := .slice A2 n2 c2) (v := .slice B2 m2 e2) (t := .int .i64 d.left) (Nat.le_refl _))); have HS3 := hide (Nat.le_trans HS1.out hb.size); have hN2 := ho.nlen; have hM2 := ho.wlen; have hn4 : n2 ≤ 300000 := Nat.le_trans (Nat.le_of_eq hN2.symm) hD; have hm4 : m2 ≤ 1000 := Nat.le_trans (Nat.le_of_eq hM2.symm) hW; clear X2 ho hb)
      | (go_at_call 45; obtain ⟨o1, ps2, o2, o3, o4⟩ := HD3.out; refine (settleC_any _ (w.heap.size + 3) w.heap.size (w.heap.size + 1) A2 n2 c2 B2 m2 e2 ps2 d d.left Am nm cm ms HG.out HX3.out ⟨o1, o2, o3, o4⟩ (by omega) (by omega) (by rw [heap_boxed]; exact HS3.out) HM3.out (Reads.more HMS3.out (by omega)) hn4 hm4).mono ?_; rintro e w5 ⟨rfl, hx, ho, w4, hb, hw⟩; have k0 := hx.c0; have k1 := hx.c1; have k2 := hx.c2; have f2 := hx.f 2; have X6 := hx.set2 (u := .int .i64 (-1)); have q0 := X6.c0; have q1 := X6.c1; have q2 := X6.c2; have HO6 := hide ho; have HB6 := hide hb; have HW6 := hide hw; have HX5 := hide hx; have Z5 := HZ3.out.settled hb (by omega) (by omega) hw; have z0 := Z5.c0; have z1 := Z5.c1; have z2 := Z5.c2; have y0 := Z5.f 0; have y1 := Z5.f 1; have y2 := Z5.f 2; have HZ5 := hide Z5; clear Z5 o1 o2 o3 o4 hx ho hb hw X6))
    have hz6 := ((HZ5.out.other (a := ⟨w.heap.size, 2, none⟩) (u := .int .i64 (-1)) (by simp; omega)).boxed (u := .slice A2 n2 c2) (v := .slice none 0 0) (t := .int .i64 (-1)))
    have r0 := hz6.c0
    have r1 := hz6.c1
    have r2 := hz6.c2
    rw [HS.out]
    refine bodyPost_ret (v := .tuple #[.agg #[.slice A2 n2 c2, .slice none 0 0, .int .i64 (-1)], .int .i64 0]) (by simp [results, Tryd.results24, go_sem, r0, r1, r2]) rfl ⟨A2, n2, c2, none, 0, 0, rfl, dry_do ?_, ?_⟩
    · exact ((((HO6.out.set (by simp)).set (by simp)).set (by simp)).set (by simp)).mono (by omega)
    · have := HW6.out
      subst this
      exact below_boxed (((HB3.out.trans (HB6.out.mono (by omega))).setCell (Nat.le_refl _) _).setCell (Nat.le_refl _) _) (by omega)
  · have HC := hide (chk_one hg)
    have HS := hide (crashS_bad hg ms)
    clear hg hr
    go_enter Tryd.func24, Tryd.ntmps24
    go_wp2_with (first
      | (go_at_call 43; refine (check_is _ A n c B m e' d d.left 1 rfl HC.out HR0.out hn hm).mono ?_; rintro e w1 ⟨rfl, hb⟩; have Z1 := HZ0.out.below hb; have z0 := Z1.c0; have z1 := Z1.c1; have z2 := Z1.c2; have y0 := Z1.f 0; have y1 := Z1.f 1; have y2 := Z1.f 2; have HZ1 := hide Z1; have HB1 := hide (Below.then_ HB0.out hb HB0.out.size); clear Z1 hb))
    have hz6 := (HZ1.out.boxed (u := .slice none 0 0) (v := .slice none 0 0) (t := .int .i64 0))
    have r0 := hz6.c0
    have r1 := hz6.c1
    have r2 := hz6.c2
    rw [HS.out]
    refine bodyPost_ret (v := .tuple #[.agg #[.slice none 0 0, .slice none 0 0, .int .i64 0], .int .i64 1]) (by simp [results, Tryd.results24, go_sem, r0, r1, r2]) rfl ⟨_, _, _, _, _, _, rfl, DO.zero _ _, ?_⟩
    exact below_boxed HB1.out (by omega)
end Go.Proofs.YthhemdjggdgaaaaDoor
