/- Sync. -/
import Derived.Test.YthhemdjggdgaaaaDoorSetS
namespace Go.Proofs.YthhemdjggdgaaaaDoor
open Go.RowKit
set_option linter.unusedVariables false

theorem own_is (w : World) (A : Option Addr) (n c : Nat) (B : Option Addr) (m e' : Nat) (d : Dk) (l : Int) (hl : d.left = l) (hr : DR w A n B m d) (hn : n ≤ 300000) (hm : m ≤ 1000) (hp32 : ∀ i, i < d.wet.length → (qn d.wet i).2.length ≤ 300000) :
    Calls Tryd.prog 44 #[.agg #[.slice A n c, .slice B m e', .int .i64 l]] w fun e w' => ∃ (A : Option Addr) (n c : Nat) (B : Option Addr) (m e' : Nat), e = .returned (.agg #[.slice A n c, .slice B m e', .int .i64 l]) ∧ DX w.heap.size w' A n c B m e' d ∧ Below w.heap.size w w' := by
  subst hl; exact own_any w A n c B m e' d hr hn hm hp32
/-- A deed that lets all be dry. -/
def sync0 (d : Dk) : Dk × Int := if d.left = 0 then (Dk.zero, 11) else (d.settled allMask (dec d.left), 0)
theorem sync0_dead {d : Dk} (h : d.left = 0) : sync0 d = (Dk.zero, 11) := by unfold sync0; rw [if_pos h]
theorem sync0_ok {d : Dk} {l k : Int} (hl : d.left = l) (h : ¬ l = 0) (hk : dec l = k) : sync0 d = (d.settled allMask k, 0) := by subst hl hk; unfold sync0; rw [if_neg h]

set_option maxRecDepth 100000 in
set_option maxHeartbeats 2000000 in
theorem doS_any (w : World) (A : Option Addr) (n c : Nat) (B : Option Addr) (m e' : Nat) (d : Dk) (l : Int) (hl : d.left = l) (hr : DR w A n B m d) (hg : Good d) (hn : n ≤ 300000) (hm : m ≤ 1000) :
    Calls Tryd.prog 39 #[.agg #[.slice A n c, .slice B m e', .int .i64 l], .func (.func 48) #[] #[]] w (DPost w (sync0 d).1 (sync0 d).2) := by
  obtain ⟨W0, hW0⟩ : ∃ W0, W0 = ((w.alloc (.cells #[.slice A n c, .slice B m e', .int .i64 l] 31)).alloc (.cells #[.slice none 0 0, .slice none 0 0, .int .i64 0] 31)) := ⟨_, rfl⟩
  have HX0 : Hid (Bx W0 w.heap.size (.slice A n c) (.slice B m e') (.int .i64 l)) := by rw [hW0]; exact (Bx.made w _ _ _).alloc _
  have HZ0 : Hid (Bx W0 (w.heap.size + 1) (.slice none 0 0) (.slice none 0 0) (.int .i64 0)) := by
    rw [hW0]; exact Bx.made_ _ _ (by simp) _ _ _
  have HB0 : Hid (Below w.heap.size w W0) := by rw [hW0]; exact below_alloc2 w _ _
  have HS0 : Hid (w.heap.size + 2 ≤ W0.heap.size) := by
    show _ ≤ _
    rw [hW0]; simp
  have HR0 : Hid (DR W0 A n B m d) := hr.below (by rw [hW0]; exact below_alloc2 w _ _)
  have HL32 := hide hg.len32
  have hl0 := hg.left0
  have hl1 := hg.left1
  have hD : d.dry.length ≤ 300000 := by have := hg.whole; have := hg.max; omega
  have hW : d.wet.length ≤ 1000 := by rw [hr.wlen]; exact hm
  rw [hl] at hl0 hl1
  by_cases h0 : l = 0
  · subst h0
    have HS := hide (sync0_dead hl)
    rw [hW0] at HX0 HZ0 HB0 HS0 HR0
    clear hW0 hr hg
    have z0 := HZ0.out.c0
    have z1 := HZ0.out.c1
    have z2 := HZ0.out.c2
    go_enter Tryd.func39, Tryd.ntmps39
    go_wp2_with fail
    have r0 := HZ0.out.c0
    have r1 := HZ0.out.c1
    have r2 := HZ0.out.c2
    rw [HS.out]
    refine bodyPost_ret (v := .tuple #[.agg #[.slice none 0 0, .slice none 0 0, .int .i64 0], .int .i64 11]) (by simp [results, Tryd.results39, go_sem, r0, r1, r2]) rfl ⟨_, _, _, _, _, _, rfl, DO.zero _ _, ?_⟩
    exact HB0.out
  · have t0 : (l == 0) = false := beq_eq_false_iff_ne.2 h0
    by_cases h1 : l = -1
    · subst h1
      have HS := hide (sync0_ok hl h0 (show dec (-1) = -1 by decide))
      have HG := hide (hg.leave (k := -1) (by omega) (by omega))
      have HLL : Hid ((d.leave (-1)).left = -1) := rfl
      have HL1 : Hid (∀ i, i < (d.leave (-1)).wet.length → (qn (d.leave (-1)).wet i).2.length ≤ 300000) := HL32
      have HX1 := HX0
      have HZ1 := HZ0
      have HB1 := HB0
      have HS1 := HS0
      have HR1 : Hid (DR W0 A n B m (d.leave (-1))) := HR0
      rw [hW0] at HX1 HZ1 HB1 HS1 HR1
      clear hW0 hr hg h0 HX0 HZ0 HB0 HS0 HR0
      go_enter Tryd.func39, Tryd.ntmps39
      go_wp2_with (first | (go_at_call 44; (with_reducible refine (own_is _ A n c B m e' (d.leave (-1)) (-1) HLL.out HR1.out hn hm HL1.out).mono ?_); rintro e w2 ⟨A2, n2, c2, B2, m2, e2, rfl, ho, hb⟩; have X2 := HX1.out.below hb; have k0 := X2.c0; have k1 := X2.c1; have k2 := X2.c2; have f0 := X2.f 0; have f1 := X2.f 1; have f2 := X2.f 2; have HX3 := hide (X2.boxed (u := .slice A2 n2 c2) (v := .slice B2 m2 e2) (t := .int .i64 (-1))); have HZ3 := hide ((HZ1.out.below hb).beside (k := w.heap.size) (u := .slice A2 n2 c2) (v := .slice B2 m2 e2) (t := .int .i64 (-1)) (by omega)); have HD3 := hide ((ho.mono HS1.out).boxed (b := w.heap.size) (u := .slice A2 n2 c2) (v := .slice B2 m2 e2) (t := .int .i64 (-1)) (by omega)); have HB3 := hide (below_boxed (Below.then_ HB1.out hb HB1.out.size) (b := w.heap.size) (u := .slice A2 n2 c2) (v := .slice B2 m2 e2) (t := .int .i64 (-1)) (Nat.le_refl _)); have HS3 := hide (Nat.le_trans HS1.out hb.size); have hN2 := ho.nlen; have hM2 := ho.wlen; have hn4 : n2 ≤ 300000 := Nat.le_trans (Nat.le_of_eq hN2.symm) hD; have hm4 : m2 ≤ 1000 := Nat.le_trans (Nat.le_of_eq hM2.symm) hW; clear X2 ho hb) | (go_at_call 48; obtain ⟨o1, ps2, o2, o3, o4⟩ := HD3.out; refine (sync1_any _ (w.heap.size + 2) w.heap.size A2 n2 c2 B2 m2 e2 ps2 (d.leave (-1)) (-1) HG.out HX3.out ⟨o1, o2, o3, o4⟩ (by omega) (by rw [heap_boxed]; exact HS3.out) hn4 hm4).mono ?_; rintro e w5 ⟨rfl, hx, ho, w4, hb, hw⟩; have k0 := hx.c0; have k1 := hx.c1; have k2 := hx.c2; have HO6 := hide ho; have HB6 := hide hb; have HW6 := hide hw; have HX5 := hide hx; have Z5 := HZ3.out.settled hb (by omega) (by omega) hw; have z0 := Z5.c0; have z1 := Z5.c1; have z2 := Z5.c2; have y0 := Z5.f 0; have y1 := Z5.f 1; have y2 := Z5.f 2; have HZ5 := hide Z5; clear Z5 o1 o2 o3 o4 hx ho hb hw))
      have hz6 := HZ5.out.boxed (u := .slice A2 n2 c2) (v := .slice none 0 0) (t := .int .i64 (-1))
      have r0 := hz6.c0
      have r1 := hz6.c1
      have r2 := hz6.c2
      rw [HS.out]
      refine bodyPost_ret (v := .tuple #[.agg #[.slice A2 n2 c2, .slice none 0 0, .int .i64 (-1)], .int .i64 0]) (by simp [results, Tryd.results39, go_sem, r0, r1, r2]) rfl ⟨A2, n2, c2, none, 0, 0, rfl, dry_do ?_, ?_⟩
      · exact (((HO6.out.set (by simp)).set (by simp)).set (by simp)).mono (by omega)
      · have := HW6.out
        subst this
        exact below_boxed ((HB3.out.trans (HB6.out.mono (by omega))).setCell (Nat.le_refl _) _) (by omega)
    · have t1 : (l == -1) = false := beq_eq_false_iff_ne.2 h1
      have hw1 : IntKind.i64.wrap (l - 1) = l - 1 := by rw [IntKind.wrap_i64]; omega
      have HS := hide (sync0_ok hl h0 (show dec l = l - 1 by unfold dec; rw [if_pos (by omega)]))
      have HG := hide (hg.leave (k := l - 1) (by omega) (by omega))
      have HLL : Hid ((d.leave (l - 1)).left = l - 1) := rfl
      have HL1 : Hid (∀ i, i < (d.leave (l - 1)).wet.length → (qn (d.leave (l - 1)).wet i).2.length ≤ 300000) := HL32
      clear HX0 HZ0 HB0 HS0 HR0 hW0 W0
      obtain ⟨W0, hW0⟩ : ∃ W0, W0 = ((w.alloc (.cells #[.slice A n c, .slice B m e', .int .i64 (l - 1)] 31)).alloc (.cells #[.slice none 0 0, .slice none 0 0, .int .i64 0] 31)) := ⟨_, rfl⟩
      have HX1 : Hid (Bx W0 w.heap.size (.slice A n c) (.slice B m e') (.int .i64 (l - 1))) := by rw [hW0]; exact (Bx.made w _ _ _).alloc _
      have HZ1 : Hid (Bx W0 (w.heap.size + 1) (.slice none 0 0) (.slice none 0 0) (.int .i64 0)) := by
        rw [hW0]; exact Bx.made_ _ _ (by simp) _ _ _
      have HB1 : Hid (Below w.heap.size w W0) := by rw [hW0]; exact below_alloc2 w _ _
      have HS1 : Hid (w.heap.size + 2 ≤ W0.heap.size) := by
        show _ ≤ _
        rw [hW0]; simp
      have HR1 : Hid (DR W0 A n B m (d.leave (l - 1))) := hr.below (by rw [hW0]; exact below_alloc2 w _ _)
      rw [hW0] at HX1 HZ1 HB1 HS1 HR1
      clear hW0 hr hg h0 h1
      go_enter Tryd.func39, Tryd.ntmps39
      go_wp2_with (first | (go_at_call 44; (with_reducible refine (own_is _ A n c B m e' (d.leave (l - 1)) (l - 1) HLL.out HR1.out hn hm HL1.out).mono ?_); rintro e w2 ⟨A2, n2, c2, B2, m2, e2, rfl, ho, hb⟩; have X2 := HX1.out.below hb; have k0 := X2.c0; have k1 := X2.c1; have k2 := X2.c2; have f0 := X2.f 0; have f1 := X2.f 1; have f2 := X2.f 2; have HX3 := hide (X2.boxed (u := .slice A2 n2 c2) (v := .slice B2 m2 e2) (t := .int .i64 (l - 1))); have HZ3 := hide ((HZ1.out.below hb).beside (k := w.heap.size) (u := .slice A2 n2 c2) (v := .slice B2 m2 e2) (t := .int .i64 (l - 1)) (by omega)); have HD3 := hide ((ho.mono HS1.out).boxed (b := w.heap.size) (u := .slice A2 n2 c2) (v := .slice B2 m2 e2) (t := .int .i64 (l - 1)) (by omega)); have HB3 := hide (below_boxed (Below.then_ HB1.out hb HB1.out.size) (b := w.heap.size) (u := .slice A2 n2 c2) (v := .slice B2 m2 e2) (t := .int .i64 (l - 1)) (Nat.le_refl _)); have HS3 := hide (Nat.le_trans HS1.out hb.size); have hN2 := ho.nlen; have hM2 := ho.wlen; have hn4 : n2 ≤ 300000 := Nat.le_trans (Nat.le_of_eq hN2.symm) hD; have hm4 : m2 ≤ 1000 := Nat.le_trans (Nat.le_of_eq hM2.symm) hW; clear X2 ho hb) | (go_at_call 48; obtain ⟨o1, ps2, o2, o3, o4⟩ := HD3.out; refine (sync1_any _ (w.heap.size + 2) w.heap.size A2 n2 c2 B2 m2 e2 ps2 (d.leave (l - 1)) (l - 1) HG.out HX3.out ⟨o1, o2, o3, o4⟩ (by omega) (by rw [heap_boxed]; exact HS3.out) hn4 hm4).mono ?_; rintro e w5 ⟨rfl, hx, ho, w4, hb, hw⟩; have k0 := hx.c0; have k1 := hx.c1; have k2 := hx.c2; have HO6 := hide ho; have HB6 := hide hb; have HW6 := hide hw; have HX5 := hide hx; have Z5 := HZ3.out.settled hb (by omega) (by omega) hw; have z0 := Z5.c0; have z1 := Z5.c1; have z2 := Z5.c2; have y0 := Z5.f 0; have y1 := Z5.f 1; have y2 := Z5.f 2; have HZ5 := hide Z5; clear Z5 o1 o2 o3 o4 hx ho hb hw))
      have hz6 := HZ5.out.boxed (u := .slice A2 n2 c2) (v := .slice none 0 0) (t := .int .i64 (l - 1))
      have r0 := hz6.c0
      have r1 := hz6.c1
      have r2 := hz6.c2
      rw [HS.out]
      refine bodyPost_ret (v := .tuple #[.agg #[.slice A2 n2 c2, .slice none 0 0, .int .i64 (l - 1)], .int .i64 0]) (by simp [results, Tryd.results39, go_sem, r0, r1, r2]) rfl ⟨A2, n2, c2, none, 0, 0, rfl, dry_do ?_, ?_⟩
      · exact (((HO6.out.set (by simp)).set (by simp)).set (by simp)).mono (by omega)
      · have := HW6.out
        subst this
        exact below_boxed ((HB3.out.trans (HB6.out.mono (by omega))).setCell (Nat.le_refl _) _) (by omega)
end Go.Proofs.YthhemdjggdgaaaaDoor
