/- do, under Write's closure. -/
import Derived.Test.YthhemdjggdgaaaaDoorWrite1
namespace Go.Proofs.YthhemdjggdgaaaaDoor
open Go.RowKit
set_option linter.unusedVariables false

theorem DXA.mono {base b' n c m e : Nat} {X : Nat → Prop} {w : World} {A B : Option Addr} {d : Dk} (h : DXA base X w A n c B m e d) (hb : b' ≤ base) : DXA b' X w A n c B m e d := by
  obtain ⟨h1, ps, h2, h3⟩ := h
  exact ⟨h1.mono hb, ps, h2.mono hb, h3.1, fun i hi => ⟨(h3.2 i hi).1, (h3.2 i hi).2.1, fun q hq => ((h3.2 i hi).2.2 q hq).elim (fun h => .inl (by omega)) .inr⟩⟩
theorem DXA.zero (base : Nat) (X : Nat → Prop) (w : World) : DXA base X w none 0 0 none 0 0 Dk.zero := ⟨OB.nil _ _, [], Own.nil _ _, rfl, fun i hi => by simp at hi⟩
theorem below_w1 {s base bd : Nat} {w0 w3 w4 w5 : World} {v : Value} (h : Below s w0 w3) (hb : Below base w3 w4) (hs : s ≤ base) (hbd : s ≤ bd) (hw : w5 = w4 ∨ w5 = w4.setCell ⟨bd, 1, none⟩ v) : Below s w0 w5 := by
  rcases hw with hw | hw <;> subst hw
  · exact h.trans (hb.mono hs)
  · exact (h.trans (hb.mono hs)).setCell hbd _
theorem Bx.settled2 {base k b : Nat} {w w4 w5 : World} {x0 x1 x2 u : Value} (h : Bx w k x0 x1 x2) (hb : Below base w w4) (hk : k < base) (hne : k ≠ b) (hw : w5 = w4 ∨ w5 = w4.setCell ⟨b, 1, none⟩ u) : Bx w5 k x0 x1 x2 := by
  rcases hw with hw | hw
  · subst hw; exact (hb.block k hk).trans h
  · exact h.settled hb hk hne hw
/-- A deed that writes. -/
def write0 (d : Dk) (k : Int) (bs : Bs) : Dk × Int := if d.left = 0 then (Dk.zero, 11) else (d.put k bs (dec d.left), 0)
theorem write0_dead {d : Dk} (k : Int) (bs : Bs) (h : d.left = 0) : write0 d k bs = (Dk.zero, 11) := by unfold write0; rw [if_pos h]
theorem write0_ok {d : Dk} {l r : Int} (k : Int) (bs : Bs) (hl : d.left = l) (h : ¬ l = 0) (hr : dec l = r) : write0 d k bs = (d.put k bs r, 0) := by subst hl hr; unfold write0; rw [if_neg h]
def WPost (w : World) (X : Nat → Prop) (d : Dk) (x : Int) (e : Ending) (w' : World) : Prop :=
  ∃ (A : Option Addr) (n c : Nat) (B : Option Addr) (m e' : Nat), e = .returned (.tuple #[.agg #[.slice A n c, .slice B m e', .int .i64 d.left], .int .i64 x]) ∧ DXA w.heap.size X w' A n c B m e' d ∧ Below w.heap.size w w'

set_option maxRecDepth 100000 in
set_option maxHeartbeats 2000000 in
theorem doW_any (w : World) (A : Option Addr) (n c : Nat) (B : Option Addr) (m e' : Nat) (d : Dk) (l : Int) (hl : d.left = l) (hr : DR w A n B m d) (hg : Good d) (hn : n ≤ 300000) (hm : m ≤ 1000)
    (b0 ba bp : Nat) (k : Int) (pA : Option Addr) (pc : Nat) (bs : Bs) (hk : w.cell? ⟨ba, 0, none⟩ = some (.int .i64 k)) (hp0 : w.cell? ⟨bp, 0, none⟩ = some (.int .i64 k)) (hp1 : w.cell? ⟨bp, 1, none⟩ = some (.slice pA 32 pc)) (ho : OB b0 w pA 32 pc bs) (hba : ba < w.heap.size) (hbp : bp < w.heap.size) :
    Calls Tryd.prog 39 #[.agg #[.slice A n c, .slice B m e', .int .i64 l], .func (.func 40) #[] #[.pointer (some ⟨ba, 0, none⟩), .pointer (some ⟨bp, 0, none⟩)]] w (WPost w (fun q => (Value.slice pA 32 pc).ownBlock = some q) (write0 d k bs).1 (write0 d k bs).2) := by
  have HK := hide hk
  have HP0 := hide hp0
  have HP1 := hide hp1
  have HOO := hide ho
  have HXX : Hid (∀ q, (Value.slice pA 32 pc).ownBlock = some q → q < w.heap.size + 2 ∧ q ≠ w.heap.size) := fun q hq => by have := (World.ownsRow.lt ho q hq).2; omega
  have HXY : Hid (¬ (Value.slice pA 32 pc).ownBlock = some (w.heap.size + 1)) := fun hq => by have := (World.ownsRow.lt ho _ hq).2; omega
  clear hk hp0 hp1 ho
  obtain ⟨W0, hW0⟩ : ∃ W0, W0 = ((w.alloc (.cells #[.slice A n c, .slice B m e', .int .i64 l] 31)).alloc (.cells #[.slice none 0 0, .slice none 0 0, .int .i64 0] 31)) := ⟨_, rfl⟩
  have HX0 : Hid (Bx W0 w.heap.size (.slice A n c) (.slice B m e') (.int .i64 l)) := by rw [hW0]; exact (Bx.made w _ _ _).alloc _
  have HZ0 : Hid (Bx W0 (w.heap.size + 1) (.slice none 0 0) (.slice none 0 0) (.int .i64 0)) := by
    rw [hW0]; exact Bx.made_ _ _ (by simp) _ _ _
  have HB0 : Hid (Below w.heap.size w W0) := by rw [hW0]; exact below_alloc2 w _ _
  have HS0 : Hid (w.heap.size + 2 ≤ W0.heap.size) := by
    show _ ≤ _
    rw [hW0]; simp
  have HR0 : Hid (DR W0 A n B m d) := hr.below (by rw [hW0]; exact below_alloc2 w _ _)
  have HL32 := hide hg.len32
  have hl0 := hg.left0
  have hl1 := hg.left1
  have hD : d.dry.length ≤ 300000 := by have := hg.whole; have := hg.max; omega
  have hW : d.wet.length ≤ 1000 := by rw [hr.wlen]; exact hm
  rw [hl] at hl0 hl1
  by_cases h0 : l = 0
  · subst h0
    have HS := hide (write0_dead k bs hl)
    rw [hW0] at HX0 HZ0 HB0 HS0 HR0
    clear hW0 hr hg
    have z0 := HZ0.out.c0
    have z1 := HZ0.out.c1
    have z2 := HZ0.out.c2
    go_enter Tryd.func39, Tryd.ntmps39
    go_wp2_with fail
    have r0 := HZ0.out.c0
    have r1 := HZ0.out.c1
    have r2 := HZ0.out.c2
    rw [HS.out]
    refine bodyPost_ret (v := .tuple #[.agg #[.slice none 0 0, .slice none 0 0, .int .i64 0], .int .i64 11]) (by simp [results, Tryd.results39, go_sem, r0, r1, r2]) rfl ⟨_, _, _, _, _, _, rfl, DXA.zero _ _ _, ?_⟩
    exact HB0.out
  · have t0 : (l == 0) = false := beq_eq_false_iff_ne.2 h0
    by_cases h1 : l = -1
    · subst h1
      have HS := hide (write0_ok k bs hl h0 (show dec (-1) = -1 by decide))
      have HG := hide (hg.leave (k := -1) (by omega) (by omega))
      have HLL : Hid ((d.leave (-1)).left = -1) := rfl
      have HL1 : Hid (∀ i, i < (d.leave (-1)).wet.length → (qn (d.leave (-1)).wet i).2.length ≤ 300000) := HL32
      have HX1 := HX0
      have HZ1 := HZ0
      have HB1 := HB0
      have HS1 := HS0
      have HR1 : Hid (DR W0 A n B m (d.leave (-1))) := HR0
      rw [hW0] at HX1 HZ1 HB1 HS1 HR1
      clear hW0 hr hg h0 HX0 HZ0 HB0 HS0 HR0
      go_enter Tryd.func39, Tryd.ntmps39
      go_wp2_with (first | (go_at_call 44; (with_reducible refine (own_is _ A n c B m e' (d.leave (-1)) (-1) HLL.out HR1.out hn hm HL1.out).mono ?_); rintro e w2 ⟨A2, n2, c2, B2, m2, e2, rfl, ho, hb⟩; have X2 := HX1.out.below hb; have k0 := X2.c0; have k1 := X2.c1; have k2 := X2.c2; have f0 := X2.f 0; have f1 := X2.f 1; have f2 := X2.f 2; have HX3 := hide (X2.boxed (u := .slice A2 n2 c2) (v := .slice B2 m2 e2) (t := .int .i64 (-1))); have HZ3 := hide ((HZ1.out.below hb).beside (k := w.heap.size) (u := .slice A2 n2 c2) (v := .slice B2 m2 e2) (t := .int .i64 (-1)) (by omega)); have HD3 := hide ((ho.mono HS1.out).boxed (b := w.heap.size) (u := .slice A2 n2 c2) (v := .slice B2 m2 e2) (t := .int .i64 (-1)) (by omega)); have HB3 := hide (below_boxed (Below.then_ HB1.out hb HB1.out.size) (b := w.heap.size) (u := .slice A2 n2 c2) (v := .slice B2 m2 e2) (t := .int .i64 (-1)) (Nat.le_refl _)); have HS3 := hide (Nat.le_trans HS1.out hb.size); have hN2 := ho.nlen; have hM2 := ho.wlen; have hn4 : n2 ≤ 300000 := Nat.le_trans (Nat.le_of_eq hN2.symm) hD; have hm4 : m2 ≤ 1000 := Nat.le_trans (Nat.le_of_eq hM2.symm) hW; clear X2 ho hb) | (go_at_call 40; refine (write1_any _ b0 (w.heap.size + 2) w.heap.size ba bp A2 n2 c2 B2 m2 e2 (d.leave (-1)) (-1) k pA pc bs HG.out HX3.out HD3.out ((HB3.out.cell (p := ⟨ba, 0, none⟩) hba).trans HK.out) ((HB3.out.cell (p := ⟨bp, 0, none⟩) hbp).trans HP0.out) ((HB3.out.cell (p := ⟨bp, 1, none⟩) hbp).trans HP1.out) (HOO.out.below HB3.out) HXX.out (by omega) (by omega) (by omega) (by rw [heap_boxed]; exact HS3.out) hm4).mono ?_; rintro e w5 ⟨rfl, B3, m3, e3, hx, hd5, w4, hb, hw⟩; have k0 := hx.c0; have k1 := hx.c1; have k2 := hx.c2; have HD5 := hide hd5; have HX5 := hide hx; have HB5 := hide (below_w1 HB3.out hb (by omega) (Nat.le_refl _) hw); have Z5 := HZ3.out.settled2 hb (by omega) (by omega) hw; have z0 := Z5.c0; have z1 := Z5.c1; have z2 := Z5.c2; have y0 := Z5.f 0; have y1 := Z5.f 1; have y2 := Z5.f 2; have HZ5 := hide Z5; clear Z5 hx hd5 hb hw))
      have hz6 := HZ5.out.boxed (u := .slice A2 n2 c2) (v := .slice B3 m3 e3) (t := .int .i64 (-1))
      have r0 := hz6.c0
      have r1 := hz6.c1
      have r2 := hz6.c2
      rw [HS.out]
      refine bodyPost_ret (v := .tuple #[.agg #[.slice A2 n2 c2, .slice B3 m3 e3, .int .i64 (-1)], .int .i64 0]) (by simp [results, Tryd.results39, go_sem, r0, r1, r2]) rfl ⟨A2, n2, c2, B3, m3, e3, rfl, ?_, ?_⟩
      · exact (HD5.out.boxed (b := w.heap.size + 1) (by omega) HXY.out).mono (by omega)
      · exact below_boxed HB5.out (by omega)
    · have t1 : (l == -1) = false := beq_eq_false_iff_ne.2 h1
      have hw1 : IntKind.i64.wrap (l - 1) = l - 1 := by rw [IntKind.wrap_i64]; omega
      have HS := hide (write0_ok k bs hl h0 (show dec l = l - 1 by unfold dec; rw [if_pos (by omega)]))
      have HG := hide (hg.leave (k := l - 1) (by omega) (by omega))
      have HLL : Hid ((d.leave (l - 1)).left = l - 1) := rfl
      have HL1 : Hid (∀ i, i < (d.leave (l - 1)).wet.length → (qn (d.leave (l - 1)).wet i).2.length ≤ 300000) := HL32
      clear HX0 HZ0 HB0 HS0 HR0 hW0 W0
      obtain ⟨W0, hW0⟩ : ∃ W0, W0 = ((w.alloc (.cells #[.slice A n c, .slice B m e', .int .i64 (l - 1)] 31)).alloc (.cells #[.slice none 0 0, .slice none 0 0, .int .i64 0] 31)) := ⟨_, rfl⟩
      have HX1 : Hid (Bx W0 w.heap.size (.slice A n c) (.slice B m e') (.int .i64 (l - 1))) := by rw [hW0]; exact (Bx.made w _ _ _).alloc _
      have HZ1 : Hid (Bx W0 (w.heap.size + 1) (.slice none 0 0) (.slice none 0 0) (.int .i64 0)) := by
        rw [hW0]; exact Bx.made_ _ _ (by simp) _ _ _
      have HB1 : Hid (Below w.heap.size w W0) := by rw [hW0]; exact below_alloc2 w _ _
      have HS1 : Hid (w.heap.size + 2 ≤ W0.heap.size) := by
        show _ ≤ _
        rw [hW0]; simp
      have HR1 : Hid (DR W0 A n B m (d.leave (l - 1))) := hr.below (by rw [hW0]; exact below_alloc2 w _ _)
      rw [hW0] at HX1 HZ1 HB1 HS1 HR1
      clear hW0 hr hg h0 h1
      go_enter Tryd.func39, Tryd.ntmps39
      go_wp2_with (first | (go_at_call 44; (with_reducible refine (own_is _ A n c B m e' (d.leave (l - 1)) (l - 1) HLL.out HR1.out hn hm HL1.out).mono ?_); rintro e w2 ⟨A2, n2, c2, B2, m2, e2, rfl, ho, hb⟩; have X2 := HX1.out.below hb; have k0 := X2.c0; have k1 := X2.c1; have k2 := X2.c2; have f0 := X2.f 0; have f1 := X2.f 1; have f2 := X2.f 2; have HX3 := hide (X2.boxed (u := .slice A2 n2 c2) (v := .slice B2 m2 e2) (t := .int .i64 (l - 1))); have HZ3 := hide ((HZ1.out.below hb).beside (k := w.heap.size) (u := .slice A2 n2 c2) (v := .slice B2 m2 e2) (t := .int .i64 (l - 1)) (by omega)); have HD3 := hide ((ho.mono HS1.out).boxed (b := w.heap.size) (u := .slice A2 n2 c2) (v := .slice B2 m2 e2) (t := .int .i64 (l - 1)) (by omega)); have HB3 := hide (below_boxed (Below.then_ HB1.out hb HB1.out.size) (b := w.heap.size) (u := .slice A2 n2 c2) (v := .slice B2 m2 e2) (t := .int .i64 (l - 1)) (Nat.le_refl _)); have HS3 := hide (Nat.le_trans HS1.out hb.size); have hN2 := ho.nlen; have hM2 := ho.wlen; have hn4 : n2 ≤ 300000 := Nat.le_trans (Nat.le_of_eq hN2.symm) hD; have hm4 : m2 ≤ 1000 := Nat.le_trans (Nat.le_of_eq hM2.symm) hW; clear X2 ho hb) | (go_at_call 40; refine (write1_any _ b0 (w.heap.size + 2) w.heap.size ba bp A2 n2 c2 B2 m2 e2 (d.leave (l - 1)) (l - 1) k pA pc bs HG.out HX3.out HD3.out ((HB3.out.cell (p := ⟨ba, 0, none⟩) hba).trans HK.out) ((HB3.out.cell (p := ⟨bp, 0, none⟩) hbp).trans HP0.out) ((HB3.out.cell (p := ⟨bp, 1, none⟩) hbp).trans HP1.out) (HOO.out.below HB3.out) HXX.out (by omega) (by omega) (by omega) (by rw [heap_boxed]; exact HS3.out) hm4).mono ?_; rintro e w5 ⟨rfl, B3, m3, e3, hx, hd5, w4, hb, hw⟩; have k0 := hx.c0; have k1 := hx.c1; have k2 := hx.c2; have HD5 := hide hd5; have HX5 := hide hx; have HB5 := hide (below_w1 HB3.out hb (by omega) (Nat.le_refl _) hw); have Z5 := HZ3.out.settled2 hb (by omega) (by omega) hw; have z0 := Z5.c0; have z1 := Z5.c1; have z2 := Z5.c2; have y0 := Z5.f 0; have y1 := Z5.f 1; have y2 := Z5.f 2; have HZ5 := hide Z5; clear Z5 hx hd5 hb hw))
      have hz6 := HZ5.out.boxed (u := .slice A2 n2 c2) (v := .slice B3 m3 e3) (t := .int .i64 (l - 1))
      have r0 := hz6.c0
      have r1 := hz6.c1
      have r2 := hz6.c2
      rw [HS.out]
      refine bodyPost_ret (v := .tuple #[.agg #[.slice A2 n2 c2, .slice B3 m3 e3, .int .i64 (l - 1)], .int .i64 0]) (by simp [results, Tryd.results39, go_sem, r0, r1, r2]) rfl ⟨A2, n2, c2, B3, m3, e3, rfl, ?_, ?_⟩
      · exact (HD5.out.boxed (b := w.heap.size + 1) (by omega) HXY.out).mono (by omega)
      · exact below_boxed HB5.out (by omega)
end Go.Proofs.YthhemdjggdgaaaaDoor
