/- Write. -/
import Derived.Test.YthhemdjggdgaaaaDoorDoW
namespace Go.Proofs.YthhemdjggdgaaaaDoor
open Go.RowKit
set_option linter.unusedVariables false

theorem is_is (w : World) (A : Option Addr) (n c : Nat) (B : Option Addr) (m e' : Nat) (d : Dk) (k l x : Int) (hl : d.left = l) (hx : isx d k = x) (hr : DR w A n B m d) (hn : n ≤ 300000) (hm : m ≤ 1000) :
    Calls Tryd.prog 37 #[.agg #[.slice A n c, .slice B m e', .int .i64 l], .int .i64 k] w fun e w' => e = .returned (.int .i64 x) ∧ Below w.heap.size w w' := by
  subst hl hx; exact is_any w A n c B m e' d k hr hn hm
open Classical in
noncomputable def writeS (d : Dk) (k : Int) (bs : Bs) : Dk × Int := if Is d k ∧ bs.length = 32 then write0 d k bs else (Dk.zero, 1)
theorem writeS_ok {d : Dk} {k : Int} {bs : Bs} (h : Is d k) (hb : bs.length = 32) : writeS d k bs = write0 d k bs := by unfold writeS; rw [if_pos ⟨h, hb⟩]
theorem writeS_bad {d : Dk} {k : Int} {bs : Bs} (h : ¬ (Is d k ∧ bs.length = 32)) : writeS d k bs = (Dk.zero, 1) := by unfold writeS; rw [if_neg h]

set_option maxRecDepth 100000 in
set_option maxHeartbeats 2000000 in
theorem write_any (w : World) (A : Option Addr) (n c : Nat) (B : Option Addr) (m e' : Nat) (d : Dk) (l k : Int) (C : Option Addr) (nb cb : Nat) (bs : Bs) (hl : d.left = l) (hr : DR w A n B m d) (hbs : BR w C nb bs) (hn : n ≤ 300000) (hm : m ≤ 1000) :
    Calls Tryd.prog 23 #[.agg #[.slice A n c, .slice B m e', .int .i64 l], .int .i64 k, .slice C nb cb] w (DPost w (writeS d k bs).1 (writeS d k bs).2) := by
  have hlen := hbs.len
  obtain ⟨W0, hW0⟩ : ∃ W0, W0 = (((w.alloc (.cells #[.slice A n c, .slice B m e', .int .i64 l] 31)).alloc (.cells #[.int .i64 k] 3)).alloc (.cells #[.slice none 0 0, .slice none 0 0, .int .i64 0] 31)) := ⟨_, rfl⟩
  have hb0 : Below w.heap.size w W0 := by rw [hW0]; exact (below_alloc2 w _ _).alloc (by simp; omega) _
  have HX0 : Hid (Bx W0 w.heap.size (.slice A n c) (.slice B m e') (.int .i64 l)) := by rw [hW0]; exact ((Bx.made w _ _ _).alloc _).alloc _
  have HZ0 : Hid (Bx W0 (w.heap.size + 1 + 1) (.slice none 0 0) (.slice none 0 0) (.int .i64 0)) := by
    rw [hW0]; exact Bx.made_ _ _ (by simp) _ _ _
  have HB0 : Hid (Below w.heap.size w W0) := hb0
  have HS0 : Hid (w.heap.size + 3 ≤ W0.heap.size) := by
    show _ ≤ _
    rw [hW0]; simp
  have HM0 : Hid (W0.cell? ⟨w.heap.size + 1, 0, none⟩ = some (.int .i64 k)) := by
    show _ = _
    rw [hW0]
    exact (World.cell?_alloc_lt _ _ _ (by simp)).trans (by simp)
  have HR0 : Hid (DR W0 A n B m d) := hr.below hb0
  have HC0 : Hid (BR W0 C nb bs) := hbs.below hb0
  rw [hW0] at HX0 HZ0 HB0 HS0 HR0 HM0 HC0
  have HL := hide hl
  clear hW0 hr hbs hl hb0
  by_cases hi : Is d k
  · have HI := hide (isx_zero hi)
    by_cases h32 : nb = 32
    · subst h32
      have HS := hide (writeS_ok hi hlen)
      have HG : Hid (Good d) := hi.1
      obtain ⟨s, hs⟩ : ∃ s, write0 d k bs = s := ⟨_, rfl⟩
      have HSS := hide hs
      clear hi hs hlen
      go_enter Tryd.func23, Tryd.ntmps23
      go_upto_region 4 with (first
        | (go_at_call 37; refine (is_is _ A n c B m e' d k l 0 HL.out HI.out HR0.out hn hm).mono ?_; rintro e w1 ⟨rfl, hb⟩; have HX1 := hide (HX0.out.below hb); have HZ1 := hide (HZ0.out.below hb); have HR1 := hide (HR0.out.below hb); have HC1 := hide (HC0.out.below hb); have HS1 := hide (Nat.le_trans HS0.out hb.size); have HB1 := hide (Below.then_ HB0.out hb HB0.out.size); have m0 := (hb.cell (p := ⟨w.heap.size + 1, 0, none⟩) (Nat.lt_of_lt_of_le (show w.heap.size + 1 < w.heap.size + 3 by omega) HS0.out)).trans HM0.out; have HM1 := hide m0; clear hb))
      go_cut [9] (fun v wx => ∃ (bp : Nat) (AB : Option Addr) (cB : Nat), v = .pointer (some ⟨bp, 0, none⟩) ∧ Hid (Bx wx w.heap.size (.slice A n c) (.slice B m e') (.int .i64 l)) ∧ Hid (Bx wx (w.heap.size + 1 + 1) (.slice none 0 0) (.slice none 0 0) (.int .i64 0)) ∧ Hid (wx.cell? ⟨w.heap.size + 1, 0, none⟩ = some (.int .i64 k)) ∧ Hid (wx.cell? ⟨bp, 0, none⟩ = some (.int .i64 k)) ∧ Hid (wx.cell? ⟨bp, 1, none⟩ = some (.slice AB 32 cB)) ∧ Hid (DR wx A n B m d) ∧ Hid (OB (w.heap.size + 3) wx AB 32 cB bs) ∧ Hid (Below w.heap.size w wx) ∧ Hid (w.heap.size + 3 ≤ wx.heap.size) ∧ Hid (bp < wx.heap.size))
      case first =>
        have HCd : Hid (BR w1.drew C 32 bs) := HC1.out.below (Below.refl _ _).drew
        obtain ⟨WA, hWA⟩ : ∃ WA, WA = (w1.alloc (.cells #[.int .i64 0, .slice none 0 0] 56)).drew := ⟨_, rfl⟩
        have hba : Below w1.heap.size w1 WA := by rw [hWA]; exact (below_alloc _ _).drew
        have HCa : Hid (BR WA C 32 bs) := HC1.out.below hba
        have HPa : Hid (Own w1.heap.size WA (some ⟨w1.heap.size, 0, none⟩) 1 1 [(0, none, 0, 0)]) := by rw [hWA]; exact (Own.made w1 (0, none, 0, 0)).below (Below.refl _ _).drew
        have HBa := hide hba
        have ma : ∀ o, (w1.alloc o).cell? ⟨w.heap.size + 1, 0, none⟩ = some (.int .i64 k) := fun o => (World.cell?_alloc_lt _ _ _ (Nat.lt_of_lt_of_le (show w.heap.size + 1 < w.heap.size + 3 by omega) HS1.out)).trans HM1.out
        rw [hWA] at HCa HPa HBa
        clear hWA hba
        go_region_with (first
          | (go_at_call 38; (with_reducible refine (cloneB_any _ C 32 cb bs HCd.out (by omega)).mono ?_); rintro e wB ⟨AB, cB, rfl, hb, ho⟩; replace hb := Below.undrew hb; have m1 := (hb.cell (p := ⟨w.heap.size + 1, 0, none⟩) (Nat.lt_of_lt_of_le (show w.heap.size + 1 < w.heap.size + 3 by omega) HS1.out)).trans HM1.out; have HBB := hide hb; have mb : ∀ o, (wB.alloc o).cell? ⟨w.heap.size + 1, 0, none⟩ = some (.int .i64 k) := fun o => (World.cell?_alloc_lt _ o _ (Nat.lt_of_lt_of_le (show w.heap.size + 1 < w.heap.size + 3 by omega) (Nat.le_trans HS1.out HBB.out.size))).trans m1; have HOB := hide ho; clear hb ho)
          | (go_at_call 38; (with_reducible refine (cloneB_any _ C 32 cb bs HCa.out (by omega)).mono ?_); rintro e wB ⟨AB, cB, rfl, hb, ho⟩; have HPb := hide (HPa.out.below hb); have HBB := hide (Below.then_ HBa.out hb HBa.out.size); have m1 := (HBB.out.cell (p := ⟨w.heap.size + 1, 0, none⟩) (Nat.lt_of_lt_of_le (show w.heap.size + 1 < w.heap.size + 3 by omega) HS1.out)).trans HM1.out; have p0 := (HPb.out.at 0 (by omega)).1; have p1 := (HPb.out.at 0 (by omega)).2; have y0 := HPb.out.froz 0; have y1 := HPb.out.froz 1; simp only [Nat.zero_mul, Nat.zero_add] at p0 p1; have HOB := hide ho; clear hb ho))
        all_goals
          go_wp2_with fail
          go_meet
          first
            | (have hW : Below w1.heap.size w1 (wB.alloc (.cells #[.int .i64 k, .slice AB 32 cB] 56)) := HBB.out.alloc HBB.out.size _
               exact ⟨wB.heap.size, AB, cB, rfl, hide (HX1.out.below hW), hide (HZ1.out.below hW), hide ((hW.cell (p := ⟨w.heap.size + 1, 0, none⟩) (Nat.lt_of_lt_of_le (show w.heap.size + 1 < w.heap.size + 3 by omega) HS1.out)).trans HM1.out), hide (box_cell _ _ _ _ _ rfl), hide (box_cell _ _ _ _ _ rfl), hide (HR1.out.below hW), hide ((HOB.out.mono HS1.out).alloc _), hide (Below.then_ HB1.out hW HB1.out.size), hide (Nat.le_trans HS1.out hW.size), hide (by simp)⟩)
            | (obtain ⟨q1, q2⟩ := HPb.out.put 0 (k, AB, 32, cB)
               have hW : Below w1.heap.size w1 ((wB.setCell ⟨w1.heap.size, 0, none⟩ (.int .i64 k)).setCell ⟨w1.heap.size, 1, none⟩ (.slice AB 32 cB)) := (HBB.out.setCell (p := ⟨w1.heap.size, 0, none⟩) (Nat.le_refl _) _).setCell (p := ⟨w1.heap.size, 1, none⟩) (Nat.le_refl _) _
               exact ⟨w1.heap.size, AB, cB, rfl, hide (HX1.out.below hW), hide (HZ1.out.below hW), hide ((hW.cell (p := ⟨w.heap.size + 1, 0, none⟩) (Nat.lt_of_lt_of_le (show w.heap.size + 1 < w.heap.size + 3 by omega) HS1.out)).trans HM1.out), hide (q1.at 0 (by omega)).1, hide (q1.at 0 (by omega)).2, hide (HR1.out.below hW), hide ((HOB.out.page HPb.out q2).mono (Nat.le_trans HS1.out HBa.out.size)), hide (Below.then_ HB1.out hW HB1.out.size), hide (Nat.le_trans HS1.out hW.size), hide (Own.lt q1).2⟩)
      case rest =>
        obtain ⟨bp, AB, cB, rfl, HXc, HZc, HMc, HPc0, HPc1, HRc, HOc, HBc, HSc, HBp⟩ := hcut
        have k0 := HXc.out.c0
        have k1 := HXc.out.c1
        have k2 := HXc.out.c2
        go_wp2_with (first
          | (go_at_call 39; refine (doW_any _ A n c B m e' d l HL.out HRc.out HG.out hn hm (w.heap.size + 3) (w.heap.size + 1) bp k AB cB bs HMc.out HPc0.out HPc1.out HOc.out (Nat.lt_of_lt_of_le (by omega) HSc.out) HBp.out).mono ?_; rw [HSS.out]; rintro e w2 ⟨A2, n2, c2, B2, m2, e2, rfl, ho, hb⟩; have Z2 := HZc.out.below hb; have z0 := Z2.c0; have z1 := Z2.c1; have z2 := Z2.c2; have y0 := Z2.f 0; have y1 := Z2.f 1; have y2 := Z2.f 2; have HZ2 := hide Z2; have HO2 := hide (ho.mono HSc.out); have HB2 := hide (Below.then_ HBc.out hb HBc.out.size); clear Z2 ho hb))
        have hz6 := (HZ2.out.boxed (u := .slice A2 n2 c2) (v := .slice B2 m2 e2) (t := .int .i64 s.1.left))
        have r0 := hz6.c0
        have r1 := hz6.c1
        have r2 := hz6.c2
        rw [HS.out, HSS.out]
        refine bodyPost_ret (v := .tuple #[.agg #[.slice A2 n2 c2, .slice B2 m2 e2, .int .i64 s.1.left], .int .i64 s.2]) (by simp [results, Tryd.results23, go_sem, r0, r1, r2]) rfl ⟨A2, n2, c2, B2, m2, e2, rfl, ?_, ?_⟩
        · exact (HO2.out.boxed (b := w.heap.size + 1 + 1) (by omega) (fun h => by have := (World.ownsRow.lt HOc.out _ h).1; omega)).do (fun q hq => by have := (World.ownsRow.lt HOc.out _ hq).1; omega) (by omega)
        · exact below_boxed HB2.out (by omega)
    · have h33 : ¬ ((nb : Int) = 32) := by omega
      have HS := hide (writeS_bad (d := d) (k := k) (bs := bs) (fun h => h32 (by rw [← hlen]; exact h.2)))
      clear hi h32 hlen
      go_enter Tryd.func23, Tryd.ntmps23
      go_wp2_with (first
        | (go_at_call 37; refine (is_is _ A n c B m e' d k l 0 HL.out HI.out HR0.out hn hm).mono ?_; rintro e w1 ⟨rfl, hb⟩; have Z1 := HZ0.out.below hb; have z0 := Z1.c0; have z1 := Z1.c1; have z2 := Z1.c2; have y0 := Z1.f 0; have y1 := Z1.f 1; have y2 := Z1.f 2; have HZ1 := hide Z1; have HB1 := hide (Below.then_ HB0.out hb HB0.out.size); clear Z1 hb))
      have hz6 := (HZ1.out.boxed (u := .slice none 0 0) (v := .slice none 0 0) (t := .int .i64 0))
      have r0 := hz6.c0
      have r1 := hz6.c1
      have r2 := hz6.c2
      rw [HS.out]
      refine bodyPost_ret (v := .tuple #[.agg #[.slice none 0 0, .slice none 0 0, .int .i64 0], .int .i64 1]) (by simp [results, Tryd.results23, go_sem, r0, r1, r2]) rfl ⟨_, _, _, _, _, _, rfl, DO.zero _ _, ?_⟩
      exact below_boxed HB1.out (by omega)
  · have HI := hide (isx_one hi)
    have HS := hide (writeS_bad (d := d) (k := k) (bs := bs) (fun h => hi h.1))
    clear hi hlen
    go_enter Tryd.func23, Tryd.ntmps23
    go_wp2_with (first
      | (go_at_call 37; refine (is_is _ A n c B m e' d k l 1 HL.out HI.out HR0.out hn hm).mono ?_; rintro e w1 ⟨rfl, hb⟩; have Z1 := HZ0.out.below hb; have z0 := Z1.c0; have z1 := Z1.c1; have z2 := Z1.c2; have y0 := Z1.f 0; have y1 := Z1.f 1; have y2 := Z1.f 2; have HZ1 := hide Z1; have HB1 := hide (Below.then_ HB0.out hb HB0.out.size); clear Z1 hb))
    have hz6 := (HZ1.out.boxed (u := .slice none 0 0) (v := .slice none 0 0) (t := .int .i64 0))
    have r0 := hz6.c0
    have r1 := hz6.c1
    have r2 := hz6.c2
    rw [HS.out]
    refine bodyPost_ret (v := .tuple #[.agg #[.slice none 0 0, .slice none 0 0, .int .i64 0], .int .i64 1]) (by simp [results, Tryd.results23, go_sem, r0, r1, r2]) rfl ⟨_, _, _, _, _, _, rfl, DO.zero _ _, ?_⟩
    exact below_boxed HB1.out (by omega)
end Go.Proofs.YthhemdjggdgaaaaDoor
