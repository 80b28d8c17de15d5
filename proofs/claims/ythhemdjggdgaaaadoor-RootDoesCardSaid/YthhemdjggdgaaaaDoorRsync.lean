/- All synced, by the reference. -/
import Derived.Test.YthhemdjggdgaaaaDoorLaws
import Derived.Test.YthhemdjggdgaaaaDoorRwrite
namespace Go.Proofs.YthhemdjggdgaaaaDoor
open Go.RowKit
set_option linter.unusedVariables false

theorem page_all (dry : Bs) (a : Nat) (p : Bs) (hp : p.length = 32) (ha : a * 32 + 32 ≤ dry.length) : pageUpto dry a p 255 8 = layB dry (a * 32) p := by
  have hl : (pageUpto dry a p 255 8).length = dry.length := pageUpto_len dry a p 255 hp ha 8 (Nat.le_refl _)
  apply at0_ext (by rw [hl, layB_len _ _ _ (by omega)])
  rw [hl]
  intro i hi
  have h1 := at0_page dry a p 255 hp ha (i / 32) (i % 32) (Nat.mod_lt _ (by omega)) 8 (Nat.le_refl _)
  rw [show i / 32 * 32 + i % 32 = i by omega] at h1
  rw [h1, at0_layB _ _ _ _ (by omega), hp]
  by_cases h : i / 32 = a
  · rw [if_pos ⟨h, by omega, bit_255 _ (by omega)⟩, if_pos (by omega), show i - a * 32 = i % 32 by omega]
  · rw [if_neg (fun k => h k.1), if_neg (by omega)]

theorem sync_dead0 {d : Dk} (h : Good d) (h0 : d.left = 0) : syncS d = (Dk.zero, 11) := by rw [syncS_ok h, sync0_dead h0]
theorem sync_lives0 {d : Dk} (h : Good d) (h0 : d.left ≠ 0) : syncS d = (d.settled allMask (dec d.left), 0) := by rw [syncS_ok h, sync0_ok rfl h0 rfl]

set_option maxRecDepth 100000 in
set_option maxHeartbeats 4000000 in
theorem rsync_any (w : World) (A : Option Addr) (n c : Nat) (B : Option Addr) (m e' : Nat) (d : Dk) (hr : DR w A n B m d) (hn : n ≤ 300000) (hm : m ≤ 1000) :
    Calls Tryd.prog 34 #[.agg #[.slice A n c, .slice B m e', .int .i64 d.left]] w (DPost w (syncS d).1 (syncS d).2) := by
  obtain ⟨W0, hW0⟩ : ∃ W0, W0 = ((w.alloc (.cells #[.slice A n c, .slice B m e', .int .i64 d.left] 31)).alloc (.cells #[.slice none 0 0, .slice none 0 0, .int .i64 0] 31)) := ⟨_, rfl⟩
  have hb0 : Below w.heap.size w W0 := by rw [hW0]; exact below_alloc2 w _ _
  have HX0 : Hid (Bx W0 w.heap.size (.slice A n c) (.slice B m e') (.int .i64 d.left)) := by rw [hW0]; exact (Bx.made w _ _ _).alloc _
  have HZ0 : Hid (Bx W0 (w.heap.size + 1) (.slice none 0 0) (.slice none 0 0) (.int .i64 0)) := by
    rw [hW0]; exact Bx.made_ _ _ (by simp) _ _ _
  have HB0 : Hid (Below w.heap.size w W0) := hb0
  have HS0 : Hid (w.heap.size + 2 ≤ W0.heap.size) := by
    show _ ≤ _
    rw [hW0]; simp
  have HR0 : Hid (DR W0 A n B m d) := hr.below hb0
  rw [hW0] at HX0 HZ0 HB0 HS0 HR0
  clear hW0 hb0
  by_cases hg : Good d
  · have HC := hide (chk_zero hg)
    by_cases h0 : d.left = 0
    · have HS := hide (sync_dead0 hg h0)
      have HDS := hide (deedS_dead h0)
      have HG := hide hg
      clear hg hr h0
      go_enter Tryd.func34, Tryd.ntmps34
      go_wp2_with (first
        | (go_at_call 32; refine (rcheck_is _ A n c B m e' d d.left 0 rfl HC.out HR0.out hn hm).mono ?_; rintro e w1 ⟨rfl, hb⟩; have X1 := HX0.out.below hb; have k0 := X1.c0; have k1 := X1.c1; have k2 := X1.c2; have HX1 := hide X1; have HZ1 := hide (HZ0.out.below hb); have HR1 := hide (HR0.out.below hb); have HS1 := hide (Nat.le_trans HS0.out hb.size); have HB1 := hide (Below.then_ HB0.out hb HB0.out.size); clear X1 hb)
        | (go_at_call 51; refine (rdeed_any _ A n c B m e' d HR1.out HG.out hn hm).mono ?_; rw [HDS.out]; rintro e w2 ⟨A2, n2, c2, B2, m2, e2, rfl, ho, hb⟩; have X2 := HX1.out.below hb; have k0 := X2.c0; have k1 := X2.c1; have k2 := X2.c2; have f0 := X2.f 0; have f1 := X2.f 1; have f2 := X2.f 2; have Z3 := (HZ1.out.below hb).beside (k := w.heap.size) (u := .slice A2 n2 c2) (v := .slice B2 m2 e2) (t := .int .i64 Dk.zero.left) (by omega); have z0 := Z3.c0; have z1 := Z3.c1; have z2 := Z3.c2; have y0 := Z3.f 0; have y1 := Z3.f 1; have y2 := Z3.f 2; have HZ3 := hide Z3; have HB3 := hide (below_boxed (Below.then_ HB1.out hb HB1.out.size) (b := w.heap.size) (u := .slice A2 n2 c2) (v := .slice B2 m2 e2) (t := .int .i64 Dk.zero.left) (Nat.le_refl _)); clear X2 Z3 ho hb))
      have hz6 := HZ3.out.boxed (u := .slice none 0 0) (v := .slice none 0 0) (t := .int .i64 0)
      have r0 := hz6.c0
      have r1 := hz6.c1
      have r2 := hz6.c2
      rw [HS.out]
      refine bodyPost_ret (v := .tuple #[.agg #[.slice none 0 0, .slice none 0 0, .int .i64 0], .int .i64 11]) (by simp [results, Tryd.results34, go_sem, r0, r1, r2]) rfl ⟨_, _, _, _, _, _, rfl, DO.zero _ _, ?_⟩
      exact below_boxed HB3.out (by omega)
    · obtain ⟨l, hl⟩ : ∃ l, dec d.left = l := ⟨_, rfl⟩
      have HS : Hid (syncS d = (d.settled allMask l, 0)) := by rw [← hl]; exact sync_lives0 hg h0
      have HDS : Hid (deedS d = (d.leave l, 0)) := by rw [← hl]; exact deedS_ok h0
      have HG := hide hg
      have hD : d.dry.length ≤ 300000 := by have := hg.whole; have := hg.max; omega
      have hW : d.wet.length ≤ 1000 := by have := hr.wlen; omega
      clear hg hr h0 hl
      go_enter Tryd.func34, Tryd.ntmps34
      go_wp2_with (first
        | (go_at_call 32; refine (rcheck_is _ A n c B m e' d d.left 0 rfl HC.out HR0.out hn hm).mono ?_; rintro e w1 ⟨rfl, hb⟩; have X1 := HX0.out.below hb; have k0 := X1.c0; have k1 := X1.c1; have k2 := X1.c2; have HX1 := hide X1; have HZ1 := hide (HZ0.out.below hb); have HR1 := hide (HR0.out.below hb); have HS1 := hide (Nat.le_trans HS0.out hb.size); have HB1 := hide (Below.then_ HB0.out hb HB0.out.size); clear X1 hb)
        | (go_at_call 51; refine (rdeed_any _ A n c B m e' d HR1.out HG.out hn hm).mono ?_; rw [HDS.out]; rintro e w2 ⟨A2, n2, c2, B2, m2, e2, rfl, ho, hb⟩; have X2 := HX1.out.below hb; have k0 := X2.c0; have k1 := X2.c1; have k2 := X2.c2; have f0 := X2.f 0; have f1 := X2.f 1; have f2 := X2.f 2; have X3 := X2.boxed (u := .slice A2 n2 c2) (v := .slice B2 m2 e2) (t := .int .i64 (d.leave l).left); have q1 := X3.c1; have HX3 := hide X3; have HZ3 := hide ((HZ1.out.below hb).beside (k := w.heap.size) (u := .slice A2 n2 c2) (v := .slice B2 m2 e2) (t := .int .i64 (d.leave l).left) (by omega)); have HD3 := hide ((ho.mono HS1.out).boxed (b := w.heap.size) (u := .slice A2 n2 c2) (v := .slice B2 m2 e2) (t := .int .i64 (d.leave l).left) (by omega)); have HB3 := hide (below_boxed (Below.then_ HB1.out hb HB1.out.size) (b := w.heap.size) (u := .slice A2 n2 c2) (v := .slice B2 m2 e2) (t := .int .i64 (d.leave l).left) (Nat.le_refl _)); have HS3 := hide (Nat.le_trans HS1.out hb.size); have hN2 := ho.nlen; have hM2 := ho.wlen; have hn4 : n2 ≤ 300000 := Nat.le_trans (Nat.le_of_eq hN2.symm) hD; have hm4 : m2 ≤ 1000 := Nat.le_trans (Nat.le_of_eq hM2.symm) hW; clear X2 X3 ho hb))
      generalize hW3 : (((w2.setCell ⟨w.heap.size, 0, none⟩ (.slice A2 n2 c2)).setCell ⟨w.heap.size, 1, none⟩ (.slice B2 m2 e2)).setCell ⟨w.heap.size, 2, none⟩ (.int .i64 (d.leave l).left)) = W3 at HX3 HZ3 HD3 HB3 q1 ⊢
      have HS3' : Hid (w.heap.size + 2 ≤ W3.heap.size) := by show _ ≤ _; rw [← hW3, heap_boxed]; exact HS3.out
      obtain ⟨o1, ps2, o2, o3, o4⟩ := HD3.out
      have HW : Hid (d.wet.length = m2) := hM2
      have HSP0 : Hid (SP (w.heap.size + 2) W3 A2 n2 c2 B2 m2 e2 ps2 d.dry d.wet) := ⟨o1, o2, o3, o4⟩
      clear hW3 o1 o2 o3 o4 k0 k1 k2 f0 f1 f2 q1 HX1 HZ1 HR1 HS1 HB1 HX0 HZ0 HR0 HS0 HB0 HD3 HS3
      obtain ⟨base, hbaseq⟩ : ∃ base, base = w.heap.size + 2 := ⟨_, rfl⟩
      rw [← hbaseq] at HSP0 HS3'
      obtain ⟨bd, hbdq⟩ : ∃ bd, bd = w.heap.size := ⟨_, rfl⟩
      have hbd : bd < base := by omega
      have hb3 : bd + 1 < base := by omega
      have hbase : base ≤ W3.heap.size := HS3'.out
      have HWZ := hide hbdq
      have HBQ := hide hbaseq
      rw [← hbdq] at HX3 HZ3 ⊢
      clear hbaseq hbdq hM2 hN2
      go_loopw [23] (fun v wr => ∃ i : Nat, v = .int .i64 i ∧ i ≤ m2 ∧ Hid (SP base wr A2 n2 c2 B2 m2 e2 ps2 (setUpto d.dry d.wet allMask i) d.wet) ∧ Hid (Below base W3 wr)) (fun v _ => m2 - (intOf v).toNat)
      case atStart => exact ⟨0, rfl, by omega, HSP0, Below.refl _ _⟩
      case round =>
        obtain ⟨i, rfl, hi, HSP, HB⟩ := hrel
        by_cases him : i < m2
        · have hiz : (i : Int) < (m2 : Int) := by omega
          obtain ⟨ad, rfl, c0, c1⟩ := HSP.out.2.1.reads.cell i him
          have hpk := HSP.out.2.2.1.2 i (by have := HSP.out.2.1.len; omega)
          obtain ⟨p, hp⟩ : ∃ p, nth ps2 i = p := ⟨_, rfl⟩
          rw [hp] at c0 c1 hpk
          obtain ⟨pa, pA, pn, pc⟩ := p
          have hql := HG.out.len i (by rw [HW.out]; exact him)
          have h0 := HG.out.at0 i (by rw [HW.out]; exact him)
          have h1 := HG.out.at1 i (by rw [HW.out]; exact him)
          have hwh := HG.out.whole
          obtain ⟨at_, hat⟩ : ∃ at_ : Nat, (qn d.wet i).1 = at_ := ⟨(qn d.wet i).1.toNat, by omega⟩
          have hpa : pa = (at_ : Int) := by rw [← hat]; exact hpk.1
          subst hpa
          have hpn : pn = 32 := by have := hpk.2.len; simp only at this; omega
          subst hpn
          have hdn : d.dry.length = n2 := by
            have := HSP.out.1.len
            rw [setUpto_len HG.out _ _ (by rw [HW.out]; omega)] at this
            exact this
          have hatn : at_ * 32 + 32 ≤ n2 := by omega
          have HAT := hide hat
          obtain ⟨gp, hgp⟩ := row_addr hpk.2 (show 0 < 32 by omega)
          simp only at hgp
          subst hgp
          have hpc := (row_cap hpk.2).1
          have HPO := hide hpk.2
          have HQL := hide hql
          have HDN := hide hdn
          obtain ⟨g, hgA⟩ := row_addr HSP.out.1 (by omega)
          subst hgA
          have hgn : g < wr.heap.size := (World.ownsRow.lt HSP.out.1 g rfl).2
          have hg0 : base ≤ g := (World.ownsRow.lt HSP.out.1 g rfl).1
          have hbw := HB.out.size
          have HPN := hide hp
          clear hp hpk hql h0 h1 hwh hat hdn
          have hbg : Hid (bd ≠ g) := by show _ ≠ _; omega
          obtain ⟨W1, hW1⟩ : ∃ W1, W1 = (wr.alloc (.cells #[.int .i64 at_, .slice (some ⟨gp, 0, none⟩) 32 pc] 56)).drew := ⟨_, rfl⟩
          have hbw1 : Below wr.heap.size wr W1 := by rw [hW1]; exact (below_alloc _ _).drew
          have HSD : Hid (SP base W1 (some ⟨g, 0, none⟩) n2 c2 (some ad) m2 e2 ps2 (setUpto d.dry d.wet allMask i) d.wet) := HSP.out.below hbw1
          have HBD : Hid (Below base W3 W1) := Below.then_ HB.out hbw1 (Nat.le_trans hbase HB.out.size)
          have HPD : Hid (OB base W1 (some ⟨gp, 0, none⟩) 32 pc (qn d.wet i).2) := HPO.out.below hbw1
          have HBX : Hid (Bx wr bd (.slice (some ⟨g, 0, none⟩) n2 c2) (.slice (some ad) m2 e2) (.int .i64 (d.leave l).left)) := (HB.out.block bd hbd).trans HX3.out
          have k0 := (HBX.out.alloc (.cells #[.int .i64 at_, .slice (some ⟨gp, 0, none⟩) 32 pc] 56)).c0
          have E4 : Hid ((byt (qn d.wet i).2).length = Nat.min 32 (n2 - 32 * at_) * 1) := by
            show _ = _
            rw [byt_length, HQL.out, show Nat.min 32 (n2 - 32 * at_) = 32 from Nat.min_eq_left (by omega)]
          have E5 : Hid (32 * at_ + (byt (qn d.wet i).2).length ≤ n2 * 1) := by
            show _ ≤ _
            rw [byt_length, HQL.out]
            omega
          have E6 : Hid (∀ j v, (byt (qn d.wet i).2)[j]? = some v → W1.cell? ((⟨gp, 0, none⟩ : Addr).add j) = some v) := by
            obtain ⟨ad', e, _, hc⟩ := HPD.out.reads.2 (by omega)
            injection e with e
            subst e
            exact hc
          rw [hW1] at HSD HBD HPD E6
          clear hW1 hbw1
          go_upto_region 9 with fail
          have hcap : n2 ≤ c2 := (row_cap HSP.out.1).1
          have q0 : (wr.alloc (.cells #[.int .i64 at_, .slice (some ⟨gp, 0, none⟩) 32 pc] 56)).cell? ⟨wr.heap.size, 0, none⟩ = some (.int .i64 at_) := box_cell _ _ _ _ _ rfl
          have q1 : (wr.alloc (.cells #[.int .i64 at_, .slice (some ⟨gp, 0, none⟩) 32 pc] 56)).cell? ⟨wr.heap.size, 1, none⟩ = some (.slice (some ⟨gp, 0, none⟩) 32 pc) := box_cell _ _ _ _ _ rfl
          have b1 : ¬ c2 = 32 * at_ := by omega
          have b3 : (0 : Int) ≤ 32 * (at_ : Int) := by omega
          have b4 : 32 * (at_ : Int) ≤ (n2 : Int) := by omega
          have b8 : (32 * (at_ : Int)).toNat = 32 * at_ := by omega
          have w1 : IntKind.i64.wrap (32 * (at_ : Int)) = 32 * (at_ : Int) := IntWalk.i64_in _ (by omega)
          go_region_law
            (first
              | (refine step_copy_row rfl (.tmp 32) (.tmp 34) 28 28 rfl Tryd.underlying28 u8_size HSD.out.1 (32 * at_) (n2 - 32 * at_) (c2 - 32 * at_) rfl ⟨gp, 0, none⟩ 32 pc rfl (byt (qn d.wet i).2) E4.out E6.out E5.out (byt_one _) ?_; intro w6 ho6 hg6; have HO6 := hide ho6; have HG6 := hide hg6; clear ho6 hg6))
          all_goals
            go_wp2_with fail
            go_roundw
            case rel =>
              refine ⟨i + 1, by go_num, by omega, ?_, hide (HBD.out.grown HG6.out (Nat.le_trans hbase HBD.out.size) (fun q hq => by injection hq with hq; omega))⟩
              have e : setUpto d.dry d.wet allMask (i + 1) = layB (setUpto d.dry d.wet allMask i) (at_ * 32) (qn d.wet i).2 := by
                rw [setUpto, HAT.out, Int.toNat_natCast]
                exact page_all _ _ _ HQL.out (by rw [HSP.out.1.len]; omega)
              rw [e]
              have ho := HO6.out
              rw [lay_byt, show 32 * at_ = at_ * 32 by omega] at ho
              exact HSD.out.grown HG6.out ho
            case measure => simp [intOf]; omega
        · have hiz : ¬ (i : Int) < (m2 : Int) := by omega
          have hie : i = m2 := by omega
          have HBX : Hid (Bx wr bd (.slice A2 n2 c2) (.slice B2 m2 e2) (.int .i64 (d.leave l).left)) := (HB.out.block bd hbd).trans HX3.out
          have HZX : Hid (Bx wr (bd + 1) (.slice none 0 0) (.slice none 0 0) (.int .i64 0)) := (HB.out.block (bd + 1) hb3).trans HZ3.out
          have k0 := HBX.out.c0
          have k1 := HBX.out.c1
          have k2 := HBX.out.c2
          have f1 := HBX.out.f 1
          have z0 := HZX.out.c0
          have z1 := HZX.out.c1
          have z2 := HZX.out.c2
          have y0 := HZX.out.f 0
          have y1 := HZX.out.f 1
          have y2 := HZX.out.f 2
          have X6 := HBX.out.set1 (u := .slice none 0 0)
          have q0 := X6.c0
          have q1 := X6.c1
          have q2 := X6.c2
          clear X6
          go_wp2_with fail
          have hz6 := ((HZX.out.other (a := ⟨bd, 1, none⟩) (u := .slice none 0 0) (by simp)).boxed (u := .slice A2 n2 c2) (v := .slice none 0 0) (t := .int .i64 (d.leave l).left))
          have r0 := hz6.c0
          have r1 := hz6.c1
          have r2 := hz6.c2
          rw [HS.out]
          refine bodyPost_ret (v := .tuple #[.agg #[.slice A2 n2 c2, .slice none 0 0, .int .i64 (d.leave l).left], .int .i64 0]) (by simp [results, Tryd.results34, go_sem, r0, r1, r2]) rfl ⟨A2, n2, c2, none, 0, 0, rfl, dry_do ?_, ?_⟩
          · have h1 := HSP.out.1
            rw [hie, ← HW.out] at h1
            exact ((((h1.set (a := ⟨bd, 1, none⟩) hbd).set (a := ⟨bd + 1, 0, none⟩) hb3).set (a := ⟨bd + 1, 1, none⟩) hb3).set (a := ⟨bd + 1, 2, none⟩) hb3).mono (by have := HWZ.out; have := HBQ.out; omega)
          · have h0 := HWZ.out
            have h1 := HBQ.out
            exact below_boxed ((HB3.out.trans (HB.out.mono (by omega))).setCell (by simp only; omega) _) (by omega)
  · have HC := hide (chk_one hg)
    have HS := hide (syncS_bad hg)
    clear hg hr
    go_enter Tryd.func34, Tryd.ntmps34
    go_wp2_with (first
      | (go_at_call 32; refine (rcheck_is _ A n c B m e' d d.left 1 rfl HC.out HR0.out hn hm).mono ?_; rintro e w1 ⟨rfl, hb⟩; have Z1 := HZ0.out.below hb; have z0 := Z1.c0; have z1 := Z1.c1; have z2 := Z1.c2; have y0 := Z1.f 0; have y1 := Z1.f 1; have y2 := Z1.f 2; have HZ1 := hide Z1; have HB1 := hide (Below.then_ HB0.out hb HB0.out.size); clear Z1 hb))
    have hz6 := (HZ1.out.boxed (u := .slice none 0 0) (v := .slice none 0 0) (t := .int .i64 0))
    have r0 := hz6.c0
    have r1 := hz6.c1
    have r2 := hz6.c2
    rw [HS.out]
    refine bodyPost_ret (v := .tuple #[.agg #[.slice none 0 0, .slice none 0 0, .int .i64 0], .int .i64 1]) (by simp [results, Tryd.results34, go_sem, r0, r1, r2]) rfl ⟨_, _, _, _, _, _, rfl, DO.zero _ _, ?_⟩
    exact below_boxed HB1.out (by omega)
end Go.Proofs.YthhemdjggdgaaaaDoor
