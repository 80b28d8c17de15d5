/- RootTorn: of a root that is being written, whatever groups are kept: that one, or the one ahead, or none. -/
import Derived.Test.YthhemdjggdgaaaaDoorWToA
import Derived.Test.YthhemdjggdgaaaaDoorWToB
import Derived.Test.YthhemdjggdgaaaaDoorWToC
namespace Go.Proofs.YthhemdjggdgaaaaDoor
open Go.RowKit
set_option linter.unusedVariables false

set_option maxRecDepth 100000 in
set_option maxHeartbeats 16000000 in
theorem rtornW (w : World) (A : Option Addr) (n c : Nat) (B : Option Addr) (m e' : Nat) (d : Dk) (old r : Rt) (k : UInt8)
    (hr : DR w A n B m d) (hn : n ≤ maxLen) (hm : m ≤ maxLen) (hc : n ≤ c) (hs1 : old.sum < 4294967296) (hs2 : r.sum < 4294967296) (hw : Wd w) :
    Calls Tryd.prog 7 #[.agg #[.slice A n c, .slice B m e', .int .i64 d.left], rtv old, rtv r, .int .u8 (k.toNat : Int)] w fun e w' => e = .returned (.bool true) ∧ Below w.heap.size w w' := by
  have HWd := hide hw
  have hp := hw.pos
  have HD := hide hr
  have HS1 := hide hs1
  have HS2 := hide hs2
  clear hw hr hs1 hs2
  have larm := fun (w : World) (h : Wd w) => rlive_any w h
  obtain ⟨W0, hW0⟩ : ∃ W0, W0 = ((w.alloc (.cells #[.slice A n c, .slice B m e', .int .i64 d.left] 31)).alloc (.cells #[.int .u64 old.gen, .int .i64 old.at_, .int .i64 old.len, .int .i64 old.long, .int .u32 old.sum, .int .u64 old.next] 27)).alloc (.cells #[.int .u64 r.gen, .int .i64 r.at_, .int .i64 r.len, .int .i64 r.long, .int .u32 r.sum, .int .u64 r.next] 27) := ⟨_, rfl⟩
  have HX0 : Hid (Bx W0 w.heap.size (.slice A n c) (.slice B m e') (.int .i64 d.left)) := by rw [hW0]; exact ((Bx.made w _ _ _).alloc _).alloc _
  have HO0 : Hid (RBr W0 (w.heap.size + 1) old) := by
    rw [hW0]
    have := RB.made (w.alloc (.cells #[.slice A n c, .slice B m e', .int .i64 d.left] 31)) (.int .u64 old.gen) (.int .i64 old.at_) (.int .i64 old.len) (.int .i64 old.long) (.int .u32 old.sum) (.int .u64 old.next)
    rw [box_size] at this
    exact RB.below this (below_alloc _ _)
  have HQ0 : Hid (RBr W0 (w.heap.size + 1 + 1) r) := by
    rw [hW0]
    have := RB.made ((w.alloc (.cells #[.slice A n c, .slice B m e', .int .i64 d.left] 31)).alloc (.cells #[.int .u64 old.gen, .int .i64 old.at_, .int .i64 old.len, .int .i64 old.long, .int .u32 old.sum, .int .u64 old.next] 27)) (.int .u64 r.gen) (.int .i64 r.at_) (.int .i64 r.len) (.int .i64 r.long) (.int .u32 r.sum) (.int .u64 r.next)
    rw [box_size, box_size] at this
    exact this
  have HB0 : Hid (Below w.heap.size w W0) := by rw [hW0]; exact (below_alloc2 w _ _).alloc (by simp; omega) _
  rw [hW0] at HX0 HO0 HQ0 HB0
  clear hW0
  unfold rtv

  cases hf : few d with
  | false =>
    go_enter Tryd.func7, Tryd.ntmps7
    go_wp2_with (first
      | (go_at_call 8; (with_reducible refine (larm _ (HWd.out.below HB0.out hp)).mono ?_); rintro e w1 ⟨rfl, hb⟩; have HXd := hide (HX0.out.below hb); have HRo : Hid (RBr w1 (w.heap.size + 1) old) := hide (RB.below HO0.out hb); have HRr : Hid (RBr w1 (w.heap.size + 1 + 1) r) := hide (RB.below HQ0.out hb); have HB := hide (Below.then_ HB0.out hb HB0.out.size); clear hb; replace kdd0 := HXd.out.c0; replace kdd1 := HXd.out.c1; replace kdd2 := HXd.out.c2; replace kro0 := RB.c0 HRo.out; replace kro1 := RB.c1 HRo.out; replace kro2 := RB.c2 HRo.out; replace kro3 := RB.c3 HRo.out; replace kro4 := RB.c4 HRo.out; replace kro5 := RB.c5 HRo.out; replace krr0 := RB.c0 HRr.out; replace krr1 := RB.c1 HRr.out; replace krr2 := RB.c2 HRr.out; replace krr3 := RB.c3 HRr.out; replace krr4 := RB.c4 HRr.out; replace krr5 := RB.c5 HRr.out)
      | (go_at_call 9; (with_reducible refine (few_any _ A n c B m e' d d.left (HD.out.below HB.out) hn hm).mono ?_); rw [hf]; rintro e w2 ⟨rfl, hb⟩; replace HXd := hide (HXd.out.below hb); replace HRo := hide (RB.below HRo.out hb); replace HRr := hide (RB.below HRr.out hb); replace HB := hide (Below.then_ HB.out hb HB.out.size); replace kdd0 := HXd.out.c0; replace kdd1 := HXd.out.c1; replace kdd2 := HXd.out.c2; replace kro0 := RB.c0 HRo.out; replace kro1 := RB.c1 HRo.out; replace kro2 := RB.c2 HRo.out; replace kro3 := RB.c3 HRo.out; replace kro4 := RB.c4 HRo.out; replace kro5 := RB.c5 HRo.out; replace krr0 := RB.c0 HRr.out; replace krr1 := RB.c1 HRr.out; replace krr2 := RB.c2 HRr.out; replace krr3 := RB.c3 HRr.out; replace krr4 := RB.c4 HRr.out; replace krr5 := RB.c5 HRr.out; clear hb))
    go_ret
    exact ⟨rfl, HB.out⟩
  | true =>
    have hf0 := hf
    obtain ⟨f1, f2, f3, f4⟩ := few_bounds hf
    have hdl := HD.out.dlen
    have hwl := HD.out.wlen
    by_cases hl : d.left = -1
    · have hlz : (d.left != -1) = false := by rw [bne_eq_false_iff_eq]; exact hl
      have HL := hide hl
      clear hl
      obtain ⟨so, hso⟩ : ∃ so : Int, so = ((old.gen % 2 : Nat) : Int) := ⟨_, rfl⟩
      obtain ⟨sl, hsl⟩ : ∃ sl : Int, sl = ((r.gen % 2 : Nat) : Int) := ⟨_, rfl⟩
      have g1 : ((old.gen : Int)).tmod 2 = so := by rw [Int.tmod_eq_emod_of_nonneg (by omega)]; omega
      have g2 : ((r.gen : Int)).tmod 2 = sl := by rw [Int.tmod_eq_emod_of_nonneg (by omega)]; omega
      by_cases hp2 : old.gen % 2 = r.gen % 2
      · obtain rfl : so = sl := by omega
        have hpz : (so != so) = false := by rw [bne_eq_false_iff_eq]
        obtain ⟨vo, hvo⟩ : ∃ vo : Int, vo = ((old.gen % 256 : Nat) : Int) := ⟨_, rfl⟩
        obtain ⟨vr, hvr⟩ : ∃ vr : Int, vr = ((r.gen % 256 : Nat) : Int) := ⟨_, rfl⟩
        have g3 : ((old.gen : Int)).tmod 256 = vo := by rw [Int.tmod_eq_emod_of_nonneg (by omega)]; omega
        have g4 : ((r.gen : Int)).tmod 256 = vr := by rw [Int.tmod_eq_emod_of_nonneg (by omega)]; omega
        by_cases hgg : old.gen % 256 = r.gen % 256
        · have hgz : (vo == vr) = true := by rw [beq_iff_eq]; omega
          go_enter Tryd.func7, Tryd.ntmps7
          go_wp2_with (first
            | (go_at_call 8; (with_reducible refine (larm _ (HWd.out.below HB0.out hp)).mono ?_); rintro e w1 ⟨rfl, hb⟩; have HXd := hide (HX0.out.below hb); have HRo : Hid (RBr w1 (w.heap.size + 1) old) := hide (RB.below HO0.out hb); have HRr : Hid (RBr w1 (w.heap.size + 1 + 1) r) := hide (RB.below HQ0.out hb); have HB := hide (Below.then_ HB0.out hb HB0.out.size); clear hb; replace kdd0 := HXd.out.c0; replace kdd1 := HXd.out.c1; replace kdd2 := HXd.out.c2; replace kro0 := RB.c0 HRo.out; replace kro1 := RB.c1 HRo.out; replace kro2 := RB.c2 HRo.out; replace kro3 := RB.c3 HRo.out; replace kro4 := RB.c4 HRo.out; replace kro5 := RB.c5 HRo.out; replace krr0 := RB.c0 HRr.out; replace krr1 := RB.c1 HRr.out; replace krr2 := RB.c2 HRr.out; replace krr3 := RB.c3 HRr.out; replace krr4 := RB.c4 HRr.out; replace krr5 := RB.c5 HRr.out)
            | (go_at_call 9; (with_reducible refine (few_any _ A n c B m e' d d.left (HD.out.below HB.out) hn hm).mono ?_); rw [hf]; rintro e w2 ⟨rfl, hb⟩; replace HXd := hide (HXd.out.below hb); replace HRo := hide (RB.below HRo.out hb); replace HRr := hide (RB.below HRr.out hb); replace HB := hide (Below.then_ HB.out hb HB.out.size); replace kdd0 := HXd.out.c0; replace kdd1 := HXd.out.c1; replace kdd2 := HXd.out.c2; replace kro0 := RB.c0 HRo.out; replace kro1 := RB.c1 HRo.out; replace kro2 := RB.c2 HRo.out; replace kro3 := RB.c3 HRo.out; replace kro4 := RB.c4 HRo.out; replace kro5 := RB.c5 HRo.out; replace krr0 := RB.c0 HRr.out; replace krr1 := RB.c1 HRr.out; replace krr2 := RB.c2 HRr.out; replace krr3 := RB.c3 HRr.out; replace krr4 := RB.c4 HRr.out; replace krr5 := RB.c5 HRr.out; clear hb))
          go_ret
          exact ⟨rfl, HB.out⟩
        · have hgz : (vo == vr) = false := by rw [beq_eq_false_iff_ne]; omega
          have hor : old ≠ r := fun h => hgg (by rw [h])
          have hn' : n ≤ 300000 := by omega
          have hm' : m ≤ 900 := by omega
          have HLD : Hid (d.dry.length ≤ 300000) := by show _ ≤ _; omega
          by_cases hF : (rtwS d old).2 = 0
          · by_cases hr : RGood r
            · by_cases k1 : k = 255
              · exact rtornA w A n c B m e' d old r k HD.out hn hm hc HS1.out HS2.out HWd.out hf0 HL.out hp2 hgg hF hr k1
              · by_cases k2 : k = 0
                · exact rtornB w A n c B m e' d old r k HD.out hn hm hc HS1.out HS2.out HWd.out hf0 HL.out hp2 hgg hF hr k2
                · exact rtornC w A n c B m e' d old r k HD.out hn hm hc HS1.out HS2.out HWd.out hf0 HL.out hp2 hgg hF hr k1 k2
            · have oca := fun (w : World) (h : Wd w) => rtoct_any w r HS2.out h
              unfold rtv at oca
              rw [octS_bad hr] at oca
              obtain ⟨D, fe, hD⟩ : ∃ D fe, rtwS d old = (D, fe) := ⟨_, _, rfl⟩
              rw [hD] at hF
              obtain rfl : fe = 0 := hF
              have wra : ∀ (w : World), DR w A n B m d → Wd w → Calls Tryd.prog 15 #[.agg #[.slice A n c, .slice B m e', .int .i64 d.left], .agg #[.int .u64 old.gen, .int .i64 old.at_, .int .i64 old.len, .int .i64 old.long, .int .u32 old.sum, .int .u64 old.next]] w (DPost w D 0) := by
                intro w h1 h2
                have h3 := rtwrite_any w A n c B m e' d d.left rfl old h1 hn' hm' HS1.out h2
                rw [hD] at h3
                exact h3
              clear hD hr hp2 hgg f1 f2 f3 f4 hdl hwl hso hsl hvo hvr
              go_enter Tryd.func7, Tryd.ntmps7
              go_wp2_with (first
                | (go_at_call 8; (with_reducible refine (larm _ (HWd.out.below HB0.out hp)).mono ?_); rintro e w1 ⟨rfl, hb⟩; have HXd := hide (HX0.out.below hb); have HRo : Hid (RBr w1 (w.heap.size + 1) old) := hide (RB.below HO0.out hb); have HRr : Hid (RBr w1 (w.heap.size + 1 + 1) r) := hide (RB.below HQ0.out hb); have HB := hide (Below.then_ HB0.out hb HB0.out.size); clear hb; replace kdd0 := HXd.out.c0; replace kdd1 := HXd.out.c1; replace kdd2 := HXd.out.c2; replace kro0 := RB.c0 HRo.out; replace kro1 := RB.c1 HRo.out; replace kro2 := RB.c2 HRo.out; replace kro3 := RB.c3 HRo.out; replace kro4 := RB.c4 HRo.out; replace kro5 := RB.c5 HRo.out; replace krr0 := RB.c0 HRr.out; replace krr1 := RB.c1 HRr.out; replace krr2 := RB.c2 HRr.out; replace krr3 := RB.c3 HRr.out; replace krr4 := RB.c4 HRr.out; replace krr5 := RB.c5 HRr.out)
                | (go_at_call 9; (with_reducible refine (few_any _ A n c B m e' d d.left (HD.out.below HB.out) hn hm).mono ?_); rw [hf]; rintro e w2 ⟨rfl, hb⟩; replace HXd := hide (HXd.out.below hb); replace HRo := hide (RB.below HRo.out hb); replace HRr := hide (RB.below HRr.out hb); replace HB := hide (Below.then_ HB.out hb HB.out.size); replace kdd0 := HXd.out.c0; replace kdd1 := HXd.out.c1; replace kdd2 := HXd.out.c2; replace kro0 := RB.c0 HRo.out; replace kro1 := RB.c1 HRo.out; replace kro2 := RB.c2 HRo.out; replace kro3 := RB.c3 HRo.out; replace kro4 := RB.c4 HRo.out; replace kro5 := RB.c5 HRo.out; replace krr0 := RB.c0 HRr.out; replace krr1 := RB.c1 HRr.out; replace krr2 := RB.c2 HRr.out; replace krr3 := RB.c3 HRr.out; replace krr4 := RB.c4 HRr.out; replace krr5 := RB.c5 HRr.out; clear hb)
                | (go_at_call 15; (with_reducible refine (wra _ (HD.out.below HB.out) (HWd.out.below HB.out hp)).mono ?_); rintro e w3 ⟨A0, n0, c0, B0, m0, e0, rfl, ho, hb⟩; have X3 := HXd.out.below hb; have s0 := X3.c0; have s1 := X3.c1; have s2 := X3.c2; have g0 := X3.f 0; have g1 := X3.f 1; have g2 := X3.f 2; have H0 := hide (ho.boxed (b := w.heap.size) (u := .slice A0 n0 c0) (v := .slice B0 m0 e0) (t := .int .i64 D.left) HXd.out.lt); replace HXd := hide (X3.boxed (u := .slice A0 n0 c0) (v := .slice B0 m0 e0) (t := .int .i64 D.left)); replace HRo := hide (RB.oth3 (k := w.heap.size) (u := .slice A0 n0 c0) (v := .slice B0 m0 e0) (t := .int .i64 D.left) (RB.below HRo.out hb) (by omega)); replace HRr := hide (RB.oth3 (k := w.heap.size) (u := .slice A0 n0 c0) (v := .slice B0 m0 e0) (t := .int .i64 D.left) (RB.below HRr.out hb) (by omega)); replace HB := hide (below_boxed (b := w.heap.size) (u := .slice A0 n0 c0) (v := .slice B0 m0 e0) (t := .int .i64 D.left) (Below.then_ HB.out hb HB.out.size) (Nat.le_refl _)); replace kdd0 := HXd.out.c0; replace kdd1 := HXd.out.c1; replace kdd2 := HXd.out.c2; replace kro0 := RB.c0 HRo.out; replace kro1 := RB.c1 HRo.out; replace kro2 := RB.c2 HRo.out; replace kro3 := RB.c3 HRo.out; replace kro4 := RB.c4 HRo.out; replace kro5 := RB.c5 HRo.out; replace krr0 := RB.c0 HRr.out; replace krr1 := RB.c1 HRr.out; replace krr2 := RB.c2 HRr.out; replace krr3 := RB.c3 HRr.out; replace krr4 := RB.c4 HRr.out; replace krr5 := RB.c5 HRr.out; clear X3 ho hb)
                | (go_at_call 11; (with_reducible refine (oca _ (HWd.out.below HB.out hp)).mono ?_); rintro e w4 ⟨Ao, no, co, rfl, ho, hb⟩; have HO : Hid (OB _ w4 Ao no co []) := hide ho; replace H0 := hide (H0.out.below hb); replace HXd := hide (HXd.out.below hb); replace HRo := hide (RB.below HRo.out hb); replace HRr := hide (RB.below HRr.out hb); replace HB := hide (Below.then_ HB.out hb HB.out.size); replace kdd0 := HXd.out.c0; replace kdd1 := HXd.out.c1; replace kdd2 := HXd.out.c2; replace kro0 := RB.c0 HRo.out; replace kro1 := RB.c1 HRo.out; replace kro2 := RB.c2 HRo.out; replace kro3 := RB.c3 HRo.out; replace kro4 := RB.c4 HRo.out; replace kro5 := RB.c5 HRo.out; replace krr0 := RB.c0 HRr.out; replace krr1 := RB.c1 HRr.out; replace krr2 := RB.c2 HRr.out; replace krr3 := RB.c3 HRr.out; replace krr4 := RB.c4 HRr.out; replace krr5 := RB.c5 HRr.out; clear hb ho))
              go_ret
              exact ⟨rfl, HB.out⟩
          · obtain ⟨D, fe, hD⟩ : ∃ D fe, rtwS d old = (D, fe) := ⟨_, _, rfl⟩
            rw [hD] at hF
            have hfz : (fe != 0) = true := by rw [bne_iff_ne]; exact hF
            obtain ⟨ys, yx, hys⟩ : ∃ ys yx, octS r = (ys, yx) := ⟨_, _, rfl⟩
            have oca := fun (w : World) (h : Wd w) => rtoct_any w r HS2.out h
            unfold rtv at oca
            rw [hys] at oca
            have wra : ∀ (w : World), DR w A n B m d → Wd w → Calls Tryd.prog 15 #[.agg #[.slice A n c, .slice B m e', .int .i64 d.left], .agg #[.int .u64 old.gen, .int .i64 old.at_, .int .i64 old.len, .int .i64 old.long, .int .u32 old.sum, .int .u64 old.next]] w (DPost w D fe) := by
              intro w h1 h2
              have h3 := rtwrite_any w A n c B m e' d d.left rfl old h1 hn' hm' HS1.out h2
              rw [hD] at h3
              exact h3
            clear hD hys hF hp2 hgg f1 f2 f3 f4 hdl hwl hso hsl hvo hvr
            go_enter Tryd.func7, Tryd.ntmps7
            go_wp2_with (first
              | (go_at_call 8; (with_reducible refine (larm _ (HWd.out.below HB0.out hp)).mono ?_); rintro e w1 ⟨rfl, hb⟩; have HXd := hide (HX0.out.below hb); have HRo : Hid (RBr w1 (w.heap.size + 1) old) := hide (RB.below HO0.out hb); have HRr : Hid (RBr w1 (w.heap.size + 1 + 1) r) := hide (RB.below HQ0.out hb); have HB := hide (Below.then_ HB0.out hb HB0.out.size); clear hb; replace kdd0 := HXd.out.c0; replace kdd1 := HXd.out.c1; replace kdd2 := HXd.out.c2; replace kro0 := RB.c0 HRo.out; replace kro1 := RB.c1 HRo.out; replace kro2 := RB.c2 HRo.out; replace kro3 := RB.c3 HRo.out; replace kro4 := RB.c4 HRo.out; replace kro5 := RB.c5 HRo.out; replace krr0 := RB.c0 HRr.out; replace krr1 := RB.c1 HRr.out; replace krr2 := RB.c2 HRr.out; replace krr3 := RB.c3 HRr.out; replace krr4 := RB.c4 HRr.out; replace krr5 := RB.c5 HRr.out)
              | (go_at_call 9; (with_reducible refine (few_any _ A n c B m e' d d.left (HD.out.below HB.out) hn hm).mono ?_); rw [hf]; rintro e w2 ⟨rfl, hb⟩; replace HXd := hide (HXd.out.below hb); replace HRo := hide (RB.below HRo.out hb); replace HRr := hide (RB.below HRr.out hb); replace HB := hide (Below.then_ HB.out hb HB.out.size); replace kdd0 := HXd.out.c0; replace kdd1 := HXd.out.c1; replace kdd2 := HXd.out.c2; replace kro0 := RB.c0 HRo.out; replace kro1 := RB.c1 HRo.out; replace kro2 := RB.c2 HRo.out; replace kro3 := RB.c3 HRo.out; replace kro4 := RB.c4 HRo.out; replace kro5 := RB.c5 HRo.out; replace krr0 := RB.c0 HRr.out; replace krr1 := RB.c1 HRr.out; replace krr2 := RB.c2 HRr.out; replace krr3 := RB.c3 HRr.out; replace krr4 := RB.c4 HRr.out; replace krr5 := RB.c5 HRr.out; clear hb)
              | (go_at_call 15; (with_reducible refine (wra _ (HD.out.below HB.out) (HWd.out.below HB.out hp)).mono ?_); rintro e w3 ⟨A0, n0, c0, B0, m0, e0, rfl, ho, hb⟩; have X3 := HXd.out.below hb; have s0 := X3.c0; have s1 := X3.c1; have s2 := X3.c2; have g0 := X3.f 0; have g1 := X3.f 1; have g2 := X3.f 2; have H0 := hide (ho.boxed (b := w.heap.size) (u := .slice A0 n0 c0) (v := .slice B0 m0 e0) (t := .int .i64 D.left) HXd.out.lt); replace HXd := hide (X3.boxed (u := .slice A0 n0 c0) (v := .slice B0 m0 e0) (t := .int .i64 D.left)); replace HRo := hide (RB.oth3 (k := w.heap.size) (u := .slice A0 n0 c0) (v := .slice B0 m0 e0) (t := .int .i64 D.left) (RB.below HRo.out hb) (by omega)); replace HRr := hide (RB.oth3 (k := w.heap.size) (u := .slice A0 n0 c0) (v := .slice B0 m0 e0) (t := .int .i64 D.left) (RB.below HRr.out hb) (by omega)); replace HB := hide (below_boxed (b := w.heap.size) (u := .slice A0 n0 c0) (v := .slice B0 m0 e0) (t := .int .i64 D.left) (Below.then_ HB.out hb HB.out.size) (Nat.le_refl _)); replace kdd0 := HXd.out.c0; replace kdd1 := HXd.out.c1; replace kdd2 := HXd.out.c2; replace kro0 := RB.c0 HRo.out; replace kro1 := RB.c1 HRo.out; replace kro2 := RB.c2 HRo.out; replace kro3 := RB.c3 HRo.out; replace kro4 := RB.c4 HRo.out; replace kro5 := RB.c5 HRo.out; replace krr0 := RB.c0 HRr.out; replace krr1 := RB.c1 HRr.out; replace krr2 := RB.c2 HRr.out; replace krr3 := RB.c3 HRr.out; replace krr4 := RB.c4 HRr.out; replace krr5 := RB.c5 HRr.out; clear X3 ho hb)
              | (go_at_call 11; (with_reducible refine (oca _ (HWd.out.below HB.out hp)).mono ?_); rintro e w4 ⟨Ao, no, co, rfl, ho, hb⟩; have HO : Hid (OB _ w4 Ao no co ys) := hide ho; replace H0 := hide (H0.out.below hb); replace HXd := hide (HXd.out.below hb); replace HRo := hide (RB.below HRo.out hb); replace HRr := hide (RB.below HRr.out hb); replace HB := hide (Below.then_ HB.out hb HB.out.size); replace kdd0 := HXd.out.c0; replace kdd1 := HXd.out.c1; replace kdd2 := HXd.out.c2; replace kro0 := RB.c0 HRo.out; replace kro1 := RB.c1 HRo.out; replace kro2 := RB.c2 HRo.out; replace kro3 := RB.c3 HRo.out; replace kro4 := RB.c4 HRo.out; replace kro5 := RB.c5 HRo.out; replace krr0 := RB.c0 HRr.out; replace krr1 := RB.c1 HRr.out; replace krr2 := RB.c2 HRr.out; replace krr3 := RB.c3 HRr.out; replace krr4 := RB.c4 HRr.out; replace krr5 := RB.c5 HRr.out; clear hb ho))
            go_ret
            exact ⟨rfl, HB.out⟩
      · have hpz : (so != sl) = true := by rw [bne_iff_ne]; omega
        go_enter Tryd.func7, Tryd.ntmps7
        go_wp2_with (first
          | (go_at_call 8; (with_reducible refine (larm _ (HWd.out.below HB0.out hp)).mono ?_); rintro e w1 ⟨rfl, hb⟩; have HXd := hide (HX0.out.below hb); have HRo : Hid (RBr w1 (w.heap.size + 1) old) := hide (RB.below HO0.out hb); have HRr : Hid (RBr w1 (w.heap.size + 1 + 1) r) := hide (RB.below HQ0.out hb); have HB := hide (Below.then_ HB0.out hb HB0.out.size); clear hb; replace kdd0 := HXd.out.c0; replace kdd1 := HXd.out.c1; replace kdd2 := HXd.out.c2; replace kro0 := RB.c0 HRo.out; replace kro1 := RB.c1 HRo.out; replace kro2 := RB.c2 HRo.out; replace kro3 := RB.c3 HRo.out; replace kro4 := RB.c4 HRo.out; replace kro5 := RB.c5 HRo.out; replace krr0 := RB.c0 HRr.out; replace krr1 := RB.c1 HRr.out; replace krr2 := RB.c2 HRr.out; replace krr3 := RB.c3 HRr.out; replace krr4 := RB.c4 HRr.out; replace krr5 := RB.c5 HRr.out)
          | (go_at_call 9; (with_reducible refine (few_any _ A n c B m e' d d.left (HD.out.below HB.out) hn hm).mono ?_); rw [hf]; rintro e w2 ⟨rfl, hb⟩; replace HXd := hide (HXd.out.below hb); replace HRo := hide (RB.below HRo.out hb); replace HRr := hide (RB.below HRr.out hb); replace HB := hide (Below.then_ HB.out hb HB.out.size); replace kdd0 := HXd.out.c0; replace kdd1 := HXd.out.c1; replace kdd2 := HXd.out.c2; replace kro0 := RB.c0 HRo.out; replace kro1 := RB.c1 HRo.out; replace kro2 := RB.c2 HRo.out; replace kro3 := RB.c3 HRo.out; replace kro4 := RB.c4 HRo.out; replace kro5 := RB.c5 HRo.out; replace krr0 := RB.c0 HRr.out; replace krr1 := RB.c1 HRr.out; replace krr2 := RB.c2 HRr.out; replace krr3 := RB.c3 HRr.out; replace krr4 := RB.c4 HRr.out; replace krr5 := RB.c5 HRr.out; clear hb))
        go_ret
        exact ⟨rfl, HB.out⟩
    · have hlz : (d.left != -1) = true := by rw [bne_iff_ne]; exact hl
      go_enter Tryd.func7, Tryd.ntmps7
      go_wp2_with (first
        | (go_at_call 8; (with_reducible refine (larm _ (HWd.out.below HB0.out hp)).mono ?_); rintro e w1 ⟨rfl, hb⟩; have HXd := hide (HX0.out.below hb); have HRo : Hid (RBr w1 (w.heap.size + 1) old) := hide (RB.below HO0.out hb); have HRr : Hid (RBr w1 (w.heap.size + 1 + 1) r) := hide (RB.below HQ0.out hb); have HB := hide (Below.then_ HB0.out hb HB0.out.size); clear hb; replace kdd0 := HXd.out.c0; replace kdd1 := HXd.out.c1; replace kdd2 := HXd.out.c2; replace kro0 := RB.c0 HRo.out; replace kro1 := RB.c1 HRo.out; replace kro2 := RB.c2 HRo.out; replace kro3 := RB.c3 HRo.out; replace kro4 := RB.c4 HRo.out; replace kro5 := RB.c5 HRo.out; replace krr0 := RB.c0 HRr.out; replace krr1 := RB.c1 HRr.out; replace krr2 := RB.c2 HRr.out; replace krr3 := RB.c3 HRr.out; replace krr4 := RB.c4 HRr.out; replace krr5 := RB.c5 HRr.out)
        | (go_at_call 9; (with_reducible refine (few_any _ A n c B m e' d d.left (HD.out.below HB.out) hn hm).mono ?_); rw [hf]; rintro e w2 ⟨rfl, hb⟩; replace HXd := hide (HXd.out.below hb); replace HRo := hide (RB.below HRo.out hb); replace HRr := hide (RB.below HRr.out hb); replace HB := hide (Below.then_ HB.out hb HB.out.size); replace kdd0 := HXd.out.c0; replace kdd1 := HXd.out.c1; replace kdd2 := HXd.out.c2; replace kro0 := RB.c0 HRo.out; replace kro1 := RB.c1 HRo.out; replace kro2 := RB.c2 HRo.out; replace kro3 := RB.c3 HRo.out; replace kro4 := RB.c4 HRo.out; replace kro5 := RB.c5 HRo.out; replace krr0 := RB.c0 HRr.out; replace krr1 := RB.c1 HRr.out; replace krr2 := RB.c2 HRr.out; replace krr3 := RB.c3 HRr.out; replace krr4 := RB.c4 HRr.out; replace krr5 := RB.c5 HRr.out; clear hb))
      go_ret
      exact ⟨rfl, HB.out⟩
end Go.Proofs.YthhemdjggdgaaaaDoor
