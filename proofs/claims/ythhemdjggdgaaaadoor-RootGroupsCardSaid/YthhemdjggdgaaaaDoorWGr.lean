/- RootGroups: each group's first octet is the generation's lowest one. -/
import Derived.Test.YthhemdjggdgaaaaDoorRlive
namespace Go.Proofs.YthhemdjggdgaaaaDoor
open Go.RowKit
set_option linter.unusedVariables false

theorem below_dq {B : Nat} {a w : World} (h : Below B a w) (n : Nat) : Below B a (w.drewN n) := below_dr h n
theorem OB.dq {base n c : Nat} {w : World} {A : Option Addr} {bs : Bs} (h : OB base w A n c bs) (k : Nat) : OB base (w.drewN k) A n c bs := h.below (below_dr (Below.refl _ _) k)
theorem OB.put1 {base g n c : Nat} {w : World} {bs : Bs} (h : OB base w (some ⟨g, 0, none⟩) n c bs) (i : Nat) (b : UInt8) : OB base (w.setCell ⟨g, i, none⟩ (.int .u8 b.toNat)) (some ⟨g, 0, none⟩) n c (bs.set i b) := by
  have := (World.ownsRow.stored h i (.int .u8 b.toNat)).1
  unfold OB
  rw [byt_set]
  exact this
set_option maxRecDepth 100000 in
set_option maxHeartbeats 4000000 in
theorem groupsW (w : World) (r : Rt) (k : Int) (c : UInt8) (hs : r.sum < 4294967296) (hw : Wd w) :
    Calls Tryd.prog 6 #[rtv r, .int .i64 k, .int .u8 (c.toNat : Int)] w fun e w' => e = .returned (.bool true) ∧ Below w.heap.size w w' := by
  have HWd := hide hw
  have hp := hw.pos
  clear hw
  have oc := fun (w : World) (h : Wd w) => rtoct_any w r hs h
  obtain ⟨W0, hW0⟩ : ∃ W0, W0 = w.alloc (.cells #[.int .u64 r.gen, .int .i64 r.at_, .int .i64 r.len, .int .i64 r.long, .int .u32 r.sum, .int .u64 r.next] 27) := ⟨_, rfl⟩
  have HQ0 : Hid (RBr W0 w.heap.size r) := by rw [hW0]; exact RB.made w _ _ _ _ _ _
  have HB0 : Hid (Below w.heap.size w W0) := by rw [hW0]; exact below_alloc w _
  rw [hW0] at HQ0 HB0
  clear hW0
  have larm := fun (w : World) (h : Wd w) => rlive_any w h
  by_cases hg : RGood r
  · rw [octS_ok hg] at oc
    have HGD := hide hg
    have hgn : r.nums.gen = r.gen := rfl
    have HF : Hid (∀ i, i < 8 → (octs r.nums).getD (4 * i) 0 = byteAt r.gen 0) := fun i hi => octs_first r.nums 8 (Nat.le_refl _) i hi
    have HL := hide (octs_len r.nums)
    have HGB : Hid (∀ j c, j < 8 → byteAt r.gen 0 ≠ c → ofS ((octs r.nums).set (4 * j) c) = (Rt.zero, 2)) := fun j c h1 h2 => group_bad h1 h2
    obtain ⟨ob, hob⟩ : ∃ ob, octs r.nums = ob := ⟨_, rfl⟩
    rw [hob] at oc HF HL HGB
    have HV : Hid (IntKind.u8.wrap ((r.gen : Int) % 256) = ((byteAt r.gen 0).toNat : Int)) := by show _ = _; rw [byteAt_val, IntKind.wrap_u8]; simp
    obtain ⟨gb, hgb⟩ : ∃ gb, byteAt r.gen 0 = gb := ⟨_, rfl⟩
    rw [hgb] at HF HGB HV
    unfold rtv at oc ⊢
    clear hob hgb hgn hg
    go_enter Tryd.func6, Tryd.ntmps6
    go_wp2_with (first
      | (go_at_call 8; (with_reducible refine (larm _ (HWd.out.below HB0.out hp)).mono ?_); rintro e w1 ⟨rfl, hb⟩; have Q1 := RB.below HQ0.out hb; have q0 := Q1.c0; have q1 := Q1.c1; have q2 := Q1.c2; have q3 := Q1.c3; have q4 := Q1.c4; have q5 := Q1.c5; have HQ1 := hide Q1; have HB1 := hide (Below.then_ HB0.out hb HB0.out.size); clear Q1 hb)
      | (go_at_call 11; (with_reducible refine (oc _ (HWd.out.below HB1.out hp)).mono ?_); rintro e w2 ⟨Ay, ny, cy, rfl, ho, hb⟩; obtain rfl : 32 = ny := HL.out.symm.trans ho.len; have HY := hide ho; have HQ2 := hide (RB.below HQ1.out hb); have HB2 := hide (Below.then_ HB1.out hb HB1.out.size); have HL1 : Hid (w.heap.size ≤ w1.heap.size) := HB1.out.size; clear ho hb))
    obtain ⟨g, rfl⟩ := row_addr HY.out (by omega)
    clear HQ0 HB0 HQ1 HB1 q0 q1 q2 q3 q4 q5 oc larm
    go_loopw [22] (fun v wk => ∃ i : Nat, v = .int .i64 i ∧ i ≤ 8 ∧ Hid (OB w1.heap.size wk (some ⟨g, 0, none⟩) 32 cy ob) ∧ Hid (RBr wk w.heap.size r) ∧ Hid (Below w.heap.size w wk)) (fun v _ => 8 - (intOf v).toNat)
    case atStart => exact ⟨0, rfl, by omega, HY, HQ2, HB2⟩
    case round =>
      clear HY HQ2 HB2
      obtain ⟨i, rfl, hi, HY, HQ, HB⟩ := hrel
      by_cases hi8 : i < 8
      · have hiz : (i : Int) < 8 := by omega
        have c0 := HY.out.cellb (4 * i) (by omega)
        rw [HF.out i hi8] at c0
        have q0 := RB.c0 HQ.out
        have b1 : (0 : Int) ≤ 4 * (i : Int) := by omega
        have b2 : 4 * (i : Int) < 32 := by omega
        have b3 : (4 * (i : Int)).toNat = 4 * i := by omega
        have b4 : IntKind.i64.wrap (4 * (i : Int)) = 4 * (i : Int) := IntWalk.i64_in _ (by omega)
        have g1 : ((r.gen : Int)).tmod 256 = (r.gen : Int) % 256 := Int.tmod_eq_emod_of_nonneg (by omega)
        have g2 := HV.out
        have g3 : ((gb.toNat : Int) != (gb.toNat : Int)) = false := by simp
        go_wp2_with fail
        go_quiet (fail)
        go_wp2_with fail
        go_roundw
        case rel => exact ⟨i + 1, by go_num, by omega, hide (HY.out.dq _), hide (RB.below HQ.out (below_dr (Below.refl _ _) _)), hide (below_dr HB.out _)⟩
        case measure => simp [intOf]; omega
      · have hiz : ¬ (i : Int) < 8 := by omega
        by_cases k0 : k < 0
        · have k0z : decide (k < 0) = true := decide_eq_true k0
          go_wp2_with fail
          go_ret
          exact ⟨rfl, HB.out⟩
        · have k0z : decide (k < 0) = false := decide_eq_false k0
          by_cases k7 : 7 < k
          · have k7z : decide (7 < k) = true := decide_eq_true k7
            go_wp2_with fail
            go_ret
            exact ⟨rfl, HB.out⟩
          · have k7z : decide (7 < k) = false := decide_eq_false k7
            obtain ⟨kn, rfl⟩ : ∃ kn : Nat, k = kn := ⟨k.toNat, by omega⟩
            have hkn : kn < 8 := by omega
            have c0 := HY.out.cellb (4 * kn) (by omega)
            rw [HF.out kn hkn] at c0
            have f0 := World.ownsRow.frozenAt HY.out (4 * kn)
            have b1 : (0 : Int) ≤ 4 * (kn : Int) := by omega
            have b2 : 4 * (kn : Int) < 32 := by omega
            have b3 : (4 * (kn : Int)).toNat = 4 * kn := by omega
            have b4 : IntKind.i64.wrap (4 * (kn : Int)) = 4 * (kn : Int) := IntWalk.i64_in _ (by omega)
            by_cases hc : gb = c
            · have hcz : ((gb.toNat : Int) == (c.toNat : Int)) = true := by rw [beq_iff_eq, hc]
              subst hc
              go_wp2_with fail
              go_ret
              exact ⟨rfl, HB.out⟩
            · have hc2 : ¬ (gb.toNat : Int) = (c.toNat : Int) := fun h => hc (UInt8.toNat_inj.1 (by omega))
              have hcz : ((gb.toNat : Int) == (c.toNat : Int)) = false := by rw [beq_eq_false_iff_ne]; exact hc2
              have HO := hide (HGB.out kn c hkn hc)
              have HP := hide (HY.out.put1 (4 * kn) c)
              have HCY : Hid (32 ≤ cy) := (row_cap HY.out).1
              have HBP := hide (HB.out.setCell (p := ⟨g, 4 * kn, none⟩) (show w.heap.size ≤ g from Nat.le_trans HL1.out (World.ownsRow.lt HY.out g rfl).1) (.int .u8 (c.toNat : Int)))
              have fd : ∀ (w : World), BR w (some ⟨g, 0, none⟩) 32 (ob.set (4 * kn) c) → Wd w → Calls Tryd.prog 13 #[.slice (some ⟨g, 0, none⟩) 32 cy] w fun e w' => e = .returned (.tuple #[.agg #[.int .u64 0, .int .i64 0, .int .i64 0, .int .i64 0, .int .u32 0, .int .u64 0], .int .i64 2]) ∧ Below w.heap.size w w' := by
                intro w h1 h2
                have h3 := rtof_any w _ 32 cy _ h1 (by omega) HCY.out h2
                rw [HO.out] at h3
                exact h3
              clear hc
              go_wp2_with (first
                | (go_at_call 13; (with_reducible refine (fd _ HP.out.reads (HWd.out.below HBP.out hp)).mono ?_); rintro e w3 ⟨rfl, hb⟩; have HB3 := hide ((Below.then_ HBP.out hb HBP.out.size).alloc (Nat.le_trans HBP.out.size hb.size) (.cells #[.int .u64 0, .int .i64 0, .int .i64 0, .int .i64 0, .int .u32 0, .int .u64 0] 27)); clear hb))
              go_ret
              exact ⟨rfl, HB3.out⟩
  · rw [octS_bad hg] at oc
    unfold rtv at oc ⊢
    clear hg
    go_enter Tryd.func6, Tryd.ntmps6
    go_wp2_with (first
      | (go_at_call 8; (with_reducible refine (larm _ (HWd.out.below HB0.out hp)).mono ?_); rintro e w1 ⟨rfl, hb⟩; have Q1 := RB.below HQ0.out hb; have q0 := Q1.c0; have q1 := Q1.c1; have q2 := Q1.c2; have q3 := Q1.c3; have q4 := Q1.c4; have q5 := Q1.c5; have HQ1 := hide Q1; have HB1 := hide (Below.then_ HB0.out hb HB0.out.size); clear Q1 hb)
      | (go_at_call 11; (with_reducible refine (oc _ (HWd.out.below HB1.out hp)).mono ?_); rintro e w2 ⟨Ay, ny, cy, rfl, ho, hb⟩; have HB2 := hide (Below.then_ HB1.out hb HB1.out.size); clear ho hb))
    go_ret
    exact ⟨rfl, HB2.out⟩
end Go.Proofs.YthhemdjggdgaaaaDoor
