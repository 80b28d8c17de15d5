/- The greatest root on a disk. -/
import Derived.Test.YthhemdjggdgaaaaDoorRwr
namespace Go.Proofs.YthhemdjggdgaaaaDoor
open Go.RowKit
set_option linter.unusedVariables false

theorem OB.max {base n c : Nat} {w : World} {A : Option Addr} {bs : Bs} (h : OB base w A n c bs) : n ≤ c := by
  rcases h.2 with ⟨h', h0⟩ | ⟨g, cap', cur, h', _⟩
  · injection h' with _ h2 h3; omega
  · injection h' with h1 h2 h3; subst h1; exact (row_cap h).1
noncomputable def pick (best : Rt) (b : Bs) (i : Nat) : Rt := if (ofS b).2 = 0 ∧ (ofS b).1.gen % 2 = i ∧ best.gen < (ofS b).1.gen then (ofS b).1 else best
noncomputable def bestU (d : Dk) : Nat → Rt
  | 0 => Rt.zero
  | i + 1 => pick (bestU d i) (readB d (i : Int)) i
noncomputable def findS (d : Dk) : Rt × Int := if fitS d ≠ 0 then (Rt.zero, fitS d) else if (bestU d 2).gen = 0 then (bestU d 2, 4) else (bestU d 2, 0)
theorem fit_good {d : Dk} (h : fitS d = 0) : Good d ∧ 64 < d.dry.length := by
  unfold fitS at h
  by_cases h1 : d.dry.length ≤ 64
  · rw [if_pos h1] at h; omega
  · rw [if_neg h1] at h
    refine ⟨?_, by omega⟩
    by_cases hg : Good d
    · exact hg
    · rw [chk_one hg] at h; omega
theorem fit_is {d : Dk} (h : fitS d = 0) {i : Nat} (hi : i < 2) : Is d (i : Int) := by
  obtain ⟨hg, hl⟩ := fit_good h
  have := hg.whole
  exact ⟨hg, by omega, by omega⟩
def RBr (w : World) (b : Nat) (r : Rt) : Prop := RB w b (.int .u64 r.gen) (.int .i64 r.at_) (.int .i64 r.len) (.int .i64 r.long) (.int .u32 r.sum) (.int .u64 r.next)

set_option maxRecDepth 100000 in
set_option maxHeartbeats 4000000 in
theorem rtfind_any (w : World) (A : Option Addr) (n c : Nat) (B : Option Addr) (m e' : Nat) (d : Dk) (l : Int) (hl : d.left = l) (hr : DR w A n B m d) (hn : n ≤ 300000) (hm : m ≤ 1000) (hc : n ≤ c) (hw : Wd w) :
    Calls Tryd.prog 17 #[.agg #[.slice A n c, .slice B m e', .int .i64 l]] w (RtPost w (findS d).1 (findS d).2) := by
  obtain ⟨W0, hW0⟩ : ∃ W0, W0 = ((w.alloc (.cells #[.slice A n c, .slice B m e', .int .i64 l] 31)).alloc (.cells #[.int .u64 0, .int .i64 0, .int .i64 0, .int .i64 0, .int .u32 0, .int .u64 0] 27)) := ⟨_, rfl⟩
  have hb0 : Below w.heap.size w W0 := by rw [hW0]; exact below_alloc2 w _ _
  have HX0 : Hid (Bx W0 w.heap.size (.slice A n c) (.slice B m e') (.int .i64 l)) := by rw [hW0]; exact (Bx.made w _ _ _).alloc _
  have HQ0 : Hid (RBr W0 (w.heap.size + 1) Rt.zero) := by
    rw [hW0]
    have := RB.made (w.alloc (.cells #[.slice A n c, .slice B m e', .int .i64 l] 31)) (.int .u64 0) (.int .i64 0) (.int .i64 0) (.int .i64 0) (.int .u32 0) (.int .u64 0)
    rw [box_size] at this
    exact this
  have HB0 := hide hb0
  have hs0 : w.heap.size + 2 ≤ W0.heap.size := by rw [hW0]; simp
  have HS0 := hide hs0
  have HR0 : Hid (DR W0 A n B m d) := hr.below hb0
  have hp := hw.pos
  have HW0 : Hid (Wd W0) := hw.below hb0 hp
  have HWd := hide hw
  have HRd := hide hr
  rw [hW0] at HX0 HQ0 HB0 HS0 HR0 HW0
  clear hW0 hb0 hr hw hs0
  have fitarm := fun (w : World) (h : DR w A n B m d) => fits_any w A n c B m e' d l hl h hn hm
  by_cases hf : fitS d = 0
  · rw [hf] at fitarm
    have HF := hide hf
    clear hf
    go_enter Tryd.func17, Tryd.ntmps17
    go_wp2_with (first
      | (go_at_call 30; (with_reducible refine (fitarm _ HR0.out).mono ?_); rintro e w1 ⟨rfl, hb⟩; have HX1 := hide (HX0.out.below hb); have HQ1 : Hid (RBr w1 (w.heap.size + 1) Rt.zero) := hide (RB.below HQ0.out hb); have HB1 := hide (Below.then_ HB0.out hb HB0.out.size); have HS1 := hide (Nat.le_trans HS0.out hb.size); clear hb))
    clear HX0 HQ0 HB0 HS0 HR0 HW0 fitarm
    go_loopw [16] (fun v wk => ∃ i : Nat, v = .int .u64 i ∧ i ≤ 2 ∧ Hid (Bx wk w.heap.size (.slice A n c) (.slice B m e') (.int .i64 l)) ∧ Hid (RBr wk (w.heap.size + 1) (bestU d i)) ∧ Hid (Below w.heap.size w wk) ∧ Hid (w.heap.size + 2 ≤ wk.heap.size)) (fun v _ => 2 - (intOf v).toNat)
    case atStart => exact ⟨0, rfl, by omega, HX1, HQ1, HB1, HS1⟩
    case round =>
      clear HX1 HQ1 HB1 HS1
      obtain ⟨i, rfl, hi, HX, HQ, HB, HS⟩ := hrel
      by_cases hi2 : i < 2
      · have hiz : (i : Int) < 2 := by omega
        have k0 := HX.out.c0
        have k1 := HX.out.c1
        have k2 := HX.out.c2
        have v1 : IntKind.i64.wrap (i : Int) = (i : Int) := IntWalk.i64_in _ (by omega)
        have v2 : IntKind.u64.wrap ((i : Int) + 1) = (i : Int) + 1 := by rw [IntKind.wrap_u64]; omega
        have rd : ∀ w : World, DR w A n B m d → Calls Tryd.prog 25 #[.agg #[.slice A n c, .slice B m e', .int .i64 l], .int .i64 (i : Int)] w (RPost w (readB d (i : Int)) 0) := by
          intro w h
          have h1 := read_any w A n c B m e' d (i : Int) h hn hm hc
          rw [hl, readS_ok (fit_is HF.out hi2)] at h1
          exact h1
        obtain ⟨q, x, hq⟩ : ∃ q x, ofS (readB d (i : Int)) = (q, x) := ⟨_, _, rfl⟩
        have rc : ∀ (w : World) (A : Option Addr) (n c : Nat), BR w A n (readB d (i : Int)) → n ≤ 300000 → n ≤ c → Wd w → Calls Tryd.prog 13 #[.slice A n c] w fun e w' => e = .returned (.tuple #[.agg #[.int .u64 q.gen, .int .i64 q.at_, .int .i64 q.len, .int .i64 q.long, .int .u32 q.sum, .int .u64 q.next], .int .i64 x]) ∧ Below w.heap.size w w' := by
          intro w A n c h1 h2 h3 h4
          have := rtof_any w A n c _ h1 h2 h3 h4
          rw [hq] at this
          exact this
        have HPK : Hid (bestU d (i + 1) = if x = 0 ∧ q.gen % 2 = i ∧ (bestU d i).gen < q.gen then q else bestU d i) := by
          show _ = _
          rw [bestU, pick, hq]
        have hlen := readB_len (fit_is HF.out hi2)
        clear hq
        have g1 : ((q.gen : Int)).tmod 2 = (q.gen : Int) % 2 := Int.tmod_eq_emod_of_nonneg (by omega)
        by_cases hx : x = 0
        · subst hx
          by_cases hg : q.gen % 2 = i
          · have hgz : (q.gen : Int) % 2 = (i : Int) := by omega
            by_cases hb : (bestU d i).gen < q.gen
            · have hbz : ((bestU d i).gen : Int) < (q.gen : Int) := by omega
              go_wp2_with (first
                | (go_at_call 25; (with_reducible refine (rd _ (HRd.out.below HB.out)).mono ?_); rintro e w1 ⟨Ay, ny, cy, rfl, ho, hb⟩; have HY := hide ho; have hny : ny ≤ 300000 := (by have h1 : (readB d (i : Int)).length = ny := ho.len; omega); have hcy : ny ≤ cy := ho.max; have HX1 := hide (HX.out.below hb); have HQ1 : Hid (RBr w1 (w.heap.size + 1) (bestU d i)) := hide (RB.below HQ.out hb); have HB1 := hide (Below.then_ HB.out hb HB.out.size); have HS1 := hide (Nat.le_trans HS.out hb.size); clear ho hb)
                | (go_at_call 13; (with_reducible refine (rc _ Ay ny cy HY.out.reads hny hcy (HWd.out.below HB1.out hp)).mono ?_); rintro e w2 ⟨rfl, hb⟩; have HX2 := hide ((HX1.out.below hb).alloc (.cells #[.int .u64 q.gen, .int .i64 q.at_, .int .i64 q.len, .int .i64 q.long, .int .u32 q.sum, .int .u64 q.next] 27)); have Q2 := RB.below (RB.below HQ1.out hb) (below_alloc w2 (.cells #[.int .u64 q.gen, .int .i64 q.at_, .int .i64 q.len, .int .i64 q.long, .int .u32 q.sum, .int .u64 q.next] 27)); have bb0 := Q2.c0; have bb1 := Q2.c1; have bb2 := Q2.c2; have bb3 := Q2.c3; have bb4 := Q2.c4; have bb5 := Q2.c5; have bf0 := Q2.f 0; have bf1 := Q2.f 1; have bf2 := Q2.f 2; have bf3 := Q2.f 3; have bf4 := Q2.f 4; have bf5 := Q2.f 5; have HQ2 := hide Q2; have HB2 := hide ((Below.then_ HB1.out hb HB1.out.size).alloc (Nat.le_trans HB1.out.size hb.size) (.cells #[.int .u64 q.gen, .int .i64 q.at_, .int .i64 q.len, .int .i64 q.long, .int .u32 q.sum, .int .u64 q.next] 27)); have HS2 : Hid (w.heap.size + 2 ≤ (w2.alloc (.cells #[.int .u64 q.gen, .int .i64 q.at_, .int .i64 q.len, .int .i64 q.long, .int .u32 q.sum, .int .u64 q.next] 27)).heap.size) := Nat.le_trans HS1.out (Nat.le_trans hb.size (below_alloc w2 (.cells #[.int .u64 q.gen, .int .i64 q.at_, .int .i64 q.len, .int .i64 q.long, .int .u32 q.sum, .int .u64 q.next] 27)).size); clear Q2 hb))
              go_roundw
              case rel => exact ⟨i + 1, by go_num, by omega, hide (((HX2.out.other (by simp)).other (by simp)).other (by simp) |>.other (by simp) |>.other (by simp) |>.other (by simp)), hide (by rw [HPK.out, if_pos ⟨by first | trivial | rfl, hg, hb⟩]; exact RB.laid HQ2.out), hide (below_laid HB2.out (by omega)), hide (Nat.le_trans HS2.out (by simp))⟩
              case measure => simp [intOf]; omega
            · have hbz : ¬ ((bestU d i).gen : Int) < (q.gen : Int) := by omega
              go_wp2_with (first
                | (go_at_call 25; (with_reducible refine (rd _ (HRd.out.below HB.out)).mono ?_); rintro e w1 ⟨Ay, ny, cy, rfl, ho, hb⟩; have HY := hide ho; have hny : ny ≤ 300000 := (by have h1 : (readB d (i : Int)).length = ny := ho.len; omega); have hcy : ny ≤ cy := ho.max; have HX1 := hide (HX.out.below hb); have HQ1 : Hid (RBr w1 (w.heap.size + 1) (bestU d i)) := hide (RB.below HQ.out hb); have HB1 := hide (Below.then_ HB.out hb HB.out.size); have HS1 := hide (Nat.le_trans HS.out hb.size); clear ho hb)
                | (go_at_call 13; (with_reducible refine (rc _ Ay ny cy HY.out.reads hny hcy (HWd.out.below HB1.out hp)).mono ?_); rintro e w2 ⟨rfl, hb⟩; have HX2 := hide ((HX1.out.below hb).alloc (.cells #[.int .u64 q.gen, .int .i64 q.at_, .int .i64 q.len, .int .i64 q.long, .int .u32 q.sum, .int .u64 q.next] 27)); have Q2 := RB.below (RB.below HQ1.out hb) (below_alloc w2 (.cells #[.int .u64 q.gen, .int .i64 q.at_, .int .i64 q.len, .int .i64 q.long, .int .u32 q.sum, .int .u64 q.next] 27)); have bb0 := Q2.c0; have bb1 := Q2.c1; have bb2 := Q2.c2; have bb3 := Q2.c3; have bb4 := Q2.c4; have bb5 := Q2.c5; have bf0 := Q2.f 0; have bf1 := Q2.f 1; have bf2 := Q2.f 2; have bf3 := Q2.f 3; have bf4 := Q2.f 4; have bf5 := Q2.f 5; have HQ2 := hide Q2; have HB2 := hide ((Below.then_ HB1.out hb HB1.out.size).alloc (Nat.le_trans HB1.out.size hb.size) (.cells #[.int .u64 q.gen, .int .i64 q.at_, .int .i64 q.len, .int .i64 q.long, .int .u32 q.sum, .int .u64 q.next] 27)); have HS2 : Hid (w.heap.size + 2 ≤ (w2.alloc (.cells #[.int .u64 q.gen, .int .i64 q.at_, .int .i64 q.len, .int .i64 q.long, .int .u32 q.sum, .int .u64 q.next] 27)).heap.size) := Nat.le_trans HS1.out (Nat.le_trans hb.size (below_alloc w2 (.cells #[.int .u64 q.gen, .int .i64 q.at_, .int .i64 q.len, .int .i64 q.long, .int .u32 q.sum, .int .u64 q.next] 27)).size); clear Q2 hb))
              go_roundw
              case rel => exact ⟨i + 1, by go_num, by omega, HX2, hide (by rw [HPK.out, if_neg (fun h => hb h.2.2)]; exact HQ2.out), HB2, HS2⟩
              case measure => simp [intOf]; omega
          · have hgz : ¬ (q.gen : Int) % 2 = (i : Int) := by omega
            go_wp2_with (first
              | (go_at_call 25; (with_reducible refine (rd _ (HRd.out.below HB.out)).mono ?_); rintro e w1 ⟨Ay, ny, cy, rfl, ho, hb⟩; have HY := hide ho; have hny : ny ≤ 300000 := (by have h1 : (readB d (i : Int)).length = ny := ho.len; omega); have hcy : ny ≤ cy := ho.max; have HX1 := hide (HX.out.below hb); have HQ1 : Hid (RBr w1 (w.heap.size + 1) (bestU d i)) := hide (RB.below HQ.out hb); have HB1 := hide (Below.then_ HB.out hb HB.out.size); have HS1 := hide (Nat.le_trans HS.out hb.size); clear ho hb)
              | (go_at_call 13; (with_reducible refine (rc _ Ay ny cy HY.out.reads hny hcy (HWd.out.below HB1.out hp)).mono ?_); rintro e w2 ⟨rfl, hb⟩; have HX2 := hide ((HX1.out.below hb).alloc (.cells #[.int .u64 q.gen, .int .i64 q.at_, .int .i64 q.len, .int .i64 q.long, .int .u32 q.sum, .int .u64 q.next] 27)); have Q2 := RB.below (RB.below HQ1.out hb) (below_alloc w2 (.cells #[.int .u64 q.gen, .int .i64 q.at_, .int .i64 q.len, .int .i64 q.long, .int .u32 q.sum, .int .u64 q.next] 27)); have bb0 := Q2.c0; have bb1 := Q2.c1; have bb2 := Q2.c2; have bb3 := Q2.c3; have bb4 := Q2.c4; have bb5 := Q2.c5; have bf0 := Q2.f 0; have bf1 := Q2.f 1; have bf2 := Q2.f 2; have bf3 := Q2.f 3; have bf4 := Q2.f 4; have bf5 := Q2.f 5; have HQ2 := hide Q2; have HB2 := hide ((Below.then_ HB1.out hb HB1.out.size).alloc (Nat.le_trans HB1.out.size hb.size) (.cells #[.int .u64 q.gen, .int .i64 q.at_, .int .i64 q.len, .int .i64 q.long, .int .u32 q.sum, .int .u64 q.next] 27)); have HS2 : Hid (w.heap.size + 2 ≤ (w2.alloc (.cells #[.int .u64 q.gen, .int .i64 q.at_, .int .i64 q.len, .int .i64 q.long, .int .u32 q.sum, .int .u64 q.next] 27)).heap.size) := Nat.le_trans HS1.out (Nat.le_trans hb.size (below_alloc w2 (.cells #[.int .u64 q.gen, .int .i64 q.at_, .int .i64 q.len, .int .i64 q.long, .int .u32 q.sum, .int .u64 q.next] 27)).size); clear Q2 hb))
            go_roundw
            case rel => exact ⟨i + 1, by go_num, by omega, HX2, hide (by rw [HPK.out, if_neg (fun h => hg h.2.1)]; exact HQ2.out), HB2, HS2⟩
            case measure => simp [intOf]; omega
        · have hxz : (x == 0) = false := by rw [beq_eq_false_iff_ne]; exact hx
          go_wp2_with (first
            | (go_at_call 25; (with_reducible refine (rd _ (HRd.out.below HB.out)).mono ?_); rintro e w1 ⟨Ay, ny, cy, rfl, ho, hb⟩; have HY := hide ho; have hny : ny ≤ 300000 := (by have h1 : (readB d (i : Int)).length = ny := ho.len; omega); have hcy : ny ≤ cy := ho.max; have HX1 := hide (HX.out.below hb); have HQ1 : Hid (RBr w1 (w.heap.size + 1) (bestU d i)) := hide (RB.below HQ.out hb); have HB1 := hide (Below.then_ HB.out hb HB.out.size); have HS1 := hide (Nat.le_trans HS.out hb.size); clear ho hb)
            | (go_at_call 13; (with_reducible refine (rc _ Ay ny cy HY.out.reads hny hcy (HWd.out.below HB1.out hp)).mono ?_); rintro e w2 ⟨rfl, hb⟩; have HX2 := hide ((HX1.out.below hb).alloc (.cells #[.int .u64 q.gen, .int .i64 q.at_, .int .i64 q.len, .int .i64 q.long, .int .u32 q.sum, .int .u64 q.next] 27)); have Q2 := RB.below (RB.below HQ1.out hb) (below_alloc w2 (.cells #[.int .u64 q.gen, .int .i64 q.at_, .int .i64 q.len, .int .i64 q.long, .int .u32 q.sum, .int .u64 q.next] 27)); have bb0 := Q2.c0; have bb1 := Q2.c1; have bb2 := Q2.c2; have bb3 := Q2.c3; have bb4 := Q2.c4; have bb5 := Q2.c5; have bf0 := Q2.f 0; have bf1 := Q2.f 1; have bf2 := Q2.f 2; have bf3 := Q2.f 3; have bf4 := Q2.f 4; have bf5 := Q2.f 5; have HQ2 := hide Q2; have HB2 := hide ((Below.then_ HB1.out hb HB1.out.size).alloc (Nat.le_trans HB1.out.size hb.size) (.cells #[.int .u64 q.gen, .int .i64 q.at_, .int .i64 q.len, .int .i64 q.long, .int .u32 q.sum, .int .u64 q.next] 27)); have HS2 : Hid (w.heap.size + 2 ≤ (w2.alloc (.cells #[.int .u64 q.gen, .int .i64 q.at_, .int .i64 q.len, .int .i64 q.long, .int .u32 q.sum, .int .u64 q.next] 27)).heap.size) := Nat.le_trans HS1.out (Nat.le_trans hb.size (below_alloc w2 (.cells #[.int .u64 q.gen, .int .i64 q.at_, .int .i64 q.len, .int .i64 q.long, .int .u32 q.sum, .int .u64 q.next] 27)).size); clear Q2 hb))
          go_roundw
          case rel => exact ⟨i + 1, by go_num, by omega, HX2, hide (by rw [HPK.out, if_neg (fun h => hx h.1)]; exact HQ2.out), HB2, HS2⟩
          case measure => simp [intOf]; omega
      · have hiz : ¬ (i : Int) < 2 := by omega
        obtain rfl : i = 2 := by omega
        have b0 := RB.c0 HQ.out
        have b1 := RB.c1 HQ.out
        have b2 := RB.c2 HQ.out
        have b3 := RB.c3 HQ.out
        have b4 := RB.c4 HQ.out
        have b5 := RB.c5 HQ.out
        have f0 := RB.f HQ.out 0
        have f1 := RB.f HQ.out 1
        have f2 := RB.f HQ.out 2
        have f3 := RB.f HQ.out 3
        have f4 := RB.f HQ.out 4
        have f5 := RB.f HQ.out 5
        by_cases h0 : (bestU d 2).gen = 0
        · have h0z : (((bestU d 2).gen : Int) == 0) = true := by rw [beq_iff_eq]; omega
          have HSF : Hid (findS d = (bestU d 2, 4)) := by show _ = _; unfold findS; rw [if_neg (by rw [HF.out]; simp), if_pos h0]
          clear h0
          go_wp2_with fail
          have hF := RB.laid (u0 := .int .u64 (bestU d 2).gen) (u1 := .int .i64 (bestU d 2).at_) (u2 := .int .i64 (bestU d 2).len) (u3 := .int .i64 (bestU d 2).long) (u4 := .int .u32 (bestU d 2).sum) (u5 := .int .u64 (bestU d 2).next) HQ.out
          have r0 := hF.c0
          have r1 := hF.c1
          have r2 := hF.c2
          have r3 := hF.c3
          have r4 := hF.c4
          have r5 := hF.c5
          unfold laidR at r0 r1 r2 r3 r4 r5
          rw [HSF.out]
          exact bodyPost_ret (v := .tuple #[.agg #[.int .u64 (bestU d 2).gen, .int .i64 (bestU d 2).at_, .int .i64 (bestU d 2).len, .int .i64 (bestU d 2).long, .int .u32 (bestU d 2).sum, .int .u64 (bestU d 2).next], .int .i64 4]) (by simp [results, Tryd.results17, go_sem, r0, r1, r2, r3, r4, r5]) rfl ⟨rfl, below_laid HB.out (by omega)⟩
        · have h0z : (((bestU d 2).gen : Int) == 0) = false := by rw [beq_eq_false_iff_ne]; omega
          have HSF : Hid (findS d = (bestU d 2, 0)) := by show _ = _; unfold findS; rw [if_neg (by rw [HF.out]; simp), if_neg h0]
          go_wp2_with fail
          have hF := RB.laid (u0 := .int .u64 (bestU d 2).gen) (u1 := .int .i64 (bestU d 2).at_) (u2 := .int .i64 (bestU d 2).len) (u3 := .int .i64 (bestU d 2).long) (u4 := .int .u32 (bestU d 2).sum) (u5 := .int .u64 (bestU d 2).next) HQ.out
          have r0 := hF.c0
          have r1 := hF.c1
          have r2 := hF.c2
          have r3 := hF.c3
          have r4 := hF.c4
          have r5 := hF.c5
          unfold laidR at r0 r1 r2 r3 r4 r5
          rw [HSF.out]
          exact bodyPost_ret (v := .tuple #[.agg #[.int .u64 (bestU d 2).gen, .int .i64 (bestU d 2).at_, .int .i64 (bestU d 2).len, .int .i64 (bestU d 2).long, .int .u32 (bestU d 2).sum, .int .u64 (bestU d 2).next], .int .i64 0]) (by simp [results, Tryd.results17, go_sem, r0, r1, r2, r3, r4, r5]) rfl ⟨rfl, below_laid HB.out (by omega)⟩
  · have hfz : (fitS d != 0) = true := by rw [bne_iff_ne]; exact hf
    have HS : Hid (findS d = (Rt.zero, fitS d)) := by show _ = _; unfold findS; rw [if_pos hf]
    go_enter Tryd.func17, Tryd.ntmps17
    go_wp2_with (first
      | (go_at_call 30; (with_reducible refine (fitarm _ HR0.out).mono ?_); rintro e w1 ⟨rfl, hb⟩; have Q1 : RB w1 (w.heap.size + 1) (.int .u64 0) (.int .i64 0) (.int .i64 0) (.int .i64 0) (.int .u32 0) (.int .u64 0) := RB.below HQ0.out hb; have q0 := Q1.c0; have q1 := Q1.c1; have q2 := Q1.c2; have q3 := Q1.c3; have q4 := Q1.c4; have q5 := Q1.c5; have f0 := Q1.f 0; have f1 := Q1.f 1; have f2 := Q1.f 2; have f3 := Q1.f 3; have f4 := Q1.f 4; have f5 := Q1.f 5; have HQ1 := hide Q1; have HB1 := hide (Below.then_ HB0.out hb HB0.out.size); clear hb Q1))
    have hF := HQ1.out.laid (u0 := .int .u64 0) (u1 := .int .i64 0) (u2 := .int .i64 0) (u3 := .int .i64 0) (u4 := .int .u32 0) (u5 := .int .u64 0)
    have r0 := hF.c0
    have r1 := hF.c1
    have r2 := hF.c2
    have r3 := hF.c3
    have r4 := hF.c4
    have r5 := hF.c5
    unfold laidR at r0 r1 r2 r3 r4 r5
    rw [HS.out]
    exact bodyPost_ret (v := .tuple #[.agg #[.int .u64 0, .int .i64 0, .int .i64 0, .int .i64 0, .int .u32 0, .int .u64 0], .int .i64 (fitS d)]) (by simp [results, Tryd.results17, go_sem, r0, r1, r2, r3, r4, r5]) rfl ⟨rfl, below_laid HB1.out (by omega)⟩
end Go.Proofs.YthhemdjggdgaaaaDoor
