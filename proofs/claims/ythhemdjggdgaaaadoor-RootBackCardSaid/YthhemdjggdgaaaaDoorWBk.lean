/- RootBack: what is written is read, the other way round too; no two roots have the same octets. -/
import Derived.Test.YthhemdjggdgaaaaDoorRlive
import Derived.Test.YthhemdjggdgaaaaDoorSame
import Derived.Test.YthhemdjggdgaaaaDoorReq
import Derived.BigQuiet
namespace Go.Proofs.YthhemdjggdgaaaaDoor
open Go.RowKit
set_option linter.unusedVariables false

theorem octs_inj {r s : Rt} (hr : RGood r) (hs : RGood s) (h1 : r.sum < 4294967296) (h2 : s.sum < 4294967296) (h : octs r.nums = octs s.nums) : r = s := by
  have e1 := of_octs hr h1
  have e2 := of_octs hs h2
  rw [h, e2] at e1
  exact (congrArg Prod.fst e1).symm
set_option maxRecDepth 100000 in
set_option maxHeartbeats 4000000 in
theorem backW (w : World) (r s : Rt) (A : Option Addr) (n c : Nat) (b : Bs) (hs1 : r.sum < 4294967296) (hs2 : s.sum < 4294967296) (hb : BR w A n b) (hn0 : n ≤ maxLen) (hc : n ≤ c) (hw : Wd w) :
    Calls Tryd.prog 4 #[rtv r, rtv s, .slice A n c] w fun e w' => e = .returned (.bool true) ∧ Below w.heap.size w w' := by
  have HWd := hide hw
  have hp := hw.pos
  have HBR := hide hb
  clear hw hb
  have larm := fun (w : World) (h : Wd w) => rlive_any w h
  obtain ⟨W0, hW0⟩ : ∃ W0, W0 = (w.alloc (.cells #[.int .u64 r.gen, .int .i64 r.at_, .int .i64 r.len, .int .i64 r.long, .int .u32 r.sum, .int .u64 r.next] 27)).alloc (.cells #[.int .u64 s.gen, .int .i64 s.at_, .int .i64 s.len, .int .i64 s.long, .int .u32 s.sum, .int .u64 s.next] 27) := ⟨_, rfl⟩
  have HQ0 : Hid (RBr W0 w.heap.size r) := by rw [hW0]; exact RB.below (RB.made w _ _ _ _ _ _) (below_alloc _ _)
  have HT0 : Hid (RBr W0 (w.heap.size + 1) s) := by
    rw [hW0]
    have := RB.made (w.alloc (.cells #[.int .u64 r.gen, .int .i64 r.at_, .int .i64 r.len, .int .i64 r.long, .int .u32 r.sum, .int .u64 r.next] 27)) (.int .u64 s.gen) (.int .i64 s.at_) (.int .i64 s.len) (.int .i64 s.long) (.int .u32 s.sum) (.int .u64 s.next)
    rw [box_size] at this
    exact this
  have HB0 : Hid (Below w.heap.size w W0) := by rw [hW0]; exact below_alloc2 w _ _
  rw [hW0] at HQ0 HT0 HB0
  clear hW0

  by_cases q1 : 100 < n
  · have q1z : (100 : Int) < (n : Int) := by omega
    unfold rtv
    go_enter Tryd.func4, Tryd.ntmps4
    go_wp2_with (first
      | (go_at_call 8; (with_reducible refine (larm _ (HWd.out.below HB0.out hp)).mono ?_); rintro e w1 ⟨rfl, hb⟩; have HQ : Hid (RBr w1 w.heap.size r) := hide (RB.below HQ0.out hb); have HT : Hid (RBr w1 (w.heap.size + 1) _) := hide (RB.below HT0.out hb); have HB := hide (Below.then_ HB0.out hb HB0.out.size); clear hb))
    go_ret
    exact ⟨rfl, HB.out⟩
  · have q1z : ¬ (100 : Int) < (n : Int) := by omega
    have hn : n ≤ 300000 := by omega
    obtain ⟨x, ex, hx⟩ : ∃ x ex, ofS b = (x, ex) := ⟨_, _, rfl⟩
    have ofarm : ∀ (w : World), BR w A n b → Wd w → Calls Tryd.prog 13 #[.slice A n c] w fun e w' => e = .returned (.tuple #[.agg #[.int .u64 x.gen, .int .i64 x.at_, .int .i64 x.len, .int .i64 x.long, .int .u32 x.sum, .int .u64 x.next], .int .i64 ex]) ∧ Below w.heap.size w w' := by
      intro w h1 h2
      have h3 := rtof_any w A n c b h1 hn hc h2
      rw [hx] at h3
      exact h3
    have ocr := fun (w : World) (h : Wd w) => rtoct_any w r hs1 h
    have ocs := fun (w : World) (h : Wd w) => rtoct_any w s hs2 h
    have ckr := fun (w : World) => rtcheck_any w r
    have HN0 := hide hn
    by_cases hex : ex = 0
    · subst hex
      obtain ⟨x1, x2, x3⟩ := octs_of hx
      have hsx : x.sum < 4294967296 := by
        have h := hx
        unfold ofS at h
        by_cases hk : b.length = 32 ∧ octS (parse (strip b 8)) = (b, 0)
        · rw [if_pos hk] at h
          have e : parse (strip b 8) = x := congrArg Prod.fst h
          rw [← e]
          have := leU_lt (bs := (strip b 8).drop 13) (k := 4) (by rw [List.length_drop, strip_len hk.1 8 (Nat.le_refl _)]; omega)
          exact this
        · rw [if_neg hk] at h; have := congrArg Prod.snd h; simp at this
      have ocx := fun (w : World) (h : Wd w) => rtoct_any w x hsx h
      rw [x1] at ocx
      have ckx := fun (w : World) => rtcheck_any w x
      rw [rchk_zero x2] at ckx
      clear hx x1 x2 x3 hsx
      unfold rtv at ocx ckx
      by_cases hr : RGood r
      · obtain ⟨ts, hts⟩ : ∃ ts, octs r.nums = ts := ⟨_, rfl⟩
        rw [octS_ok hr, hts] at ocr
        have HTS : Hid (ts.length = 32) := by show _ = _; rw [← hts]; exact octs_len _
        have oft : ∀ (w : World) (A : Option Addr) (c : Nat), BR w A 32 ts → 32 ≤ c → Wd w → Calls Tryd.prog 13 #[.slice A 32 c] w fun e w' => e = .returned (.tuple #[.agg #[.int .u64 r.gen, .int .i64 r.at_, .int .i64 r.len, .int .i64 r.long, .int .u32 r.sum, .int .u64 r.next], .int .i64 0]) ∧ Below w.heap.size w w' := by
          intro w A c h1 h2 h3
          have h4 := rtof_any w A 32 c ts h1 (by omega) h2 h3
          rw [← hts, of_octs hr hs1] at h4
          exact h4
        by_cases hs : RGood s
        · obtain ⟨us, hus⟩ : ∃ us, octs s.nums = us := ⟨_, rfl⟩
          rw [octS_ok hs, hus] at ocs
          by_cases hrs : r = s
          · have hts2 : ts = us := by rw [← hts, ← hus, hrs]
            have sb : ∀ (w : World) (A B : Option Addr) (n m c d : Nat), BR w A n ts → BR w B m us → Calls Tryd.prog 19 #[.slice A n c, .slice B m d] w fun e w' => e = .returned (.bool true) ∧ w = w' := fun w A B n m c d h1 h2 => by have := sameB_any w A B n m c d ts us h1 h2; rw [decide_eq_true hts2] at this; exact this
            clear hts hus hts2 hr hs
            subst hrs
            have E1 := eqR_self r
            unfold rtv at ocr ocs ckr ⊢
            go_enter Tryd.func4, Tryd.ntmps4
            go_wp2_with (first
              | (go_at_call 8; (with_reducible refine (larm _ (HWd.out.below HB0.out hp)).mono ?_); rintro e w1 ⟨rfl, hb⟩; have HQ : Hid (RBr w1 w.heap.size r) := hide (RB.below HQ0.out hb); have HT : Hid (RBr w1 (w.heap.size + 1) _) := hide (RB.below HT0.out hb); have HB := hide (Below.then_ HB0.out hb HB0.out.size); clear hb)
              | (go_at_call 13; (with_reducible refine (ofarm _ (HBR.out.below HB.out) (HWd.out.below HB.out hp)).mono ?_); rintro e w2 ⟨rfl, hb⟩; replace HQ := hide (RB.below (RB.below HQ.out hb) (below_alloc _ (.cells #[.int .u64 x.gen, .int .i64 x.at_, .int .i64 x.len, .int .i64 x.long, .int .u32 x.sum, .int .u64 x.next] 27))); replace HT := hide (RB.below (RB.below HT.out hb) (below_alloc _ (.cells #[.int .u64 x.gen, .int .i64 x.at_, .int .i64 x.len, .int .i64 x.long, .int .u32 x.sum, .int .u64 x.next] 27))); replace HB := hide ((Below.then_ HB.out hb HB.out.size).alloc (Nat.le_trans HB.out.size hb.size) (.cells #[.int .u64 x.gen, .int .i64 x.at_, .int .i64 x.len, .int .i64 x.long, .int .u32 x.sum, .int .u64 x.next] 27)); replace q0 := RB.c0 HQ.out; replace q1 := RB.c1 HQ.out; replace q2 := RB.c2 HQ.out; replace q3 := RB.c3 HQ.out; replace q4 := RB.c4 HQ.out; replace q5 := RB.c5 HQ.out; clear hb)
              | (go_at_call 11; (with_reducible refine (ocx _ (HWd.out.below HB.out hp)).mono ?_); rintro e w3 ⟨Ax, nx, cx, rfl, ho, hb⟩; have HXo := hide ho; have X2 := RB.below (RB.made w2 (.int .u64 x.gen) (.int .i64 x.at_) (.int .i64 x.len) (.int .i64 x.long) (.int .u32 x.sum) (.int .u64 x.next)) hb; replace x0 := RB.c0 X2; replace x1 := RB.c1 X2; replace x2 := RB.c2 X2; replace x3 := RB.c3 X2; replace x4 := RB.c4 X2; replace x5 := RB.c5 X2; have HX2 := hide X2; replace HQ := hide (RB.below HQ.out hb); replace HT := hide (RB.below HT.out hb); replace HB := hide (Below.then_ HB.out hb HB.out.size); clear X2 ho hb)
              | (go_at_call 19; (with_reducible refine (sameB_any _ Ax A nx n cx c b b HXo.out.reads (HBR.out.below HB.out)).mono ?_); rintro e w' ⟨rfl, rfl⟩; (try rw [decide_eq_true rfl]))
              | (go_at_call 21; (with_reducible refine (ckx _).mono ?_); rintro e w4 ⟨rfl, hb⟩; replace HQ := hide (RB.below HQ.out hb); replace HT := hide (RB.below HT.out hb); replace HB := hide (Below.then_ HB.out hb HB.out.size); replace q0 := RB.c0 HQ.out; replace q1 := RB.c1 HQ.out; replace q2 := RB.c2 HQ.out; replace q3 := RB.c3 HQ.out; replace q4 := RB.c4 HQ.out; replace q5 := RB.c5 HQ.out; clear hb)
              | (go_at_call 11; (with_reducible refine (ocs _ (HWd.out.below HB.out hp)).mono ?_); rintro e w6 ⟨Au, nu, cu, rfl, ho, hb⟩; have HUo := hide ho; replace HTo := hide (HTo.out.below hb); replace HQ := hide (RB.below HQ.out hb); replace HT := hide (RB.below HT.out hb); replace HB := hide (Below.then_ HB.out hb HB.out.size); replace q0 := RB.c0 HQ.out; replace q1 := RB.c1 HQ.out; replace q2 := RB.c2 HQ.out; replace q3 := RB.c3 HQ.out; replace q4 := RB.c4 HQ.out; replace q5 := RB.c5 HQ.out; clear ho hb)
              | (go_at_call 11; (with_reducible refine (ocr _ (HWd.out.below HB.out hp)).mono ?_); rintro e w5 ⟨At, nt, ct, rfl, ho, hb⟩; obtain rfl : 32 = nt := HTS.out.symm.trans ho.len; have HTo := hide ho; replace HQ := hide (RB.below HQ.out hb); replace HT := hide (RB.below HT.out hb); replace HB := hide (Below.then_ HB.out hb HB.out.size); replace t0 := RB.c0 HT.out; replace t1 := RB.c1 HT.out; replace t2 := RB.c2 HT.out; replace t3 := RB.c3 HT.out; replace t4 := RB.c4 HT.out; replace t5 := RB.c5 HT.out; clear ho hb)
              | (go_at_call 13; (with_reducible refine (oft _ At ct HTo.out.reads HTo.out.max (HWd.out.below HB.out hp)).mono ?_); rintro e w8 ⟨rfl, hb⟩; replace HTo := hide ((HTo.out.below hb).alloc (.cells #[.int .u64 r.gen, .int .i64 r.at_, .int .i64 r.len, .int .i64 r.long, .int .u32 r.sum, .int .u64 r.next] 27)); replace HUo := hide ((HUo.out.below hb).alloc (.cells #[.int .u64 r.gen, .int .i64 r.at_, .int .i64 r.len, .int .i64 r.long, .int .u32 r.sum, .int .u64 r.next] 27)); replace HQ := hide (RB.below (RB.below HQ.out hb) (below_alloc _ (.cells #[.int .u64 r.gen, .int .i64 r.at_, .int .i64 r.len, .int .i64 r.long, .int .u32 r.sum, .int .u64 r.next] 27))); replace HT := hide (RB.below (RB.below HT.out hb) (below_alloc _ (.cells #[.int .u64 r.gen, .int .i64 r.at_, .int .i64 r.len, .int .i64 r.long, .int .u32 r.sum, .int .u64 r.next] 27))); replace HB := hide ((Below.then_ HB.out hb HB.out.size).alloc (Nat.le_trans HB.out.size hb.size) (.cells #[.int .u64 r.gen, .int .i64 r.at_, .int .i64 r.len, .int .i64 r.long, .int .u32 r.sum, .int .u64 r.next] 27)); replace q0 := RB.c0 HQ.out; replace q1 := RB.c1 HQ.out; replace q2 := RB.c2 HQ.out; replace q3 := RB.c3 HQ.out; replace q4 := RB.c4 HQ.out; replace q5 := RB.c5 HQ.out; replace t0 := RB.c0 HT.out; replace t1 := RB.c1 HT.out; replace t2 := RB.c2 HT.out; replace t3 := RB.c3 HT.out; replace t4 := RB.c4 HT.out; replace t5 := RB.c5 HT.out; clear hb))
            go_quiet ((go_at_call 19; exact quiet_left (sb _ At Au 32 nu ct cu (HTo.out.reads.drewN _) (HUo.out.reads.drewN _))))
            go_wp2_with fail
            go_ret
            exact ⟨rfl, below_dr HB.out _⟩
          · have hne : ¬ ts = us := fun h => hrs (octs_inj hr hs hs1 hs2 (by rw [hts, hus, h]))
            have sb : ∀ (w : World) (A B : Option Addr) (n m c d : Nat), BR w A n ts → BR w B m us → Calls Tryd.prog 19 #[.slice A n c, .slice B m d] w fun e w' => e = .returned (.bool false) ∧ w = w' := fun w A B n m c d h1 h2 => by have := sameB_any w A B n m c d ts us h1 h2; rw [decide_eq_false hne] at this; exact this
            have E2 := eqR_ne hrs
            clear hts hus hne hr hs hrs
            have E1 := eqR_self r
            unfold rtv at ocr ocs ckr ⊢
            go_enter Tryd.func4, Tryd.ntmps4
            go_wp2_with (first
              | (go_at_call 8; (with_reducible refine (larm _ (HWd.out.below HB0.out hp)).mono ?_); rintro e w1 ⟨rfl, hb⟩; have HQ : Hid (RBr w1 w.heap.size r) := hide (RB.below HQ0.out hb); have HT : Hid (RBr w1 (w.heap.size + 1) _) := hide (RB.below HT0.out hb); have HB := hide (Below.then_ HB0.out hb HB0.out.size); clear hb)
              | (go_at_call 13; (with_reducible refine (ofarm _ (HBR.out.below HB.out) (HWd.out.below HB.out hp)).mono ?_); rintro e w2 ⟨rfl, hb⟩; replace HQ := hide (RB.below (RB.below HQ.out hb) (below_alloc _ (.cells #[.int .u64 x.gen, .int .i64 x.at_, .int .i64 x.len, .int .i64 x.long, .int .u32 x.sum, .int .u64 x.next] 27))); replace HT := hide (RB.below (RB.below HT.out hb) (below_alloc _ (.cells #[.int .u64 x.gen, .int .i64 x.at_, .int .i64 x.len, .int .i64 x.long, .int .u32 x.sum, .int .u64 x.next] 27))); replace HB := hide ((Below.then_ HB.out hb HB.out.size).alloc (Nat.le_trans HB.out.size hb.size) (.cells #[.int .u64 x.gen, .int .i64 x.at_, .int .i64 x.len, .int .i64 x.long, .int .u32 x.sum, .int .u64 x.next] 27)); replace q0 := RB.c0 HQ.out; replace q1 := RB.c1 HQ.out; replace q2 := RB.c2 HQ.out; replace q3 := RB.c3 HQ.out; replace q4 := RB.c4 HQ.out; replace q5 := RB.c5 HQ.out; clear hb)
              | (go_at_call 11; (with_reducible refine (ocx _ (HWd.out.below HB.out hp)).mono ?_); rintro e w3 ⟨Ax, nx, cx, rfl, ho, hb⟩; have HXo := hide ho; have X2 := RB.below (RB.made w2 (.int .u64 x.gen) (.int .i64 x.at_) (.int .i64 x.len) (.int .i64 x.long) (.int .u32 x.sum) (.int .u64 x.next)) hb; replace x0 := RB.c0 X2; replace x1 := RB.c1 X2; replace x2 := RB.c2 X2; replace x3 := RB.c3 X2; replace x4 := RB.c4 X2; replace x5 := RB.c5 X2; have HX2 := hide X2; replace HQ := hide (RB.below HQ.out hb); replace HT := hide (RB.below HT.out hb); replace HB := hide (Below.then_ HB.out hb HB.out.size); clear X2 ho hb)
              | (go_at_call 19; (with_reducible refine (sameB_any _ Ax A nx n cx c b b HXo.out.reads (HBR.out.below HB.out)).mono ?_); rintro e w' ⟨rfl, rfl⟩; (try rw [decide_eq_true rfl]))
              | (go_at_call 21; (with_reducible refine (ckx _).mono ?_); rintro e w4 ⟨rfl, hb⟩; replace HQ := hide (RB.below HQ.out hb); replace HT := hide (RB.below HT.out hb); replace HB := hide (Below.then_ HB.out hb HB.out.size); replace q0 := RB.c0 HQ.out; replace q1 := RB.c1 HQ.out; replace q2 := RB.c2 HQ.out; replace q3 := RB.c3 HQ.out; replace q4 := RB.c4 HQ.out; replace q5 := RB.c5 HQ.out; clear hb)
              | (go_at_call 11; (with_reducible refine (ocs _ (HWd.out.below HB.out hp)).mono ?_); rintro e w6 ⟨Au, nu, cu, rfl, ho, hb⟩; have HUo := hide ho; replace HTo := hide (HTo.out.below hb); replace HQ := hide (RB.below HQ.out hb); replace HT := hide (RB.below HT.out hb); replace HB := hide (Below.then_ HB.out hb HB.out.size); replace q0 := RB.c0 HQ.out; replace q1 := RB.c1 HQ.out; replace q2 := RB.c2 HQ.out; replace q3 := RB.c3 HQ.out; replace q4 := RB.c4 HQ.out; replace q5 := RB.c5 HQ.out; clear ho hb)
              | (go_at_call 11; (with_reducible refine (ocr _ (HWd.out.below HB.out hp)).mono ?_); rintro e w5 ⟨At, nt, ct, rfl, ho, hb⟩; obtain rfl : 32 = nt := HTS.out.symm.trans ho.len; have HTo := hide ho; replace HQ := hide (RB.below HQ.out hb); replace HT := hide (RB.below HT.out hb); replace HB := hide (Below.then_ HB.out hb HB.out.size); replace t0 := RB.c0 HT.out; replace t1 := RB.c1 HT.out; replace t2 := RB.c2 HT.out; replace t3 := RB.c3 HT.out; replace t4 := RB.c4 HT.out; replace t5 := RB.c5 HT.out; clear ho hb)
              | (go_at_call 13; (with_reducible refine (oft _ At ct HTo.out.reads HTo.out.max (HWd.out.below HB.out hp)).mono ?_); rintro e w8 ⟨rfl, hb⟩; replace HTo := hide ((HTo.out.below hb).alloc (.cells #[.int .u64 r.gen, .int .i64 r.at_, .int .i64 r.len, .int .i64 r.long, .int .u32 r.sum, .int .u64 r.next] 27)); replace HUo := hide ((HUo.out.below hb).alloc (.cells #[.int .u64 r.gen, .int .i64 r.at_, .int .i64 r.len, .int .i64 r.long, .int .u32 r.sum, .int .u64 r.next] 27)); replace HQ := hide (RB.below (RB.below HQ.out hb) (below_alloc _ (.cells #[.int .u64 r.gen, .int .i64 r.at_, .int .i64 r.len, .int .i64 r.long, .int .u32 r.sum, .int .u64 r.next] 27))); replace HT := hide (RB.below (RB.below HT.out hb) (below_alloc _ (.cells #[.int .u64 r.gen, .int .i64 r.at_, .int .i64 r.len, .int .i64 r.long, .int .u32 r.sum, .int .u64 r.next] 27))); replace HB := hide ((Below.then_ HB.out hb HB.out.size).alloc (Nat.le_trans HB.out.size hb.size) (.cells #[.int .u64 r.gen, .int .i64 r.at_, .int .i64 r.len, .int .i64 r.long, .int .u32 r.sum, .int .u64 r.next] 27)); replace q0 := RB.c0 HQ.out; replace q1 := RB.c1 HQ.out; replace q2 := RB.c2 HQ.out; replace q3 := RB.c3 HQ.out; replace q4 := RB.c4 HQ.out; replace q5 := RB.c5 HQ.out; replace t0 := RB.c0 HT.out; replace t1 := RB.c1 HT.out; replace t2 := RB.c2 HT.out; replace t3 := RB.c3 HT.out; replace t4 := RB.c4 HT.out; replace t5 := RB.c5 HT.out; clear hb))
            go_quiet ((go_at_call 19; exact quiet_left (sb _ At Au 32 nu ct cu (HTo.out.reads.drewN _) (HUo.out.reads.drewN _))))
            go_wp2_with fail
            go_ret
            exact ⟨rfl, below_dr HB.out _⟩
        · rw [octS_bad hs] at ocs
          clear hts hr hs
          unfold rtv at ocr ocs ckr ⊢
          go_enter Tryd.func4, Tryd.ntmps4
          go_wp2_with (first
            | (go_at_call 8; (with_reducible refine (larm _ (HWd.out.below HB0.out hp)).mono ?_); rintro e w1 ⟨rfl, hb⟩; have HQ : Hid (RBr w1 w.heap.size r) := hide (RB.below HQ0.out hb); have HT : Hid (RBr w1 (w.heap.size + 1) _) := hide (RB.below HT0.out hb); have HB := hide (Below.then_ HB0.out hb HB0.out.size); clear hb)
            | (go_at_call 13; (with_reducible refine (ofarm _ (HBR.out.below HB.out) (HWd.out.below HB.out hp)).mono ?_); rintro e w2 ⟨rfl, hb⟩; replace HQ := hide (RB.below (RB.below HQ.out hb) (below_alloc _ (.cells #[.int .u64 x.gen, .int .i64 x.at_, .int .i64 x.len, .int .i64 x.long, .int .u32 x.sum, .int .u64 x.next] 27))); replace HT := hide (RB.below (RB.below HT.out hb) (below_alloc _ (.cells #[.int .u64 x.gen, .int .i64 x.at_, .int .i64 x.len, .int .i64 x.long, .int .u32 x.sum, .int .u64 x.next] 27))); replace HB := hide ((Below.then_ HB.out hb HB.out.size).alloc (Nat.le_trans HB.out.size hb.size) (.cells #[.int .u64 x.gen, .int .i64 x.at_, .int .i64 x.len, .int .i64 x.long, .int .u32 x.sum, .int .u64 x.next] 27)); replace q0 := RB.c0 HQ.out; replace q1 := RB.c1 HQ.out; replace q2 := RB.c2 HQ.out; replace q3 := RB.c3 HQ.out; replace q4 := RB.c4 HQ.out; replace q5 := RB.c5 HQ.out; clear hb)
            | (go_at_call 11; (with_reducible refine (ocx _ (HWd.out.below HB.out hp)).mono ?_); rintro e w3 ⟨Ax, nx, cx, rfl, ho, hb⟩; have HXo := hide ho; have X2 := RB.below (RB.made w2 (.int .u64 x.gen) (.int .i64 x.at_) (.int .i64 x.len) (.int .i64 x.long) (.int .u32 x.sum) (.int .u64 x.next)) hb; replace x0 := RB.c0 X2; replace x1 := RB.c1 X2; replace x2 := RB.c2 X2; replace x3 := RB.c3 X2; replace x4 := RB.c4 X2; replace x5 := RB.c5 X2; have HX2 := hide X2; replace HQ := hide (RB.below HQ.out hb); replace HT := hide (RB.below HT.out hb); replace HB := hide (Below.then_ HB.out hb HB.out.size); clear X2 ho hb)
            | (go_at_call 19; (with_reducible refine (sameB_any _ Ax A nx n cx c b b HXo.out.reads (HBR.out.below HB.out)).mono ?_); rintro e w' ⟨rfl, rfl⟩; (try rw [decide_eq_true rfl]))
            | (go_at_call 21; (with_reducible refine (ckx _).mono ?_); rintro e w4 ⟨rfl, hb⟩; replace HQ := hide (RB.below HQ.out hb); replace HT := hide (RB.below HT.out hb); replace HB := hide (Below.then_ HB.out hb HB.out.size); replace q0 := RB.c0 HQ.out; replace q1 := RB.c1 HQ.out; replace q2 := RB.c2 HQ.out; replace q3 := RB.c3 HQ.out; replace q4 := RB.c4 HQ.out; replace q5 := RB.c5 HQ.out; clear hb)
            | (go_at_call 11; (with_reducible refine (ocr _ (HWd.out.below HB.out hp)).mono ?_); rintro e w5 ⟨At, nt, ct, rfl, ho, hb⟩; obtain rfl : 32 = nt := HTS.out.symm.trans ho.len; have HTo := hide ho; replace HQ := hide (RB.below HQ.out hb); replace HT := hide (RB.below HT.out hb); replace HB := hide (Below.then_ HB.out hb HB.out.size); replace t0 := RB.c0 HT.out; replace t1 := RB.c1 HT.out; replace t2 := RB.c2 HT.out; replace t3 := RB.c3 HT.out; replace t4 := RB.c4 HT.out; replace t5 := RB.c5 HT.out; clear ho hb)
            | (go_at_call 11; (with_reducible refine (ocs _ (HWd.out.below HB.out hp)).mono ?_); rintro e w6 ⟨Au, nu, cu, rfl, ho, hb⟩; have HUo := hide ho; replace HTo := hide (HTo.out.below hb); replace HQ := hide (RB.below HQ.out hb); replace HT := hide (RB.below HT.out hb); replace HB := hide (Below.then_ HB.out hb HB.out.size); replace q0 := RB.c0 HQ.out; replace q1 := RB.c1 HQ.out; replace q2 := RB.c2 HQ.out; replace q3 := RB.c3 HQ.out; replace q4 := RB.c4 HQ.out; replace q5 := RB.c5 HQ.out; clear ho hb)
            | (go_at_call 13; (with_reducible refine (oft _ At ct HTo.out.reads HTo.out.max (HWd.out.below HB.out hp)).mono ?_); rintro e w8 ⟨rfl, hb⟩; replace HTo := hide ((HTo.out.below hb).alloc (.cells #[.int .u64 r.gen, .int .i64 r.at_, .int .i64 r.len, .int .i64 r.long, .int .u32 r.sum, .int .u64 r.next] 27)); replace HUo := hide ((HUo.out.below hb).alloc (.cells #[.int .u64 r.gen, .int .i64 r.at_, .int .i64 r.len, .int .i64 r.long, .int .u32 r.sum, .int .u64 r.next] 27)); replace HQ := hide (RB.below (RB.below HQ.out hb) (below_alloc _ (.cells #[.int .u64 r.gen, .int .i64 r.at_, .int .i64 r.len, .int .i64 r.long, .int .u32 r.sum, .int .u64 r.next] 27))); replace HT := hide (RB.below (RB.below HT.out hb) (below_alloc _ (.cells #[.int .u64 r.gen, .int .i64 r.at_, .int .i64 r.len, .int .i64 r.long, .int .u32 r.sum, .int .u64 r.next] 27))); replace HB := hide ((Below.then_ HB.out hb HB.out.size).alloc (Nat.le_trans HB.out.size hb.size) (.cells #[.int .u64 r.gen, .int .i64 r.at_, .int .i64 r.len, .int .i64 r.long, .int .u32 r.sum, .int .u64 r.next] 27)); replace q0 := RB.c0 HQ.out; replace q1 := RB.c1 HQ.out; replace q2 := RB.c2 HQ.out; replace q3 := RB.c3 HQ.out; replace q4 := RB.c4 HQ.out; replace q5 := RB.c5 HQ.out; replace t0 := RB.c0 HT.out; replace t1 := RB.c1 HT.out; replace t2 := RB.c2 HT.out; replace t3 := RB.c3 HT.out; replace t4 := RB.c4 HT.out; replace t5 := RB.c5 HT.out; clear hb))
          go_quiet (fail)
          go_wp2_with fail
          go_ret
          exact ⟨rfl, below_dr HB.out _⟩
      · obtain ⟨us, fs, hus⟩ : ∃ us fs, octS s = (us, fs) := ⟨_, _, rfl⟩
        rw [octS_bad hr] at ocr
        rw [hus] at ocs
        rw [rchk_one hr] at ckr
        clear hus hr
        unfold rtv at ocr ocs ckr ⊢
        go_enter Tryd.func4, Tryd.ntmps4
        go_wp2_with (first
          | (go_at_call 8; (with_reducible refine (larm _ (HWd.out.below HB0.out hp)).mono ?_); rintro e w1 ⟨rfl, hb⟩; have HQ : Hid (RBr w1 w.heap.size r) := hide (RB.below HQ0.out hb); have HT : Hid (RBr w1 (w.heap.size + 1) _) := hide (RB.below HT0.out hb); have HB := hide (Below.then_ HB0.out hb HB0.out.size); clear hb)
          | (go_at_call 13; (with_reducible refine (ofarm _ (HBR.out.below HB.out) (HWd.out.below HB.out hp)).mono ?_); rintro e w2 ⟨rfl, hb⟩; replace HQ := hide (RB.below (RB.below HQ.out hb) (below_alloc _ (.cells #[.int .u64 x.gen, .int .i64 x.at_, .int .i64 x.len, .int .i64 x.long, .int .u32 x.sum, .int .u64 x.next] 27))); replace HT := hide (RB.below (RB.below HT.out hb) (below_alloc _ (.cells #[.int .u64 x.gen, .int .i64 x.at_, .int .i64 x.len, .int .i64 x.long, .int .u32 x.sum, .int .u64 x.next] 27))); replace HB := hide ((Below.then_ HB.out hb HB.out.size).alloc (Nat.le_trans HB.out.size hb.size) (.cells #[.int .u64 x.gen, .int .i64 x.at_, .int .i64 x.len, .int .i64 x.long, .int .u32 x.sum, .int .u64 x.next] 27)); replace q0 := RB.c0 HQ.out; replace q1 := RB.c1 HQ.out; replace q2 := RB.c2 HQ.out; replace q3 := RB.c3 HQ.out; replace q4 := RB.c4 HQ.out; replace q5 := RB.c5 HQ.out; clear hb)
          | (go_at_call 11; (with_reducible refine (ocx _ (HWd.out.below HB.out hp)).mono ?_); rintro e w3 ⟨Ax, nx, cx, rfl, ho, hb⟩; have HXo := hide ho; have X2 := RB.below (RB.made w2 (.int .u64 x.gen) (.int .i64 x.at_) (.int .i64 x.len) (.int .i64 x.long) (.int .u32 x.sum) (.int .u64 x.next)) hb; replace x0 := RB.c0 X2; replace x1 := RB.c1 X2; replace x2 := RB.c2 X2; replace x3 := RB.c3 X2; replace x4 := RB.c4 X2; replace x5 := RB.c5 X2; have HX2 := hide X2; replace HQ := hide (RB.below HQ.out hb); replace HT := hide (RB.below HT.out hb); replace HB := hide (Below.then_ HB.out hb HB.out.size); clear X2 ho hb)
          | (go_at_call 19; (with_reducible refine (sameB_any _ Ax A nx n cx c b b HXo.out.reads (HBR.out.below HB.out)).mono ?_); rintro e w' ⟨rfl, rfl⟩; (try rw [decide_eq_true rfl]))
          | (go_at_call 21; (with_reducible refine (ckx _).mono ?_); rintro e w4 ⟨rfl, hb⟩; replace HQ := hide (RB.below HQ.out hb); replace HT := hide (RB.below HT.out hb); replace HB := hide (Below.then_ HB.out hb HB.out.size); replace q0 := RB.c0 HQ.out; replace q1 := RB.c1 HQ.out; replace q2 := RB.c2 HQ.out; replace q3 := RB.c3 HQ.out; replace q4 := RB.c4 HQ.out; replace q5 := RB.c5 HQ.out; clear hb)
          | (go_at_call 11; (with_reducible refine (ocr _ (HWd.out.below HB.out hp)).mono ?_); rintro e w5 ⟨At, nt, ct, rfl, ho, hb⟩; obtain rfl : 0 = nt := ho.len; have HTo := hide ho; replace HQ := hide (RB.below HQ.out hb); replace HT := hide (RB.below HT.out hb); replace HB := hide (Below.then_ HB.out hb HB.out.size); replace t0 := RB.c0 HT.out; replace t1 := RB.c1 HT.out; replace t2 := RB.c2 HT.out; replace t3 := RB.c3 HT.out; replace t4 := RB.c4 HT.out; replace t5 := RB.c5 HT.out; clear ho hb)
          | (go_at_call 11; (with_reducible refine (ocs _ (HWd.out.below HB.out hp)).mono ?_); rintro e w6 ⟨Au, nu, cu, rfl, ho, hb⟩; have HUo := hide ho; replace HTo := hide (HTo.out.below hb); replace HQ := hide (RB.below HQ.out hb); replace HT := hide (RB.below HT.out hb); replace HB := hide (Below.then_ HB.out hb HB.out.size); replace q0 := RB.c0 HQ.out; replace q1 := RB.c1 HQ.out; replace q2 := RB.c2 HQ.out; replace q3 := RB.c3 HQ.out; replace q4 := RB.c4 HQ.out; replace q5 := RB.c5 HQ.out; clear ho hb)
          | (go_at_call 21; (with_reducible refine (ckr _).mono ?_); rintro e w7 ⟨rfl, hb⟩; replace HQ := hide (RB.below HQ.out hb); replace HT := hide (RB.below HT.out hb); replace HB := hide (Below.then_ HB.out hb HB.out.size); clear hb))
        go_ret
        exact ⟨rfl, HB.out⟩
    · have hexz : (ex == 0) = false := by rw [beq_eq_false_iff_ne]; exact hex
      clear hx
      by_cases hr : RGood r
      · obtain ⟨ts, hts⟩ : ∃ ts, octs r.nums = ts := ⟨_, rfl⟩
        rw [octS_ok hr, hts] at ocr
        have HTS : Hid (ts.length = 32) := by show _ = _; rw [← hts]; exact octs_len _
        have oft : ∀ (w : World) (A : Option Addr) (c : Nat), BR w A 32 ts → 32 ≤ c → Wd w → Calls Tryd.prog 13 #[.slice A 32 c] w fun e w' => e = .returned (.tuple #[.agg #[.int .u64 r.gen, .int .i64 r.at_, .int .i64 r.len, .int .i64 r.long, .int .u32 r.sum, .int .u64 r.next], .int .i64 0]) ∧ Below w.heap.size w w' := by
          intro w A c h1 h2 h3
          have h4 := rtof_any w A 32 c ts h1 (by omega) h2 h3
          rw [← hts, of_octs hr hs1] at h4
          exact h4
        by_cases hs : RGood s
        · obtain ⟨us, hus⟩ : ∃ us, octs s.nums = us := ⟨_, rfl⟩
          rw [octS_ok hs, hus] at ocs
          by_cases hrs : r = s
          · have hts2 : ts = us := by rw [← hts, ← hus, hrs]
            have sb : ∀ (w : World) (A B : Option Addr) (n m c d : Nat), BR w A n ts → BR w B m us → Calls Tryd.prog 19 #[.slice A n c, .slice B m d] w fun e w' => e = .returned (.bool true) ∧ w = w' := fun w A B n m c d h1 h2 => by have := sameB_any w A B n m c d ts us h1 h2; rw [decide_eq_true hts2] at this; exact this
            clear hts hus hts2 hr hs
            subst hrs
            have E1 := eqR_self r
            unfold rtv at ocr ocs ckr ⊢
            go_enter Tryd.func4, Tryd.ntmps4
            go_wp2_with (first
              | (go_at_call 8; (with_reducible refine (larm _ (HWd.out.below HB0.out hp)).mono ?_); rintro e w1 ⟨rfl, hb⟩; have HQ : Hid (RBr w1 w.heap.size r) := hide (RB.below HQ0.out hb); have HT : Hid (RBr w1 (w.heap.size + 1) _) := hide (RB.below HT0.out hb); have HB := hide (Below.then_ HB0.out hb HB0.out.size); clear hb)
              | (go_at_call 13; (with_reducible refine (ofarm _ (HBR.out.below HB.out) (HWd.out.below HB.out hp)).mono ?_); rintro e w2 ⟨rfl, hb⟩; replace HQ := hide (RB.below (RB.below HQ.out hb) (below_alloc _ (.cells #[.int .u64 x.gen, .int .i64 x.at_, .int .i64 x.len, .int .i64 x.long, .int .u32 x.sum, .int .u64 x.next] 27))); replace HT := hide (RB.below (RB.below HT.out hb) (below_alloc _ (.cells #[.int .u64 x.gen, .int .i64 x.at_, .int .i64 x.len, .int .i64 x.long, .int .u32 x.sum, .int .u64 x.next] 27))); replace HB := hide ((Below.then_ HB.out hb HB.out.size).alloc (Nat.le_trans HB.out.size hb.size) (.cells #[.int .u64 x.gen, .int .i64 x.at_, .int .i64 x.len, .int .i64 x.long, .int .u32 x.sum, .int .u64 x.next] 27)); replace q0 := RB.c0 HQ.out; replace q1 := RB.c1 HQ.out; replace q2 := RB.c2 HQ.out; replace q3 := RB.c3 HQ.out; replace q4 := RB.c4 HQ.out; replace q5 := RB.c5 HQ.out; clear hb)
              | (go_at_call 11; (with_reducible refine (ocs _ (HWd.out.below HB.out hp)).mono ?_); rintro e w6 ⟨Au, nu, cu, rfl, ho, hb⟩; have HUo := hide ho; replace HTo := hide (HTo.out.below hb); replace HQ := hide (RB.below HQ.out hb); replace HT := hide (RB.below HT.out hb); replace HB := hide (Below.then_ HB.out hb HB.out.size); replace q0 := RB.c0 HQ.out; replace q1 := RB.c1 HQ.out; replace q2 := RB.c2 HQ.out; replace q3 := RB.c3 HQ.out; replace q4 := RB.c4 HQ.out; replace q5 := RB.c5 HQ.out; clear ho hb)
              | (go_at_call 11; (with_reducible refine (ocr _ (HWd.out.below HB.out hp)).mono ?_); rintro e w5 ⟨At, nt, ct, rfl, ho, hb⟩; obtain rfl : 32 = nt := HTS.out.symm.trans ho.len; have HTo := hide ho; replace HQ := hide (RB.below HQ.out hb); replace HT := hide (RB.below HT.out hb); replace HB := hide (Below.then_ HB.out hb HB.out.size); replace t0 := RB.c0 HT.out; replace t1 := RB.c1 HT.out; replace t2 := RB.c2 HT.out; replace t3 := RB.c3 HT.out; replace t4 := RB.c4 HT.out; replace t5 := RB.c5 HT.out; clear ho hb)
              | (go_at_call 13; (with_reducible refine (oft _ At ct HTo.out.reads HTo.out.max (HWd.out.below HB.out hp)).mono ?_); rintro e w8 ⟨rfl, hb⟩; replace HTo := hide ((HTo.out.below hb).alloc (.cells #[.int .u64 r.gen, .int .i64 r.at_, .int .i64 r.len, .int .i64 r.long, .int .u32 r.sum, .int .u64 r.next] 27)); replace HUo := hide ((HUo.out.below hb).alloc (.cells #[.int .u64 r.gen, .int .i64 r.at_, .int .i64 r.len, .int .i64 r.long, .int .u32 r.sum, .int .u64 r.next] 27)); replace HQ := hide (RB.below (RB.below HQ.out hb) (below_alloc _ (.cells #[.int .u64 r.gen, .int .i64 r.at_, .int .i64 r.len, .int .i64 r.long, .int .u32 r.sum, .int .u64 r.next] 27))); replace HT := hide (RB.below (RB.below HT.out hb) (below_alloc _ (.cells #[.int .u64 r.gen, .int .i64 r.at_, .int .i64 r.len, .int .i64 r.long, .int .u32 r.sum, .int .u64 r.next] 27))); replace HB := hide ((Below.then_ HB.out hb HB.out.size).alloc (Nat.le_trans HB.out.size hb.size) (.cells #[.int .u64 r.gen, .int .i64 r.at_, .int .i64 r.len, .int .i64 r.long, .int .u32 r.sum, .int .u64 r.next] 27)); replace q0 := RB.c0 HQ.out; replace q1 := RB.c1 HQ.out; replace q2 := RB.c2 HQ.out; replace q3 := RB.c3 HQ.out; replace q4 := RB.c4 HQ.out; replace q5 := RB.c5 HQ.out; replace t0 := RB.c0 HT.out; replace t1 := RB.c1 HT.out; replace t2 := RB.c2 HT.out; replace t3 := RB.c3 HT.out; replace t4 := RB.c4 HT.out; replace t5 := RB.c5 HT.out; clear hb))
            go_quiet ((go_at_call 19; exact quiet_left (sb _ At Au 32 nu ct cu (HTo.out.reads.drewN _) (HUo.out.reads.drewN _))))
            go_wp2_with fail
            go_ret
            exact ⟨rfl, below_dr HB.out _⟩
          · have hne : ¬ ts = us := fun h => hrs (octs_inj hr hs hs1 hs2 (by rw [hts, hus, h]))
            have sb : ∀ (w : World) (A B : Option Addr) (n m c d : Nat), BR w A n ts → BR w B m us → Calls Tryd.prog 19 #[.slice A n c, .slice B m d] w fun e w' => e = .returned (.bool false) ∧ w = w' := fun w A B n m c d h1 h2 => by have := sameB_any w A B n m c d ts us h1 h2; rw [decide_eq_false hne] at this; exact this
            have E2 := eqR_ne hrs
            clear hts hus hne hr hs hrs
            have E1 := eqR_self r
            unfold rtv at ocr ocs ckr ⊢
            go_enter Tryd.func4, Tryd.ntmps4
            go_wp2_with (first
              | (go_at_call 8; (with_reducible refine (larm _ (HWd.out.below HB0.out hp)).mono ?_); rintro e w1 ⟨rfl, hb⟩; have HQ : Hid (RBr w1 w.heap.size r) := hide (RB.below HQ0.out hb); have HT : Hid (RBr w1 (w.heap.size + 1) _) := hide (RB.below HT0.out hb); have HB := hide (Below.then_ HB0.out hb HB0.out.size); clear hb)
              | (go_at_call 13; (with_reducible refine (ofarm _ (HBR.out.below HB.out) (HWd.out.below HB.out hp)).mono ?_); rintro e w2 ⟨rfl, hb⟩; replace HQ := hide (RB.below (RB.below HQ.out hb) (below_alloc _ (.cells #[.int .u64 x.gen, .int .i64 x.at_, .int .i64 x.len, .int .i64 x.long, .int .u32 x.sum, .int .u64 x.next] 27))); replace HT := hide (RB.below (RB.below HT.out hb) (below_alloc _ (.cells #[.int .u64 x.gen, .int .i64 x.at_, .int .i64 x.len, .int .i64 x.long, .int .u32 x.sum, .int .u64 x.next] 27))); replace HB := hide ((Below.then_ HB.out hb HB.out.size).alloc (Nat.le_trans HB.out.size hb.size) (.cells #[.int .u64 x.gen, .int .i64 x.at_, .int .i64 x.len, .int .i64 x.long, .int .u32 x.sum, .int .u64 x.next] 27)); replace q0 := RB.c0 HQ.out; replace q1 := RB.c1 HQ.out; replace q2 := RB.c2 HQ.out; replace q3 := RB.c3 HQ.out; replace q4 := RB.c4 HQ.out; replace q5 := RB.c5 HQ.out; clear hb)
              | (go_at_call 11; (with_reducible refine (ocs _ (HWd.out.below HB.out hp)).mono ?_); rintro e w6 ⟨Au, nu, cu, rfl, ho, hb⟩; have HUo := hide ho; replace HTo := hide (HTo.out.below hb); replace HQ := hide (RB.below HQ.out hb); replace HT := hide (RB.below HT.out hb); replace HB := hide (Below.then_ HB.out hb HB.out.size); replace q0 := RB.c0 HQ.out; replace q1 := RB.c1 HQ.out; replace q2 := RB.c2 HQ.out; replace q3 := RB.c3 HQ.out; replace q4 := RB.c4 HQ.out; replace q5 := RB.c5 HQ.out; clear ho hb)
              | (go_at_call 11; (with_reducible refine (ocr _ (HWd.out.below HB.out hp)).mono ?_); rintro e w5 ⟨At, nt, ct, rfl, ho, hb⟩; obtain rfl : 32 = nt := HTS.out.symm.trans ho.len; have HTo := hide ho; replace HQ := hide (RB.below HQ.out hb); replace HT := hide (RB.below HT.out hb); replace HB := hide (Below.then_ HB.out hb HB.out.size); replace t0 := RB.c0 HT.out; replace t1 := RB.c1 HT.out; replace t2 := RB.c2 HT.out; replace t3 := RB.c3 HT.out; replace t4 := RB.c4 HT.out; replace t5 := RB.c5 HT.out; clear ho hb)
              | (go_at_call 13; (with_reducible refine (oft _ At ct HTo.out.reads HTo.out.max (HWd.out.below HB.out hp)).mono ?_); rintro e w8 ⟨rfl, hb⟩; replace HTo := hide ((HTo.out.below hb).alloc (.cells #[.int .u64 r.gen, .int .i64 r.at_, .int .i64 r.len, .int .i64 r.long, .int .u32 r.sum, .int .u64 r.next] 27)); replace HUo := hide ((HUo.out.below hb).alloc (.cells #[.int .u64 r.gen, .int .i64 r.at_, .int .i64 r.len, .int .i64 r.long, .int .u32 r.sum, .int .u64 r.next] 27)); replace HQ := hide (RB.below (RB.below HQ.out hb) (below_alloc _ (.cells #[.int .u64 r.gen, .int .i64 r.at_, .int .i64 r.len, .int .i64 r.long, .int .u32 r.sum, .int .u64 r.next] 27))); replace HT := hide (RB.below (RB.below HT.out hb) (below_alloc _ (.cells #[.int .u64 r.gen, .int .i64 r.at_, .int .i64 r.len, .int .i64 r.long, .int .u32 r.sum, .int .u64 r.next] 27))); replace HB := hide ((Below.then_ HB.out hb HB.out.size).alloc (Nat.le_trans HB.out.size hb.size) (.cells #[.int .u64 r.gen, .int .i64 r.at_, .int .i64 r.len, .int .i64 r.long, .int .u32 r.sum, .int .u64 r.next] 27)); replace q0 := RB.c0 HQ.out; replace q1 := RB.c1 HQ.out; replace q2 := RB.c2 HQ.out; replace q3 := RB.c3 HQ.out; replace q4 := RB.c4 HQ.out; replace q5 := RB.c5 HQ.out; replace t0 := RB.c0 HT.out; replace t1 := RB.c1 HT.out; replace t2 := RB.c2 HT.out; replace t3 := RB.c3 HT.out; replace t4 := RB.c4 HT.out; replace t5 := RB.c5 HT.out; clear hb))
            go_quiet ((go_at_call 19; exact quiet_left (sb _ At Au 32 nu ct cu (HTo.out.reads.drewN _) (HUo.out.reads.drewN _))))
            go_wp2_with fail
            go_ret
            exact ⟨rfl, below_dr HB.out _⟩
        · rw [octS_bad hs] at ocs
          clear hts hr hs
          unfold rtv at ocr ocs ckr ⊢
          go_enter Tryd.func4, Tryd.ntmps4
          go_wp2_with (first
            | (go_at_call 8; (with_reducible refine (larm _ (HWd.out.below HB0.out hp)).mono ?_); rintro e w1 ⟨rfl, hb⟩; have HQ : Hid (RBr w1 w.heap.size r) := hide (RB.below HQ0.out hb); have HT : Hid (RBr w1 (w.heap.size + 1) _) := hide (RB.below HT0.out hb); have HB := hide (Below.then_ HB0.out hb HB0.out.size); clear hb)
            | (go_at_call 13; (with_reducible refine (ofarm _ (HBR.out.below HB.out) (HWd.out.below HB.out hp)).mono ?_); rintro e w2 ⟨rfl, hb⟩; replace HQ := hide (RB.below (RB.below HQ.out hb) (below_alloc _ (.cells #[.int .u64 x.gen, .int .i64 x.at_, .int .i64 x.len, .int .i64 x.long, .int .u32 x.sum, .int .u64 x.next] 27))); replace HT := hide (RB.below (RB.below HT.out hb) (below_alloc _ (.cells #[.int .u64 x.gen, .int .i64 x.at_, .int .i64 x.len, .int .i64 x.long, .int .u32 x.sum, .int .u64 x.next] 27))); replace HB := hide ((Below.then_ HB.out hb HB.out.size).alloc (Nat.le_trans HB.out.size hb.size) (.cells #[.int .u64 x.gen, .int .i64 x.at_, .int .i64 x.len, .int .i64 x.long, .int .u32 x.sum, .int .u64 x.next] 27)); replace q0 := RB.c0 HQ.out; replace q1 := RB.c1 HQ.out; replace q2 := RB.c2 HQ.out; replace q3 := RB.c3 HQ.out; replace q4 := RB.c4 HQ.out; replace q5 := RB.c5 HQ.out; clear hb)
            | (go_at_call 11; (with_reducible refine (ocr _ (HWd.out.below HB.out hp)).mono ?_); rintro e w5 ⟨At, nt, ct, rfl, ho, hb⟩; obtain rfl : 32 = nt := HTS.out.symm.trans ho.len; have HTo := hide ho; replace HQ := hide (RB.below HQ.out hb); replace HT := hide (RB.below HT.out hb); replace HB := hide (Below.then_ HB.out hb HB.out.size); replace t0 := RB.c0 HT.out; replace t1 := RB.c1 HT.out; replace t2 := RB.c2 HT.out; replace t3 := RB.c3 HT.out; replace t4 := RB.c4 HT.out; replace t5 := RB.c5 HT.out; clear ho hb)
            | (go_at_call 11; (with_reducible refine (ocs _ (HWd.out.below HB.out hp)).mono ?_); rintro e w6 ⟨Au, nu, cu, rfl, ho, hb⟩; have HUo := hide ho; replace HTo := hide (HTo.out.below hb); replace HQ := hide (RB.below HQ.out hb); replace HT := hide (RB.below HT.out hb); replace HB := hide (Below.then_ HB.out hb HB.out.size); replace q0 := RB.c0 HQ.out; replace q1 := RB.c1 HQ.out; replace q2 := RB.c2 HQ.out; replace q3 := RB.c3 HQ.out; replace q4 := RB.c4 HQ.out; replace q5 := RB.c5 HQ.out; clear ho hb)
            | (go_at_call 13; (with_reducible refine (oft _ At ct HTo.out.reads HTo.out.max (HWd.out.below HB.out hp)).mono ?_); rintro e w8 ⟨rfl, hb⟩; replace HTo := hide ((HTo.out.below hb).alloc (.cells #[.int .u64 r.gen, .int .i64 r.at_, .int .i64 r.len, .int .i64 r.long, .int .u32 r.sum, .int .u64 r.next] 27)); replace HUo := hide ((HUo.out.below hb).alloc (.cells #[.int .u64 r.gen, .int .i64 r.at_, .int .i64 r.len, .int .i64 r.long, .int .u32 r.sum, .int .u64 r.next] 27)); replace HQ := hide (RB.below (RB.below HQ.out hb) (below_alloc _ (.cells #[.int .u64 r.gen, .int .i64 r.at_, .int .i64 r.len, .int .i64 r.long, .int .u32 r.sum, .int .u64 r.next] 27))); replace HT := hide (RB.below (RB.below HT.out hb) (below_alloc _ (.cells #[.int .u64 r.gen, .int .i64 r.at_, .int .i64 r.len, .int .i64 r.long, .int .u32 r.sum, .int .u64 r.next] 27))); replace HB := hide ((Below.then_ HB.out hb HB.out.size).alloc (Nat.le_trans HB.out.size hb.size) (.cells #[.int .u64 r.gen, .int .i64 r.at_, .int .i64 r.len, .int .i64 r.long, .int .u32 r.sum, .int .u64 r.next] 27)); replace q0 := RB.c0 HQ.out; replace q1 := RB.c1 HQ.out; replace q2 := RB.c2 HQ.out; replace q3 := RB.c3 HQ.out; replace q4 := RB.c4 HQ.out; replace q5 := RB.c5 HQ.out; replace t0 := RB.c0 HT.out; replace t1 := RB.c1 HT.out; replace t2 := RB.c2 HT.out; replace t3 := RB.c3 HT.out; replace t4 := RB.c4 HT.out; replace t5 := RB.c5 HT.out; clear hb))
          go_quiet (fail)
          go_wp2_with fail
          go_ret
          exact ⟨rfl, below_dr HB.out _⟩
      · obtain ⟨us, fs, hus⟩ : ∃ us fs, octS s = (us, fs) := ⟨_, _, rfl⟩
        rw [octS_bad hr] at ocr
        rw [hus] at ocs
        rw [rchk_one hr] at ckr
        clear hus hr
        unfold rtv at ocr ocs ckr ⊢
        go_enter Tryd.func4, Tryd.ntmps4
        go_wp2_with (first
          | (go_at_call 8; (with_reducible refine (larm _ (HWd.out.below HB0.out hp)).mono ?_); rintro e w1 ⟨rfl, hb⟩; have HQ : Hid (RBr w1 w.heap.size r) := hide (RB.below HQ0.out hb); have HT : Hid (RBr w1 (w.heap.size + 1) _) := hide (RB.below HT0.out hb); have HB := hide (Below.then_ HB0.out hb HB0.out.size); clear hb)
          | (go_at_call 13; (with_reducible refine (ofarm _ (HBR.out.below HB.out) (HWd.out.below HB.out hp)).mono ?_); rintro e w2 ⟨rfl, hb⟩; replace HQ := hide (RB.below (RB.below HQ.out hb) (below_alloc _ (.cells #[.int .u64 x.gen, .int .i64 x.at_, .int .i64 x.len, .int .i64 x.long, .int .u32 x.sum, .int .u64 x.next] 27))); replace HT := hide (RB.below (RB.below HT.out hb) (below_alloc _ (.cells #[.int .u64 x.gen, .int .i64 x.at_, .int .i64 x.len, .int .i64 x.long, .int .u32 x.sum, .int .u64 x.next] 27))); replace HB := hide ((Below.then_ HB.out hb HB.out.size).alloc (Nat.le_trans HB.out.size hb.size) (.cells #[.int .u64 x.gen, .int .i64 x.at_, .int .i64 x.len, .int .i64 x.long, .int .u32 x.sum, .int .u64 x.next] 27)); replace q0 := RB.c0 HQ.out; replace q1 := RB.c1 HQ.out; replace q2 := RB.c2 HQ.out; replace q3 := RB.c3 HQ.out; replace q4 := RB.c4 HQ.out; replace q5 := RB.c5 HQ.out; clear hb)
          | (go_at_call 11; (with_reducible refine (ocr _ (HWd.out.below HB.out hp)).mono ?_); rintro e w5 ⟨At, nt, ct, rfl, ho, hb⟩; obtain rfl : 0 = nt := ho.len; have HTo := hide ho; replace HQ := hide (RB.below HQ.out hb); replace HT := hide (RB.below HT.out hb); replace HB := hide (Below.then_ HB.out hb HB.out.size); replace t0 := RB.c0 HT.out; replace t1 := RB.c1 HT.out; replace t2 := RB.c2 HT.out; replace t3 := RB.c3 HT.out; replace t4 := RB.c4 HT.out; replace t5 := RB.c5 HT.out; clear ho hb)
          | (go_at_call 11; (with_reducible refine (ocs _ (HWd.out.below HB.out hp)).mono ?_); rintro e w6 ⟨Au, nu, cu, rfl, ho, hb⟩; have HUo := hide ho; replace HTo := hide (HTo.out.below hb); replace HQ := hide (RB.below HQ.out hb); replace HT := hide (RB.below HT.out hb); replace HB := hide (Below.then_ HB.out hb HB.out.size); replace q0 := RB.c0 HQ.out; replace q1 := RB.c1 HQ.out; replace q2 := RB.c2 HQ.out; replace q3 := RB.c3 HQ.out; replace q4 := RB.c4 HQ.out; replace q5 := RB.c5 HQ.out; clear ho hb)
          | (go_at_call 21; (with_reducible refine (ckr _).mono ?_); rintro e w7 ⟨rfl, hb⟩; replace HQ := hide (RB.below HQ.out hb); replace HT := hide (RB.below HT.out hb); replace HB := hide (Below.then_ HB.out hb HB.out.size); clear hb))
        go_ret
        exact ⟨rfl, HB.out⟩
end Go.Proofs.YthhemdjggdgaaaaDoor
