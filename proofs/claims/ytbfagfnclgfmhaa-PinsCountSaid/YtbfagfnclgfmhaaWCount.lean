import Derived.Test.YtbfagfnclgfmhaaMap
import Derived.Test.YtbfagfnclgfmhaaWDoes
namespace Go.Proofs.Ytbfagfnclgfmhaa
set_option linter.unusedVariables false
open Go.RowKit

theorem open_z (w : World) (A : Option Addr) (n c : Nat) (ps : List Pin) (gen : Nat) (z : Int) (hz : z = (gen : Int)) (qs : List Pin) (x : Int) (h : openS ps gen = (qs, x)) (hr : PR w A n ps) (hn : n ≤ 1000) :
    Calls Try.prog 9 #[.slice A n c, .int .u64 z] w (IsPost w qs x) := by
  subst hz; exact open_is w A n c ps gen qs x h hr hn
theorem close_z (w : World) (A : Option Addr) (n c : Nat) (ps : List Pin) (gen : Nat) (z : Int) (hz : z = (gen : Int)) (qs : List Pin) (x : Int) (h : closeS ps gen = (qs, x)) (hr : PR w A n ps) (hn : n ≤ 1000) :
    Calls Try.prog 11 #[.slice A n c, .int .u64 z] w (IsPost w qs x) := by
  subst hz; exact close_is w A n c ps gen qs x h hr hn

theorem wf_some {q : Int} (h0 : -1000 ≤ q) (h1 : q ≤ 1000) : (Lit.int .i64 q).wf = true := by
  have e1 : IntKind.i64.min = -9223372036854775808 := rfl
  have e2 : IntKind.i64.max = 9223372036854775807 := rfl
  simp only [Lit.wf, e1, e2, Bool.and_eq_true, decide_eq_true_eq]; omega

set_option maxRecDepth 100000 in
set_option maxHeartbeats 4000000 in
theorem countW (w : World) (A : Option Addr) (n c : Nat) (xs : List Int) (hr : IR w A n xs) :
    Calls Try.prog 4 #[.slice A n c] w fun e w' => e = .returned (.bool true) ∧ Below w.heap.size w w' := by
  have HR := hide hr
  clear hr
  by_cases hn : n ≤ 60
  · have t1 : decide ((60 : Int) < (n : Int)) = false := decide_eq_false (by omega)
    have hmm := @run_makeMap Try.prog
    go_enter Try.func4, Try.ntmps4
    go_wp2_with (first | (go_at_call 8; refine (live_any _).mono ?_; rintro e w1 ⟨rfl, hb⟩; have HB1 := hide hb; replace HR := hide (HR.out.below hb); clear hb))
    go_loopw [4, 28] (fun u v wr => ∃ (k : Nat) (A1 : Option Addr) (n1 c1 : Nat) (ls : List Pin), u = .slice A1 n1 c1 ∧ v = .int .i64 k ∧ k ≤ n ∧ n1 ≤ 1000 ∧ Hid (Inv ls k) ∧ Hid (PR wr A1 n1 ls) ∧ Hid (MP wr w1.heap.size ls k) ∧ Hid (Below w1.heap.size w1 wr)) (fun _ v _ => n - (intOf v).toNat)
    case atStart => exact ⟨0, none, 0, 0, [], rfl, rfl, by omega, by omega, inv_nil, pr_nil _, MP.made w1, (Below.refl _ _).alloc (Nat.le_refl _) _⟩
    case round =>
      obtain ⟨k, A1, n1, c1, ls, rfl, rfl, hk, hn1, HI, HP, HM, HB⟩ := hrel
      by_cases hkn : k < n
      · have hkz : (k : Int) < (n : Int) := by omega
        obtain ⟨ad, x, rfl, cx, hx0, hx1⟩ := (HR.out.below HB.out).cell k hkn
        by_cases hx : x < 0
        · obtain ⟨y, rfl⟩ : ∃ y : Nat, x = -(y : Int) := ⟨(-x).toNat, by omega⟩
          have hy : y ≤ 128 := by omega
          have hy1 : 1 ≤ y := by omega
          have hm8 : y % 8 < 8 := by omega
          obtain ⟨q, hq⟩ : ∃ q, cnt ls (y % 8) = q := ⟨_, rfl⟩
          have hqr := cnt_range HI.out.good (y % 8)
          have hqr0 := hqr.1
          have hqr1 := hqr.2
          rw [hq] at hqr0 hqr1
          clear hqr
          by_cases hq0 : q = 0
          · have HC : Hid (closeS ls (y % 8) = ([], 4)) := close_none HI.out.good (by omega) (by rw [hq]; exact hq0)
            subst hq0
            have HQ := hide hq
            clear hq
            go_wp2_with (first
              | (go_at_call 11; (refine (close_z _ A1 n1 c1 ls (y % 8) _ (by omega) _ _ HC.out HP.out hn1).mono ?_); rintro e w2 ⟨A2, n2, c2, rfl, ho, _, hn2, hb⟩; have hlk := (HM.out.below hb).look ((y : Int) % 8) (by omega) hm8 HQ.out; replace HP := hide (HP.out.below hb); replace HM := hide (HM.out.below hb); replace HB := hide (Below.then HB.out hb); clear hb ho))
            replace HI := hide HI.out.more
            replace HM := hide (HM.out.mono (Nat.le_succ k))
            clear hlk
            go_loopw [13, 14, 75] (fun u v z wr => ∃ j : Nat, u = .int .u64 (leastN ls j) ∧ v = .int .i64 (kindsN ls j) ∧ z = .int .u64 j ∧ j ≤ 8 ∧ Hid (PR wr A1 n1 ls) ∧ Hid (MP wr w1.heap.size ls (k + 1)) ∧ Hid (Below w1.heap.size w1 wr)) (fun _ _ z _ => 8 - (intOf z).toNat)
            case atStart => exact ⟨0, rfl, rfl, rfl, by omega, HP, HM, HB⟩
            case round =>
              obtain ⟨j, rfl, rfl, rfl, hj, HP, HM, HB⟩ := hrel
              have ha1 := least_le ls j
              have hb1 := kinds_le ls j
              obtain ⟨a, ha⟩ : ∃ a, leastN ls j = a := ⟨_, rfl⟩
              obtain ⟨b, hb⟩ : ∃ b, kindsN ls j = b := ⟨_, rfl⟩
              rw [ha] at ha1
              rw [hb] at hb1
              rw [ha, hb]
              have HA := hide ha
              have HK := hide hb
              clear ha hb
              by_cases hj8 : j < 8
              · have hjz : (j : Int) < 8 := by omega
                obtain ⟨q', hq'⟩ : ∃ q', cnt ls j = q' := ⟨_, rfl⟩
                have HMY : Hid (manyS ls j = (q', 0)) := by
                  show _ = _
                  rw [many_ok HI.out.good (by omega), hq']
                have HQ' := hide hq'
                clear hq'
                by_cases hpos : 0 < q'
                · have HKE : Hid (kindsN ls (j + 1) = b + 1) := by
                    show _ = _
                    unfold kindsN
                    rw [HQ'.out, if_pos hpos, HK.out]
                  by_cases haj : a ≤ j
                  · have haz : (a : Int) ≤ (j : Int) := by omega
                    have HLE : Hid (leastN ls (j + 1) = a) := by
                      show _ = _
                      unfold leastN
                      rw [HQ'.out, if_pos hpos, HA.out, Nat.min_eq_left haj]
                    go_wp2_with (first | (go_at_call 10; (with_reducible refine (many_is _ A1 n1 c1 ls j _ _ HMY.out HP.out hn1).mono ?_); rintro e w4 ⟨rfl, hb⟩; have hlk := (HM.out.below hb).look (j : Int) rfl hj8 HQ'.out; replace HP := hide (HP.out.below hb); replace HM := hide (HM.out.below hb); replace HB := hide (Below.then HB.out hb); clear hb))
                    go_roundw
                    case rel => exact ⟨j + 1, by rw [HLE.out], by rw [HKE.out]; go_num, by go_num, by omega, HP, HM, HB⟩
                    case measure => simp [intOf]; omega
                  · have haz : ¬ (a : Int) ≤ (j : Int) := by omega
                    have HLE : Hid (leastN ls (j + 1) = j) := by
                      show _ = _
                      unfold leastN
                      rw [HQ'.out, if_pos hpos, HA.out, Nat.min_eq_right (by omega)]
                    go_wp2_with (first | (go_at_call 10; (with_reducible refine (many_is _ A1 n1 c1 ls j _ _ HMY.out HP.out hn1).mono ?_); rintro e w4 ⟨rfl, hb⟩; have hlk := (HM.out.below hb).look (j : Int) rfl hj8 HQ'.out; replace HP := hide (HP.out.below hb); replace HM := hide (HM.out.below hb); replace HB := hide (Below.then HB.out hb); clear hb))
                    go_roundw
                    case rel => exact ⟨j + 1, by rw [HLE.out], by rw [HKE.out]; go_num, by go_num, by omega, HP, HM, HB⟩
                    case measure => simp [intOf]; omega
                · have HKE : Hid (kindsN ls (j + 1) = b) := by
                    show _ = _
                    unfold kindsN
                    rw [HQ'.out, if_neg hpos, HK.out]; rfl
                  have HLE : Hid (leastN ls (j + 1) = a) := by
                    show _ = _
                    unfold leastN
                    rw [HQ'.out, if_neg hpos, HA.out]
                  go_wp2_with (first | (go_at_call 10; (with_reducible refine (many_is _ A1 n1 c1 ls j _ _ HMY.out HP.out hn1).mono ?_); rintro e w4 ⟨rfl, hb⟩; have hlk := (HM.out.below hb).look (j : Int) rfl hj8 HQ'.out; replace HP := hide (HP.out.below hb); replace HM := hide (HM.out.below hb); replace HB := hide (Below.then HB.out hb); clear hb))
                  go_roundw
                  case rel => exact ⟨j + 1, by rw [HLE.out], by rw [HKE.out], by go_num, by omega, HP, HM, HB⟩
                  case measure => simp [intOf]; omega
              · have hjz : ¬ (j : Int) < 8 := by omega
                have hj8' : j = 8 := by omega
                have hlen : b = n1 := by
                  have := kinds_len HI.out.good HI.out.low
                  rw [← hj8', HK.out, HP.out.len] at this
                  exact this
                have hlen2 := hlen.symm
                subst hlen2
                by_cases h0 : n1 = 0
                · have HLS : Hid (leastS ls = (0, 4)) := by
                    show _ = _
                    unfold leastS
                    rw [if_pos (good_iff.2 HI.out.good), if_pos (by rw [HP.out.len]; exact h0)]
                  have hbz : ¬ (0 : Int) < (n1 : Int) := by omega
                  have hbz' : ¬ 0 < n1 := by omega
                  clear h0
                  go_wp2_with (first | (go_at_call 12; (with_reducible refine (least_is _ A1 n1 c1 ls _ _ HLS.out HP.out hn1).mono ?_); rintro e w4 ⟨rfl, hb⟩; replace HP := hide (HP.out.below hb); replace HM := hide (HM.out.below hb); replace HB := hide (Below.then HB.out hb); clear hb))
                  go_roundw
                  case rel => exact ⟨k + 1, A1, n1, c1, ls, rfl, by go_num, by omega, hn1, HI, HP, HM, HB⟩
                  case measure => simp [intOf]; omega
                · have HLS : Hid (leastS ls = (a, 0)) := by
                    show _ = _
                    unfold leastS
                    rw [if_pos (good_iff.2 HI.out.good), if_neg (by rw [HP.out.len]; exact h0), least_first HI.out.good HI.out.low (by rw [HP.out.len]; omega), ← hj8', HA.out]
                  have hbz : (0 : Int) < (n1 : Int) := by omega
                  have hbz' : 0 < n1 := by omega
                  clear h0
                  go_wp2_with (first | (go_at_call 12; (with_reducible refine (least_is _ A1 n1 c1 ls _ _ HLS.out HP.out hn1).mono ?_); rintro e w4 ⟨rfl, hb⟩; replace HP := hide (HP.out.below hb); replace HM := hide (HM.out.below hb); replace HB := hide (Below.then HB.out hb); clear hb))
                  go_roundw
                  case rel => exact ⟨k + 1, A1, n1, c1, ls, rfl, by go_num, by omega, hn1, HI, HP, HM, HB⟩
                  case measure => simp [intOf]; omega
          · obtain ⟨qs, hc, hi, hat⟩ := HI.out.close hm8 (by rw [hq]; exact hq0)
            rw [hq] at hat
            have HC := hide hc
            have HIQ := hide hi
            have HAT := hide hat
            have HWF : Hid ((Lit.int .i64 (q - 1)).wf = true) := wf_some (by omega) (by omega)
            have HQ := hide hq
            have hqp : 0 < q := by omega
            clear hq hc hi hat hq0
            go_wp2_with (first
              | (go_at_call 11; (refine (close_z _ A1 n1 c1 ls (y % 8) _ (by omega) _ _ HC.out HP.out hn1).mono ?_); rintro e w2 ⟨A2, n2, c2, rfl, ho, _, hn2, hb⟩; have hlk := (HM.out.below hb).look ((y : Int) % 8) (by omega) hm8 HQ.out; obtain ⟨w3, hup, hmp, hgr⟩ := (HM.out.below hb).put ((y : Int) % 8) (by omega) (by omega) hm8 HWF.out HAT.out; have HU := hide (And.intro hmp hgr); replace HB := hide (Below.then HB.out hb); have HO := hide ho; clear hb ho hmp hgr))
            obtain ⟨hmp, hgr⟩ := HU.out
            have HP2 : Hid (PR w3 A2 n2 qs) := by
              have h := HO.out.reads
              refine ⟨h.1, fun hn0 => ?_⟩
              obtain ⟨ad2, e2, hlt, hcl⟩ := h.2 hn0
              obtain ⟨g2, hg2⟩ := HO.out.addr hn0
              have hlo := (World.ownsRow.lt HO.out g2 (by rw [hg2]; rfl)).1
              rw [hg2] at e2
              injection e2 with e2
              subst e2
              refine ⟨_, hg2, Nat.lt_of_lt_of_le hlt hgr.size, fun j u hu => ?_⟩
              rw [← hcl j u hu]
              refine World.cell?_of_block (hgr.block _ (by rw [block_of_add]; exact hlt) (fun e => ?_))
              rw [block_of_add] at e
              injection e with e
              simp only at e
              have := HM.out.lt
              omega
            replace HB := hide (HB.out.grown hgr HB.out.size (fun q hq => by injection hq with hq; omega))
            replace HM := hide hmp
            replace HP := HP2
            clear HP2 HU hlk hup hmp hgr HO
            replace HI := HIQ
            go_loopw [13, 14, 75] (fun u v z wr => ∃ j : Nat, u = .int .u64 (leastN qs j) ∧ v = .int .i64 (kindsN qs j) ∧ z = .int .u64 j ∧ j ≤ 8 ∧ Hid (PR wr A2 n2 qs) ∧ Hid (MP wr w1.heap.size qs (k + 1)) ∧ Hid (Below w1.heap.size w1 wr)) (fun _ _ z _ => 8 - (intOf z).toNat)
            case atStart => exact ⟨0, rfl, rfl, rfl, by omega, HP, HM, HB⟩
            case round =>
              obtain ⟨j, rfl, rfl, rfl, hj, HP, HM, HB⟩ := hrel
              have ha1 := least_le qs j
              have hb1 := kinds_le qs j
              obtain ⟨a, ha⟩ : ∃ a, leastN qs j = a := ⟨_, rfl⟩
              obtain ⟨b, hb⟩ : ∃ b, kindsN qs j = b := ⟨_, rfl⟩
              rw [ha] at ha1
              rw [hb] at hb1
              rw [ha, hb]
              have HA := hide ha
              have HK := hide hb
              clear ha hb
              by_cases hj8 : j < 8
              · have hjz : (j : Int) < 8 := by omega
                obtain ⟨q', hq'⟩ : ∃ q', cnt qs j = q' := ⟨_, rfl⟩
                have HMY : Hid (manyS qs j = (q', 0)) := by
                  show _ = _
                  rw [many_ok HI.out.good (by omega), hq']
                have HQ' := hide hq'
                clear hq'
                by_cases hpos : 0 < q'
                · have HKE : Hid (kindsN qs (j + 1) = b + 1) := by
                    show _ = _
                    unfold kindsN
                    rw [HQ'.out, if_pos hpos, HK.out]
                  by_cases haj : a ≤ j
                  · have haz : (a : Int) ≤ (j : Int) := by omega
                    have HLE : Hid (leastN qs (j + 1) = a) := by
                      show _ = _
                      unfold leastN
                      rw [HQ'.out, if_pos hpos, HA.out, Nat.min_eq_left haj]
                    go_wp2_with (first | (go_at_call 10; (with_reducible refine (many_is _ A2 n2 c2 qs j _ _ HMY.out HP.out hn2).mono ?_); rintro e w4 ⟨rfl, hb⟩; have hlk := (HM.out.below hb).look (j : Int) rfl hj8 HQ'.out; replace HP := hide (HP.out.below hb); replace HM := hide (HM.out.below hb); replace HB := hide (Below.then HB.out hb); clear hb))
                    go_roundw
                    case rel => exact ⟨j + 1, by rw [HLE.out], by rw [HKE.out]; go_num, by go_num, by omega, HP, HM, HB⟩
                    case measure => simp [intOf]; omega
                  · have haz : ¬ (a : Int) ≤ (j : Int) := by omega
                    have HLE : Hid (leastN qs (j + 1) = j) := by
                      show _ = _
                      unfold leastN
                      rw [HQ'.out, if_pos hpos, HA.out, Nat.min_eq_right (by omega)]
                    go_wp2_with (first | (go_at_call 10; (with_reducible refine (many_is _ A2 n2 c2 qs j _ _ HMY.out HP.out hn2).mono ?_); rintro e w4 ⟨rfl, hb⟩; have hlk := (HM.out.below hb).look (j : Int) rfl hj8 HQ'.out; replace HP := hide (HP.out.below hb); replace HM := hide (HM.out.below hb); replace HB := hide (Below.then HB.out hb); clear hb))
                    go_roundw
                    case rel => exact ⟨j + 1, by rw [HLE.out], by rw [HKE.out]; go_num, by go_num, by omega, HP, HM, HB⟩
                    case measure => simp [intOf]; omega
                · have HKE : Hid (kindsN qs (j + 1) = b) := by
                    show _ = _
                    unfold kindsN
                    rw [HQ'.out, if_neg hpos, HK.out]; rfl
                  have HLE : Hid (leastN qs (j + 1) = a) := by
                    show _ = _
                    unfold leastN
                    rw [HQ'.out, if_neg hpos, HA.out]
                  go_wp2_with (first | (go_at_call 10; (with_reducible refine (many_is _ A2 n2 c2 qs j _ _ HMY.out HP.out hn2).mono ?_); rintro e w4 ⟨rfl, hb⟩; have hlk := (HM.out.below hb).look (j : Int) rfl hj8 HQ'.out; replace HP := hide (HP.out.below hb); replace HM := hide (HM.out.below hb); replace HB := hide (Below.then HB.out hb); clear hb))
                  go_roundw
                  case rel => exact ⟨j + 1, by rw [HLE.out], by rw [HKE.out], by go_num, by omega, HP, HM, HB⟩
                  case measure => simp [intOf]; omega
              · have hjz : ¬ (j : Int) < 8 := by omega
                have hj8' : j = 8 := by omega
                have hlen : b = n2 := by
                  have := kinds_len HI.out.good HI.out.low
                  rw [← hj8', HK.out, HP.out.len] at this
                  exact this
                have hlen2 := hlen.symm
                subst hlen2
                by_cases h0 : n2 = 0
                · have HLS : Hid (leastS qs = (0, 4)) := by
                    show _ = _
                    unfold leastS
                    rw [if_pos (good_iff.2 HI.out.good), if_pos (by rw [HP.out.len]; exact h0)]
                  have hbz : ¬ (0 : Int) < (n2 : Int) := by omega
                  have hbz' : ¬ 0 < n2 := by omega
                  clear h0
                  go_wp2_with (first | (go_at_call 12; (with_reducible refine (least_is _ A2 n2 c2 qs _ _ HLS.out HP.out hn2).mono ?_); rintro e w4 ⟨rfl, hb⟩; replace HP := hide (HP.out.below hb); replace HM := hide (HM.out.below hb); replace HB := hide (Below.then HB.out hb); clear hb))
                  go_roundw
                  case rel => exact ⟨k + 1, A2, n2, c2, qs, rfl, by go_num, by omega, hn2, HI, HP, HM, HB⟩
                  case measure => simp [intOf]; omega
                · have HLS : Hid (leastS qs = (a, 0)) := by
                    show _ = _
                    unfold leastS
                    rw [if_pos (good_iff.2 HI.out.good), if_neg (by rw [HP.out.len]; exact h0), least_first HI.out.good HI.out.low (by rw [HP.out.len]; omega), ← hj8', HA.out]
                  have hbz : (0 : Int) < (n2 : Int) := by omega
                  have hbz' : 0 < n2 := by omega
                  clear h0
                  go_wp2_with (first | (go_at_call 12; (with_reducible refine (least_is _ A2 n2 c2 qs _ _ HLS.out HP.out hn2).mono ?_); rintro e w4 ⟨rfl, hb⟩; replace HP := hide (HP.out.below hb); replace HM := hide (HM.out.below hb); replace HB := hide (Below.then HB.out hb); clear hb))
                  go_roundw
                  case rel => exact ⟨k + 1, A2, n2, c2, qs, rfl, by go_num, by omega, hn2, HI, HP, HM, HB⟩
                  case measure => simp [intOf]; omega
        · obtain ⟨y, rfl⟩ : ∃ y : Nat, x = (y : Int) := ⟨x.toNat, by omega⟩
          have hy : y ≤ 127 := by omega
          have hm8 : y % 8 < 8 := by omega
          obtain ⟨q, hq⟩ : ∃ q, cnt ls (y % 8) = q := ⟨_, rfl⟩
          have hqr := cnt_range HI.out.good (y % 8)
          have hqr0 := hqr.1
          have hqr1 := hqr.2
          rw [hq] at hqr0 hqr1
          clear hqr
          obtain ⟨qs, hc, hi, hat⟩ := HI.out.open (by omega) hm8
          rw [hq] at hat
          have HC := hide hc
          have HIQ := hide hi
          have HAT := hide hat
          have HWF : Hid ((Lit.int .i64 (q + 1)).wf = true) := wf_some (by omega) (by omega)
          have HQ := hide hq
          clear hq hc hi hat
          go_wp2_with (first
            | (go_at_call 9; (refine (open_z _ A1 n1 c1 ls (y % 8) _ (by omega) _ _ HC.out HP.out hn1).mono ?_); rintro e w2 ⟨A2, n2, c2, rfl, ho, _, hn2, hb⟩; have hlk := (HM.out.below hb).look ((y : Int) % 8) (by omega) hm8 HQ.out; obtain ⟨w3, hup, hmp, hgr⟩ := (HM.out.below hb).put ((y : Int) % 8) (by omega) (by omega) hm8 HWF.out HAT.out; have HU := hide (And.intro hmp hgr); replace HB := hide (Below.then HB.out hb); have HO := hide ho; clear hb ho hmp hgr))
          obtain ⟨hmp, hgr⟩ := HU.out
          have HP2 : Hid (PR w3 A2 n2 qs) := by
            have h := HO.out.reads
            refine ⟨h.1, fun hn0 => ?_⟩
            obtain ⟨ad2, e2, hlt, hcl⟩ := h.2 hn0
            obtain ⟨g2, hg2⟩ := HO.out.addr hn0
            have hlo := (World.ownsRow.lt HO.out g2 (by rw [hg2]; rfl)).1
            rw [hg2] at e2
            injection e2 with e2
            subst e2
            refine ⟨_, hg2, Nat.lt_of_lt_of_le hlt hgr.size, fun j u hu => ?_⟩
            rw [← hcl j u hu]
            refine World.cell?_of_block (hgr.block _ (by rw [block_of_add]; exact hlt) (fun e => ?_))
            rw [block_of_add] at e
            injection e with e
            simp only at e
            have := HM.out.lt
            omega
          replace HB := hide (HB.out.grown hgr HB.out.size (fun q hq => by injection hq with hq; omega))
          replace HM := hide hmp
          replace HP := HP2
          clear HP2 HU hlk hup hmp hgr HO
          replace HI := HIQ
          go_loopw [13, 14, 75] (fun u v z wr => ∃ j : Nat, u = .int .u64 (leastN qs j) ∧ v = .int .i64 (kindsN qs j) ∧ z = .int .u64 j ∧ j ≤ 8 ∧ Hid (PR wr A2 n2 qs) ∧ Hid (MP wr w1.heap.size qs (k + 1)) ∧ Hid (Below w1.heap.size w1 wr)) (fun _ _ z _ => 8 - (intOf z).toNat)
          case atStart => exact ⟨0, rfl, rfl, rfl, by omega, HP, HM, HB⟩
          case round =>
            obtain ⟨j, rfl, rfl, rfl, hj, HP, HM, HB⟩ := hrel
            have ha1 := least_le qs j
            have hb1 := kinds_le qs j
            obtain ⟨a, ha⟩ : ∃ a, leastN qs j = a := ⟨_, rfl⟩
            obtain ⟨b, hb⟩ : ∃ b, kindsN qs j = b := ⟨_, rfl⟩
            rw [ha] at ha1
            rw [hb] at hb1
            rw [ha, hb]
            have HA := hide ha
            have HK := hide hb
            clear ha hb
            by_cases hj8 : j < 8
            · have hjz : (j : Int) < 8 := by omega
              obtain ⟨q', hq'⟩ : ∃ q', cnt qs j = q' := ⟨_, rfl⟩
              have HMY : Hid (manyS qs j = (q', 0)) := by
                show _ = _
                rw [many_ok HI.out.good (by omega), hq']
              have HQ' := hide hq'
              clear hq'
              by_cases hpos : 0 < q'
              · have HKE : Hid (kindsN qs (j + 1) = b + 1) := by
                  show _ = _
                  unfold kindsN
                  rw [HQ'.out, if_pos hpos, HK.out]
                by_cases haj : a ≤ j
                · have haz : (a : Int) ≤ (j : Int) := by omega
                  have HLE : Hid (leastN qs (j + 1) = a) := by
                    show _ = _
                    unfold leastN
                    rw [HQ'.out, if_pos hpos, HA.out, Nat.min_eq_left haj]
                  go_wp2_with (first | (go_at_call 10; (with_reducible refine (many_is _ A2 n2 c2 qs j _ _ HMY.out HP.out hn2).mono ?_); rintro e w4 ⟨rfl, hb⟩; have hlk := (HM.out.below hb).look (j : Int) rfl hj8 HQ'.out; replace HP := hide (HP.out.below hb); replace HM := hide (HM.out.below hb); replace HB := hide (Below.then HB.out hb); clear hb))
                  go_roundw
                  case rel => exact ⟨j + 1, by rw [HLE.out], by rw [HKE.out]; go_num, by go_num, by omega, HP, HM, HB⟩
                  case measure => simp [intOf]; omega
                · have haz : ¬ (a : Int) ≤ (j : Int) := by omega
                  have HLE : Hid (leastN qs (j + 1) = j) := by
                    show _ = _
                    unfold leastN
                    rw [HQ'.out, if_pos hpos, HA.out, Nat.min_eq_right (by omega)]
                  go_wp2_with (first | (go_at_call 10; (with_reducible refine (many_is _ A2 n2 c2 qs j _ _ HMY.out HP.out hn2).mono ?_); rintro e w4 ⟨rfl, hb⟩; have hlk := (HM.out.below hb).look (j : Int) rfl hj8 HQ'.out; replace HP := hide (HP.out.below hb); replace HM := hide (HM.out.below hb); replace HB := hide (Below.then HB.out hb); clear hb))
                  go_roundw
                  case rel => exact ⟨j + 1, by rw [HLE.out], by rw [HKE.out]; go_num, by go_num, by omega, HP, HM, HB⟩
                  case measure => simp [intOf]; omega
              · have HKE : Hid (kindsN qs (j + 1) = b) := by
                  show _ = _
                  unfold kindsN
                  rw [HQ'.out, if_neg hpos, HK.out]; rfl
                have HLE : Hid (leastN qs (j + 1) = a) := by
                  show _ = _
                  unfold leastN
                  rw [HQ'.out, if_neg hpos, HA.out]
                go_wp2_with (first | (go_at_call 10; (with_reducible refine (many_is _ A2 n2 c2 qs j _ _ HMY.out HP.out hn2).mono ?_); rintro e w4 ⟨rfl, hb⟩; have hlk := (HM.out.below hb).look (j : Int) rfl hj8 HQ'.out; replace HP := hide (HP.out.below hb); replace HM := hide (HM.out.below hb); replace HB := hide (Below.then HB.out hb); clear hb))
                go_roundw
                case rel => exact ⟨j + 1, by rw [HLE.out], by rw [HKE.out], by go_num, by omega, HP, HM, HB⟩
                case measure => simp [intOf]; omega
            · have hjz : ¬ (j : Int) < 8 := by omega
              have hj8' : j = 8 := by omega
              have hlen : b = n2 := by
                have := kinds_len HI.out.good HI.out.low
                rw [← hj8', HK.out, HP.out.len] at this
                exact this
              have hlen2 := hlen.symm
              subst hlen2
              by_cases h0 : n2 = 0
              · have HLS : Hid (leastS qs = (0, 4)) := by
                  show _ = _
                  unfold leastS
                  rw [if_pos (good_iff.2 HI.out.good), if_pos (by rw [HP.out.len]; exact h0)]
                have hbz : ¬ (0 : Int) < (n2 : Int) := by omega
                have hbz' : ¬ 0 < n2 := by omega
                clear h0
                go_wp2_with (first | (go_at_call 12; (with_reducible refine (least_is _ A2 n2 c2 qs _ _ HLS.out HP.out hn2).mono ?_); rintro e w4 ⟨rfl, hb⟩; replace HP := hide (HP.out.below hb); replace HM := hide (HM.out.below hb); replace HB := hide (Below.then HB.out hb); clear hb))
                go_roundw
                case rel => exact ⟨k + 1, A2, n2, c2, qs, rfl, by go_num, by omega, hn2, HI, HP, HM, HB⟩
                case measure => simp [intOf]; omega
              · have HLS : Hid (leastS qs = (a, 0)) := by
                  show _ = _
                  unfold leastS
                  rw [if_pos (good_iff.2 HI.out.good), if_neg (by rw [HP.out.len]; exact h0), least_first HI.out.good HI.out.low (by rw [HP.out.len]; omega), ← hj8', HA.out]
                have hbz : (0 : Int) < (n2 : Int) := by omega
                have hbz' : 0 < n2 := by omega
                clear h0
                go_wp2_with (first | (go_at_call 12; (with_reducible refine (least_is _ A2 n2 c2 qs _ _ HLS.out HP.out hn2).mono ?_); rintro e w4 ⟨rfl, hb⟩; replace HP := hide (HP.out.below hb); replace HM := hide (HM.out.below hb); replace HB := hide (Below.then HB.out hb); clear hb))
                go_roundw
                case rel => exact ⟨k + 1, A2, n2, c2, qs, rfl, by go_num, by omega, hn2, HI, HP, HM, HB⟩
                case measure => simp [intOf]; omega
      · have hkz : ¬ (k : Int) < (n : Int) := by omega
        go_wp2_with fail
        go_ret
        exact ⟨rfl, Below.then HB1.out HB.out⟩
  · have t1 : decide ((60 : Int) < (n : Int)) = true := decide_eq_true (by omega)
    go_enter Try.func4, Try.ntmps4
    go_wp2_with (first | (go_at_call 8; refine (live_any _).mono ?_; rintro e w1 ⟨rfl, hb⟩; have HB1 := hide hb; clear hb))
    go_ret
    exact ⟨rfl, HB1.out⟩
end Go.Proofs.Ytbfagfnclgfmhaa
