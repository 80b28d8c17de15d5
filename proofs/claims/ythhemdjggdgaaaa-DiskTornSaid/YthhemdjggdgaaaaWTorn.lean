/- DiskTorn: behind a crash each group is as it was dry, or as it was written. -/
import Derived.Test.YthhemdjggdgaaaaPlTorn
import Derived.Test.YthhemdjggdgaaaaWCr
namespace Go.Proofs.Ythhemdjggdgaaaa
open Go.RowKit
set_option linter.unusedVariables false

set_option maxRecDepth 100000 in
set_option maxHeartbeats 8000000 in
theorem tornW (w : World) (A : Option Addr) (n c : Nat) (B : Option Addr) (m e' : Nat) (d : Dk) (Am : Option Addr) (nm cm : Nat) (ms : Bs) (s k : Int) (hr : DR w A n B m d) (hn : n ≤ maxLen) (hm : m ≤ maxLen) (hc : n ≤ c) (hms : BR w Am nm ms) (hnm0 : nm ≤ maxLen) :
    Calls Try.prog 4 #[.agg #[.slice A n c, .slice B m e', .int .i64 d.left], .slice Am nm cm, .int .i64 s, .int .i64 k] w fun e w' => e = .returned (.bool true) ∧ Below w.heap.size w w' := by
  obtain ⟨i0, hi0, hz0, hz1, hz2⟩ := info_parts u8_info
  have HD := hide hr
  have HM := hide hms
  clear hr hms

  cases hf : few d with
  | false =>
    go_enter Try.func4, Try.ntmps4
    go_wp2_with (first
      | (go_at_call 9; (with_reducible refine (live_any _).mono ?_); rintro e w' ⟨rfl, hb⟩; have HXd := hide ((Bx.made w (.slice A n c) (.slice B m e') (.int .i64 d.left)).below hb); have HB := hide (Below.then (below_alloc w _) hb); replace HD := hide ((HD.out.alloc (.cells #[.slice A n c, .slice B m e', .int .i64 d.left] 25)).below hb); replace HM := hide ((HM.out.alloc (.cells #[.slice A n c, .slice B m e', .int .i64 d.left] 25)).below hb); have kd0 := HXd.out.c0; have kd1 := HXd.out.c1; have kd2 := HXd.out.c2; clear hb)
      | (go_at_call 10; (with_reducible refine (few_any _ A n c B m e' d d.left HD.out hn hm).mono ?_); rintro e w' ⟨rfl, hb⟩; rw [hf]; replace HD := hide (HD.out.below hb); replace HM := hide (HM.out.below hb); replace HXd := hide (HXd.out.below hb); replace HB := hide (Below.then_ HB.out hb HB.out.size); have kd0 := HXd.out.c0; have kd1 := HXd.out.c1; have kd2 := HXd.out.c2; clear hb))
    go_ret
    exact ⟨rfl, HB.out⟩
  | true =>
    have hf0 := hf
    obtain ⟨f1, f2, f3, f4⟩ := few_bounds hf
    have hdl := HD.out.dlen
    have hwl := HD.out.wlen
    by_cases q1 : 300 < nm
    · have q1z : (300 : Int) < (nm : Int) := by omega
      go_enter Try.func4, Try.ntmps4
      go_wp2_with (first
        | (go_at_call 9; (with_reducible refine (live_any _).mono ?_); rintro e w' ⟨rfl, hb⟩; have HXd := hide ((Bx.made w (.slice A n c) (.slice B m e') (.int .i64 d.left)).below hb); have HB := hide (Below.then (below_alloc w _) hb); replace HD := hide ((HD.out.alloc (.cells #[.slice A n c, .slice B m e', .int .i64 d.left] 25)).below hb); replace HM := hide ((HM.out.alloc (.cells #[.slice A n c, .slice B m e', .int .i64 d.left] 25)).below hb); have kd0 := HXd.out.c0; have kd1 := HXd.out.c1; have kd2 := HXd.out.c2; clear hb)
        | (go_at_call 10; (with_reducible refine (few_any _ A n c B m e' d d.left HD.out hn hm).mono ?_); rintro e w' ⟨rfl, hb⟩; rw [hf]; replace HD := hide (HD.out.below hb); replace HM := hide (HM.out.below hb); replace HXd := hide (HXd.out.below hb); replace HB := hide (Below.then_ HB.out hb HB.out.size); have kd0 := HXd.out.c0; have kd1 := HXd.out.c1; have kd2 := HXd.out.c2; clear hb))
      go_ret
      exact ⟨rfl, HB.out⟩
    · have q1z : ¬ (300 : Int) < (nm : Int) := by omega
      by_cases q2 : k < 0
      · have q2z : decide (k < 0) = true := decide_eq_true q2
        go_enter Try.func4, Try.ntmps4
        go_wp2_with (first
          | (go_at_call 9; (with_reducible refine (live_any _).mono ?_); rintro e w' ⟨rfl, hb⟩; have HXd := hide ((Bx.made w (.slice A n c) (.slice B m e') (.int .i64 d.left)).below hb); have HB := hide (Below.then (below_alloc w _) hb); replace HD := hide ((HD.out.alloc (.cells #[.slice A n c, .slice B m e', .int .i64 d.left] 25)).below hb); replace HM := hide ((HM.out.alloc (.cells #[.slice A n c, .slice B m e', .int .i64 d.left] 25)).below hb); have kd0 := HXd.out.c0; have kd1 := HXd.out.c1; have kd2 := HXd.out.c2; clear hb)
          | (go_at_call 10; (with_reducible refine (few_any _ A n c B m e' d d.left HD.out hn hm).mono ?_); rintro e w' ⟨rfl, hb⟩; rw [hf]; replace HD := hide (HD.out.below hb); replace HM := hide (HM.out.below hb); replace HXd := hide (HXd.out.below hb); replace HB := hide (Below.then_ HB.out hb HB.out.size); have kd0 := HXd.out.c0; have kd1 := HXd.out.c1; have kd2 := HXd.out.c2; clear hb))
        go_ret
        exact ⟨rfl, HB.out⟩
      · have q2z : decide (k < 0) = false := decide_eq_false q2
        by_cases q3 : 7 < k
        · have q3z : decide (7 < k) = true := decide_eq_true q3
          go_enter Try.func4, Try.ntmps4
          go_wp2_with (first
            | (go_at_call 9; (with_reducible refine (live_any _).mono ?_); rintro e w' ⟨rfl, hb⟩; have HXd := hide ((Bx.made w (.slice A n c) (.slice B m e') (.int .i64 d.left)).below hb); have HB := hide (Below.then (below_alloc w _) hb); replace HD := hide ((HD.out.alloc (.cells #[.slice A n c, .slice B m e', .int .i64 d.left] 25)).below hb); replace HM := hide ((HM.out.alloc (.cells #[.slice A n c, .slice B m e', .int .i64 d.left] 25)).below hb); have kd0 := HXd.out.c0; have kd1 := HXd.out.c1; have kd2 := HXd.out.c2; clear hb)
            | (go_at_call 10; (with_reducible refine (few_any _ A n c B m e' d d.left HD.out hn hm).mono ?_); rintro e w' ⟨rfl, hb⟩; rw [hf]; replace HD := hide (HD.out.below hb); replace HM := hide (HM.out.below hb); replace HXd := hide (HXd.out.below hb); replace HB := hide (Below.then_ HB.out hb HB.out.size); have kd0 := HXd.out.c0; have kd1 := HXd.out.c1; have kd2 := HXd.out.c2; clear hb))
          go_ret
          exact ⟨rfl, HB.out⟩
        · have q3z : decide (7 < k) = false := decide_eq_false q3
          obtain ⟨kn, rfl⟩ : ∃ kn : Nat, k = kn := ⟨k.toNat, by omega⟩
          have hkn : kn ≤ 7 := by omega
          have hn' : n ≤ 300000 := by omega
          have hm' : m ≤ 1000 := by omega
          clear f1 f2 f3 f4 hdl
          by_cases hg : Good d
          · by_cases h : Is d s
            · obtain ⟨Ck, got, old, wet, p1, p2, p3, p4, p5, p6, p7, p8, p9, p10, Wk, p11, p12, p13, p14⟩ := torn_ok hf0 h ms kn hkn
              have HC := hide p1
              have HZ1 : Hid (Ck.dry.length ≤ 300000 ∧ Ck.wet.length ≤ 1000) := ⟨by omega, by omega⟩
              have HZ2 : Hid (Wk.dry.length ≤ 300000 ∧ Wk.wet.length ≤ 1000) := ⟨by omega, by omega⟩
              have HR1 := hide p6
              have HR2 := hide p4
              have HR3 := hide p8
              have HL : Hid (got.length = 32 ∧ old.length = 32 ∧ wet.length = 32) := ⟨p5, p9, p7⟩
              have HR4 := hide p14
              have HWL := hide hwl
              rw [hwl] at p11
              have HWk := hide p11
              have b1 : (0 : Int) ≤ 4 * (kn : Int) := by omega
              have b2 : 4 * (kn : Int) + 4 ≤ 32 := by omega
              have b3 : 4 * (kn : Int) ≤ 4 * (kn : Int) + 4 := by omega
              have b4 : (4 * (kn : Int)).toNat = 4 * kn := by omega
              have b5 : (4 * (kn : Int) + 4).toNat = 4 * kn + 4 := by omega
              by_cases e1 : grp kn got = grp kn old
              · go_enter Try.func4, Try.ntmps4
                go_wp2_with (first
                  | (go_at_call 9; (with_reducible refine (live_any _).mono ?_); rintro e w' ⟨rfl, hb⟩; have HXd := hide ((Bx.made w (.slice A n c) (.slice B m e') (.int .i64 d.left)).below hb); have HB := hide (Below.then (below_alloc w _) hb); replace HD := hide ((HD.out.alloc (.cells #[.slice A n c, .slice B m e', .int .i64 d.left] 25)).below hb); replace HM := hide ((HM.out.alloc (.cells #[.slice A n c, .slice B m e', .int .i64 d.left] 25)).below hb); have kd0 := HXd.out.c0; have kd1 := HXd.out.c1; have kd2 := HXd.out.c2; clear hb)
                  | (go_at_call 10; (with_reducible refine (few_any _ A n c B m e' d d.left HD.out hn hm).mono ?_); rintro e w' ⟨rfl, hb⟩; rw [hf]; replace HD := hide (HD.out.below hb); replace HM := hide (HM.out.below hb); replace HXd := hide (HXd.out.below hb); replace HB := hide (Below.then_ HB.out hb HB.out.size); have kd0 := HXd.out.c0; have kd1 := HXd.out.c1; have kd2 := HXd.out.c2; clear hb)
                  | (go_at_call 12; (with_reducible refine (crash_any _ A n c B m e' d Am nm cm ms HD.out HM.out hn' hm').mono ?_); rw [HC.out]; rintro e w' ⟨A1, n1, c1, B1, m1, e1, rfl, ho, hb⟩; have H1 : Hid (DR _ A1 n1 B1 m1 Ck) := hide (ho.reads.alloc (.cells #[.slice A1 n1 c1, .slice B1 m1 e1, .int .i64 Ck.left] 25)); have hn1 : n1 ≤ 300000 := (by have h1 : Ck.dry.length = n1 := ho.reads.dlen; have h2 := HZ1.out; omega); have hm1 : m1 ≤ 1000 := (by have h1 : Ck.wet.length = m1 := ho.reads.wlen; have h2 := HZ1.out; omega); have hc1 : n1 ≤ c1 := (row_max ho.1).1; replace HD := hide ((HD.out.below hb).alloc (.cells #[.slice A1 n1 c1, .slice B1 m1 e1, .int .i64 Ck.left] 25)); replace HM := hide ((HM.out.below hb).alloc (.cells #[.slice A1 n1 c1, .slice B1 m1 e1, .int .i64 Ck.left] 25)); replace HXd := hide ((HXd.out.below hb).alloc (.cells #[.slice A1 n1 c1, .slice B1 m1 e1, .int .i64 Ck.left] 25)); replace HB := hide ((Below.then_ HB.out hb HB.out.size).alloc (Nat.le_trans HB.out.size hb.size) (.cells #[.slice A1 n1 c1, .slice B1 m1 e1, .int .i64 Ck.left] 25)); have kd0 := HXd.out.c0; have kd1 := HXd.out.c1; have kd2 := HXd.out.c2; have HX1 := hide (Bx.made w' (.slice A1 n1 c1) (.slice B1 m1 e1) (.int .i64 Ck.left)); clear hb ho)
                  | (go_at_call 16; (with_reducible refine (read_any _ A n c B m e' d s HD.out hn' hm' hc).mono ?_); rw [HR1.out]; rintro e w' ⟨Aw, nw, cw, rfl, ho, hb⟩; have Hw : Hid (OB 0 _ Aw nw cw wet) := hide (ho.mono (Nat.zero_le _)); replace HD := hide (HD.out.below hb); replace H1 := hide (H1.out.below hb); replace HXd := hide (HXd.out.below hb); replace HX1 := hide (HX1.out.below hb); replace HB := hide (Below.then_ HB.out hb HB.out.size); have kd0 := HXd.out.c0; have kd1 := HXd.out.c1; have kd2 := HXd.out.c2; have k10 := HX1.out.c0; have k11 := HX1.out.c1; have k12 := HX1.out.c2; clear hb ho)
                  | (go_at_call 16; (with_reducible refine (read_any _ A1 n1 c1 B1 m1 e1 Ck s H1.out hn1 hm1 hc1).mono ?_); rw [HR2.out]; rintro e w' ⟨Ag, ng, cg, rfl, ho, hb⟩; have kz : ∀ o, (w'.alloc o).cell? ⟨w.heap.size, 0, none⟩ = some (.slice A n c) := fun o => ((HXd.out.below hb).alloc o).c0; have Hg : Hid (OB 0 _ Ag ng cg got) := hide ((ho.mono (Nat.zero_le _)).below (below_alloc _ (.cells #[.slice A n c, .slice none 0 0, .int .i64 (-1)] 25))); replace HD := hide ((HD.out.below hb).alloc (.cells #[.slice A n c, .slice none 0 0, .int .i64 (-1)] 25)); replace H1 := hide ((H1.out.below hb).alloc (.cells #[.slice A n c, .slice none 0 0, .int .i64 (-1)] 25)); replace Hw := hide ((Hw.out.below hb).alloc (.cells #[.slice A n c, .slice none 0 0, .int .i64 (-1)] 25)); replace HXd := hide ((HXd.out.below hb).alloc (.cells #[.slice A n c, .slice none 0 0, .int .i64 (-1)] 25)); replace HX1 := hide ((HX1.out.below hb).alloc (.cells #[.slice A n c, .slice none 0 0, .int .i64 (-1)] 25)); replace HB := hide ((Below.then_ HB.out hb HB.out.size).alloc (Nat.le_trans HB.out.size hb.size) (.cells #[.slice A n c, .slice none 0 0, .int .i64 (-1)] 25)); have kd0 := HXd.out.c0; have kd1 := HXd.out.c1; have kd2 := HXd.out.c2; have k10 := HX1.out.c0; have k11 := HX1.out.c1; have k12 := HX1.out.c2; clear hb ho)
                  | (go_at_call 16; (with_reducible refine (read_is _ A n c none 0 0 d.dried (-1) s rfl HD.out.dried hn' (by omega) hc).mono ?_); rw [HR3.out]; rintro e w' ⟨Ao, no, co, rfl, ho, hb⟩; have Ho : Hid (OB 0 _ Ao no co old) := hide (ho.mono (Nat.zero_le _)); replace HD := hide (HD.out.below hb); replace H1 := hide (H1.out.below hb); replace Hw := hide (Hw.out.below hb); replace Hg := hide (Hg.out.below hb); replace HXd := hide (HXd.out.below hb); replace HX1 := hide (HX1.out.below hb); replace HB := hide (Below.then_ HB.out hb HB.out.size); have kd0 := HXd.out.c0; have kd1 := HXd.out.c1; have kd2 := HXd.out.c2; have k10 := HX1.out.c0; have k11 := HX1.out.c1; have k12 := HX1.out.c2; obtain rfl : 32 = ng := HL.out.1.symm.trans Hg.out.len; obtain rfl : 32 = no := HL.out.2.1.symm.trans Ho.out.len; obtain rfl : 32 = nw := HL.out.2.2.symm.trans Hw.out.len; obtain ⟨gg, rfl⟩ := row_addr Hg.out (by omega); obtain ⟨go, rfl⟩ := row_addr Ho.out (by omega); obtain ⟨gw, rfl⟩ := row_addr Hw.out (by omega); have sg := run_str w' _ 4 (cg - 4 * kn) _ (part_br Hg.out kn hkn); have so := run_str w' _ 4 (co - 4 * kn) _ (part_br Ho.out kn hkn); have sw := run_str w' _ 4 (cw - 4 * kn) _ (part_br Hw.out kn hkn); have hcg := (row_cap Hg.out).1; have hco := (row_cap Ho.out).1; have hcw := (row_cap Hw.out).1; clear hb ho))
                clear Hg Ho H1 HX1 HC HR1 HR2 HR3 HL HM sg so sw kz kd0 kd1 kd2 k10 k11 k12
                go_loopw [20, 147] (fun u v wr => ∃ (j : Nat) (Aa : Option Addr) (ca : Nat), u = .slice Aa j ca ∧ v = .int .i64 j ∧ j ≤ m ∧ Hid (OB w'.heap.size wr Aa j ca (List.replicate j 255)) ∧ Hid (Below w'.heap.size w' wr)) (fun _ v _ => m - (intOf v).toNat)
                case atStart => exact ⟨0, none, 0, rfl, rfl, by omega, OB.nil _ _, Below.refl _ _⟩
                case round =>
                  obtain ⟨j, Aa, ca, rfl, rfl, hj, HA, HL⟩ := hrel
                  have hsz := HL.out.size
                  by_cases hjm : j < m
                  · have hjz : (j : Int) < (m : Int) := by omega
                    go_wp2_with (first
                      | (at_builtin; refine wpList_append_any _ rfl (.tmp 149) (.tmp 150) 22 rfl w'.heap.size 5 i0 _ 1 1 Try.underlying22 hi0 hz0 hz1 hz2 rfl (by omega) (.slice Aa j ca) j (byt (List.replicate j 255)) rfl (HA.out.alloc _) _ (some ⟨wr.heap.size, 0, none⟩) 1 1 (byt [255]) rfl (one_oct wr 255) (byt_one _) (by simp only [maxLen]; omega) (by omega) (by simp; omega) ?_; intro v1 w1 hown1 hg1 hat1; obtain ⟨A1, c1, rfl⟩ := row_slice hown1; rw [← byt_append, rep_snoc] at hown1; have HA1 : Hid (OB w'.heap.size w1 A1 (j + 1) c1 (List.replicate (j + 1) 255)) := hide hown1; have HL1 := hide ((HL.out.alloc hsz (.cells #[.int .u8 255] 5)).grown hg1 (by simp; omega) (fun q hq => (World.ownsRow.lt HA.out q hq).1)); clear hown1 hg1 hat1))
                    go_roundw
                    case rel => exact ⟨j + 1, A1, c1, rfl, by go_num, by omega, HA1, HL1⟩
                    case measure => simp [intOf]; omega
                  · have hjz : ¬ (j : Int) < (m : Int) := by omega
                    obtain rfl : m = j := by omega
                    have HA : Hid (BR wr Aa m (List.replicate m 255)) := hide HA.out.reads
                    replace HD := hide (HD.out.below HL.out)
                    replace Hw := hide (Hw.out.below HL.out)
                    replace HXd := hide (HXd.out.below HL.out)
                    replace HB := hide (Below.then_ HB.out HL.out HB.out.size)
                    have kd0 := HXd.out.c0
                    have kd1 := HXd.out.c1
                    have kd2 := HXd.out.c2
                    clear HL hsz hj
                    go_wp2_with (first
                      | (go_at_call 12; (with_reducible refine (crash_any _ A n c B m e' d Aa m ca (List.replicate m 255) HD.out HA.out hn' hm').mono ?_); rw [HWk.out]; rintro e w' ⟨A4, n4, c4, B4, m4, e4, rfl, ho, hb⟩; have H4 : Hid (DR _ A4 n4 B4 m4 Wk) := hide (ho.reads.alloc (.cells #[.slice A4 n4 c4, .slice B4 m4 e4, .int .i64 Wk.left] 25)); have hn4 : n4 ≤ 300000 := (by have h1 : Wk.dry.length = n4 := ho.reads.dlen; have h2 := HZ2.out; omega); have hm4 : m4 ≤ 1000 := (by have h1 : Wk.wet.length = m4 := ho.reads.wlen; have h2 := HZ2.out; omega); have hc4 : n4 ≤ c4 := (row_max ho.1).1; replace HD := hide ((HD.out.below hb).alloc (.cells #[.slice A4 n4 c4, .slice B4 m4 e4, .int .i64 Wk.left] 25)); replace Hw := hide ((Hw.out.below hb).alloc (.cells #[.slice A4 n4 c4, .slice B4 m4 e4, .int .i64 Wk.left] 25)); replace HXd := hide ((HXd.out.below hb).alloc (.cells #[.slice A4 n4 c4, .slice B4 m4 e4, .int .i64 Wk.left] 25)); replace HB := hide ((Below.then_ HB.out hb HB.out.size).alloc (Nat.le_trans HB.out.size hb.size) (.cells #[.slice A4 n4 c4, .slice B4 m4 e4, .int .i64 Wk.left] 25)); have kd0 := HXd.out.c0; have kd1 := HXd.out.c1; have kd2 := HXd.out.c2; have HX4 := hide (Bx.made w' (.slice A4 n4 c4) (.slice B4 m4 e4) (.int .i64 Wk.left)); clear hb ho)
                      | (go_at_call 16; (with_reducible refine (read_any _ A4 n4 c4 B4 m4 e4 Wk s H4.out hn4 hm4 hc4).mono ?_); rw [HR4.out]; rintro e w' ⟨Ar4, nr4, cr4, rfl, ho, hb⟩; have Hr4 : Hid (BR _ Ar4 nr4 wet) := hide ho.reads; replace HD := hide (HD.out.below hb); replace Hw := hide (Hw.out.below hb); replace H4 := hide (H4.out.below hb); replace HXd := hide (HXd.out.below hb); replace HX4 := hide (HX4.out.below hb); replace HB := hide (Below.then_ HB.out hb HB.out.size); have kd0 := HXd.out.c0; have kd1 := HXd.out.c1; have kd2 := HXd.out.c2; have k40 := HX4.out.c0; have k41 := HX4.out.c1; have k42 := HX4.out.c2; clear hb ho)
                      | (go_at_call 17; (with_reducible refine (sameB_any _ Ar4 (some ⟨gw, 0, none⟩) nr4 32 cr4 cw wet wet Hr4.out Hw.out.reads).mono ?_); rintro e w' ⟨rfl, rfl⟩; (try rw [True])))
                    go_ret
                    exact ⟨rfl, HB.out⟩
              · have e2 : grp kn got = grp kn wet := p10.resolve_left e1
                have e3 : ¬ grp kn wet = grp kn old := by rw [← e2]; exact e1
                go_enter Try.func4, Try.ntmps4
                go_wp2_with (first
                  | (go_at_call 9; (with_reducible refine (live_any _).mono ?_); rintro e w' ⟨rfl, hb⟩; have HXd := hide ((Bx.made w (.slice A n c) (.slice B m e') (.int .i64 d.left)).below hb); have HB := hide (Below.then (below_alloc w _) hb); replace HD := hide ((HD.out.alloc (.cells #[.slice A n c, .slice B m e', .int .i64 d.left] 25)).below hb); replace HM := hide ((HM.out.alloc (.cells #[.slice A n c, .slice B m e', .int .i64 d.left] 25)).below hb); have kd0 := HXd.out.c0; have kd1 := HXd.out.c1; have kd2 := HXd.out.c2; clear hb)
                  | (go_at_call 10; (with_reducible refine (few_any _ A n c B m e' d d.left HD.out hn hm).mono ?_); rintro e w' ⟨rfl, hb⟩; rw [hf]; replace HD := hide (HD.out.below hb); replace HM := hide (HM.out.below hb); replace HXd := hide (HXd.out.below hb); replace HB := hide (Below.then_ HB.out hb HB.out.size); have kd0 := HXd.out.c0; have kd1 := HXd.out.c1; have kd2 := HXd.out.c2; clear hb)
                  | (go_at_call 12; (with_reducible refine (crash_any _ A n c B m e' d Am nm cm ms HD.out HM.out hn' hm').mono ?_); rw [HC.out]; rintro e w' ⟨A1, n1, c1, B1, m1, e1, rfl, ho, hb⟩; have H1 : Hid (DR _ A1 n1 B1 m1 Ck) := hide (ho.reads.alloc (.cells #[.slice A1 n1 c1, .slice B1 m1 e1, .int .i64 Ck.left] 25)); have hn1 : n1 ≤ 300000 := (by have h1 : Ck.dry.length = n1 := ho.reads.dlen; have h2 := HZ1.out; omega); have hm1 : m1 ≤ 1000 := (by have h1 : Ck.wet.length = m1 := ho.reads.wlen; have h2 := HZ1.out; omega); have hc1 : n1 ≤ c1 := (row_max ho.1).1; replace HD := hide ((HD.out.below hb).alloc (.cells #[.slice A1 n1 c1, .slice B1 m1 e1, .int .i64 Ck.left] 25)); replace HM := hide ((HM.out.below hb).alloc (.cells #[.slice A1 n1 c1, .slice B1 m1 e1, .int .i64 Ck.left] 25)); replace HXd := hide ((HXd.out.below hb).alloc (.cells #[.slice A1 n1 c1, .slice B1 m1 e1, .int .i64 Ck.left] 25)); replace HB := hide ((Below.then_ HB.out hb HB.out.size).alloc (Nat.le_trans HB.out.size hb.size) (.cells #[.slice A1 n1 c1, .slice B1 m1 e1, .int .i64 Ck.left] 25)); have kd0 := HXd.out.c0; have kd1 := HXd.out.c1; have kd2 := HXd.out.c2; have HX1 := hide (Bx.made w' (.slice A1 n1 c1) (.slice B1 m1 e1) (.int .i64 Ck.left)); clear hb ho)
                  | (go_at_call 16; (with_reducible refine (read_any _ A n c B m e' d s HD.out hn' hm' hc).mono ?_); rw [HR1.out]; rintro e w' ⟨Aw, nw, cw, rfl, ho, hb⟩; have Hw : Hid (OB 0 _ Aw nw cw wet) := hide (ho.mono (Nat.zero_le _)); replace HD := hide (HD.out.below hb); replace H1 := hide (H1.out.below hb); replace HXd := hide (HXd.out.below hb); replace HX1 := hide (HX1.out.below hb); replace HB := hide (Below.then_ HB.out hb HB.out.size); have kd0 := HXd.out.c0; have kd1 := HXd.out.c1; have kd2 := HXd.out.c2; have k10 := HX1.out.c0; have k11 := HX1.out.c1; have k12 := HX1.out.c2; clear hb ho)
                  | (go_at_call 16; (with_reducible refine (read_any _ A1 n1 c1 B1 m1 e1 Ck s H1.out hn1 hm1 hc1).mono ?_); rw [HR2.out]; rintro e w' ⟨Ag, ng, cg, rfl, ho, hb⟩; have kz : ∀ o, (w'.alloc o).cell? ⟨w.heap.size, 0, none⟩ = some (.slice A n c) := fun o => ((HXd.out.below hb).alloc o).c0; have Hg : Hid (OB 0 _ Ag ng cg got) := hide ((ho.mono (Nat.zero_le _)).below (below_alloc _ (.cells #[.slice A n c, .slice none 0 0, .int .i64 (-1)] 25))); replace HD := hide ((HD.out.below hb).alloc (.cells #[.slice A n c, .slice none 0 0, .int .i64 (-1)] 25)); replace H1 := hide ((H1.out.below hb).alloc (.cells #[.slice A n c, .slice none 0 0, .int .i64 (-1)] 25)); replace Hw := hide ((Hw.out.below hb).alloc (.cells #[.slice A n c, .slice none 0 0, .int .i64 (-1)] 25)); replace HXd := hide ((HXd.out.below hb).alloc (.cells #[.slice A n c, .slice none 0 0, .int .i64 (-1)] 25)); replace HX1 := hide ((HX1.out.below hb).alloc (.cells #[.slice A n c, .slice none 0 0, .int .i64 (-1)] 25)); replace HB := hide ((Below.then_ HB.out hb HB.out.size).alloc (Nat.le_trans HB.out.size hb.size) (.cells #[.slice A n c, .slice none 0 0, .int .i64 (-1)] 25)); have kd0 := HXd.out.c0; have kd1 := HXd.out.c1; have kd2 := HXd.out.c2; have k10 := HX1.out.c0; have k11 := HX1.out.c1; have k12 := HX1.out.c2; clear hb ho)
                  | (go_at_call 16; (with_reducible refine (read_is _ A n c none 0 0 d.dried (-1) s rfl HD.out.dried hn' (by omega) hc).mono ?_); rw [HR3.out]; rintro e w' ⟨Ao, no, co, rfl, ho, hb⟩; have Ho : Hid (OB 0 _ Ao no co old) := hide (ho.mono (Nat.zero_le _)); replace HD := hide (HD.out.below hb); replace H1 := hide (H1.out.below hb); replace Hw := hide (Hw.out.below hb); replace Hg := hide (Hg.out.below hb); replace HXd := hide (HXd.out.below hb); replace HX1 := hide (HX1.out.below hb); replace HB := hide (Below.then_ HB.out hb HB.out.size); have kd0 := HXd.out.c0; have kd1 := HXd.out.c1; have kd2 := HXd.out.c2; have k10 := HX1.out.c0; have k11 := HX1.out.c1; have k12 := HX1.out.c2; obtain rfl : 32 = ng := HL.out.1.symm.trans Hg.out.len; obtain rfl : 32 = no := HL.out.2.1.symm.trans Ho.out.len; obtain rfl : 32 = nw := HL.out.2.2.symm.trans Hw.out.len; obtain ⟨gg, rfl⟩ := row_addr Hg.out (by omega); obtain ⟨go, rfl⟩ := row_addr Ho.out (by omega); obtain ⟨gw, rfl⟩ := row_addr Hw.out (by omega); have sg := run_str w' _ 4 (cg - 4 * kn) _ (part_br Hg.out kn hkn); have so := run_str w' _ 4 (co - 4 * kn) _ (part_br Ho.out kn hkn); have sw := run_str w' _ 4 (cw - 4 * kn) _ (part_br Hw.out kn hkn); have hcg := (row_cap Hg.out).1; have hco := (row_cap Ho.out).1; have hcw := (row_cap Hw.out).1; clear hb ho))
                clear Hg Ho H1 HX1 HC HR1 HR2 HR3 HL HM sg so sw kz kd0 kd1 kd2 k10 k11 k12
                go_loopw [20, 147] (fun u v wr => ∃ (j : Nat) (Aa : Option Addr) (ca : Nat), u = .slice Aa j ca ∧ v = .int .i64 j ∧ j ≤ m ∧ Hid (OB w'.heap.size wr Aa j ca (List.replicate j 255)) ∧ Hid (Below w'.heap.size w' wr)) (fun _ v _ => m - (intOf v).toNat)
                case atStart => exact ⟨0, none, 0, rfl, rfl, by omega, OB.nil _ _, Below.refl _ _⟩
                case round =>
                  obtain ⟨j, Aa, ca, rfl, rfl, hj, HA, HL⟩ := hrel
                  have hsz := HL.out.size
                  by_cases hjm : j < m
                  · have hjz : (j : Int) < (m : Int) := by omega
                    go_wp2_with (first
                      | (at_builtin; refine wpList_append_any _ rfl (.tmp 149) (.tmp 150) 22 rfl w'.heap.size 5 i0 _ 1 1 Try.underlying22 hi0 hz0 hz1 hz2 rfl (by omega) (.slice Aa j ca) j (byt (List.replicate j 255)) rfl (HA.out.alloc _) _ (some ⟨wr.heap.size, 0, none⟩) 1 1 (byt [255]) rfl (one_oct wr 255) (byt_one _) (by simp only [maxLen]; omega) (by omega) (by simp; omega) ?_; intro v1 w1 hown1 hg1 hat1; obtain ⟨A1, c1, rfl⟩ := row_slice hown1; rw [← byt_append, rep_snoc] at hown1; have HA1 : Hid (OB w'.heap.size w1 A1 (j + 1) c1 (List.replicate (j + 1) 255)) := hide hown1; have HL1 := hide ((HL.out.alloc hsz (.cells #[.int .u8 255] 5)).grown hg1 (by simp; omega) (fun q hq => (World.ownsRow.lt HA.out q hq).1)); clear hown1 hg1 hat1))
                    go_roundw
                    case rel => exact ⟨j + 1, A1, c1, rfl, by go_num, by omega, HA1, HL1⟩
                    case measure => simp [intOf]; omega
                  · have hjz : ¬ (j : Int) < (m : Int) := by omega
                    obtain rfl : m = j := by omega
                    have HA : Hid (BR wr Aa m (List.replicate m 255)) := hide HA.out.reads
                    replace HD := hide (HD.out.below HL.out)
                    replace Hw := hide (Hw.out.below HL.out)
                    replace HXd := hide (HXd.out.below HL.out)
                    replace HB := hide (Below.then_ HB.out HL.out HB.out.size)
                    have kd0 := HXd.out.c0
                    have kd1 := HXd.out.c1
                    have kd2 := HXd.out.c2
                    clear HL hsz hj
                    go_wp2_with (first
                      | (go_at_call 12; (with_reducible refine (crash_any _ A n c B m e' d Aa m ca (List.replicate m 255) HD.out HA.out hn' hm').mono ?_); rw [HWk.out]; rintro e w' ⟨A4, n4, c4, B4, m4, e4, rfl, ho, hb⟩; have H4 : Hid (DR _ A4 n4 B4 m4 Wk) := hide (ho.reads.alloc (.cells #[.slice A4 n4 c4, .slice B4 m4 e4, .int .i64 Wk.left] 25)); have hn4 : n4 ≤ 300000 := (by have h1 : Wk.dry.length = n4 := ho.reads.dlen; have h2 := HZ2.out; omega); have hm4 : m4 ≤ 1000 := (by have h1 : Wk.wet.length = m4 := ho.reads.wlen; have h2 := HZ2.out; omega); have hc4 : n4 ≤ c4 := (row_max ho.1).1; replace HD := hide ((HD.out.below hb).alloc (.cells #[.slice A4 n4 c4, .slice B4 m4 e4, .int .i64 Wk.left] 25)); replace Hw := hide ((Hw.out.below hb).alloc (.cells #[.slice A4 n4 c4, .slice B4 m4 e4, .int .i64 Wk.left] 25)); replace HXd := hide ((HXd.out.below hb).alloc (.cells #[.slice A4 n4 c4, .slice B4 m4 e4, .int .i64 Wk.left] 25)); replace HB := hide ((Below.then_ HB.out hb HB.out.size).alloc (Nat.le_trans HB.out.size hb.size) (.cells #[.slice A4 n4 c4, .slice B4 m4 e4, .int .i64 Wk.left] 25)); have kd0 := HXd.out.c0; have kd1 := HXd.out.c1; have kd2 := HXd.out.c2; have HX4 := hide (Bx.made w' (.slice A4 n4 c4) (.slice B4 m4 e4) (.int .i64 Wk.left)); clear hb ho)
                      | (go_at_call 16; (with_reducible refine (read_any _ A4 n4 c4 B4 m4 e4 Wk s H4.out hn4 hm4 hc4).mono ?_); rw [HR4.out]; rintro e w' ⟨Ar4, nr4, cr4, rfl, ho, hb⟩; have Hr4 : Hid (BR _ Ar4 nr4 wet) := hide ho.reads; replace HD := hide (HD.out.below hb); replace Hw := hide (Hw.out.below hb); replace H4 := hide (H4.out.below hb); replace HXd := hide (HXd.out.below hb); replace HX4 := hide (HX4.out.below hb); replace HB := hide (Below.then_ HB.out hb HB.out.size); have kd0 := HXd.out.c0; have kd1 := HXd.out.c1; have kd2 := HXd.out.c2; have k40 := HX4.out.c0; have k41 := HX4.out.c1; have k42 := HX4.out.c2; clear hb ho)
                      | (go_at_call 17; (with_reducible refine (sameB_any _ Ar4 (some ⟨gw, 0, none⟩) nr4 32 cr4 cw wet wet Hr4.out Hw.out.reads).mono ?_); rintro e w' ⟨rfl, rfl⟩; (try rw [True])))
                    go_ret
                    exact ⟨rfl, HB.out⟩
            · obtain ⟨Ck, p1, p2, p3, p4, p5, p6⟩ := torn_bad hf0 hg h ms
              have HC := hide p1
              have HZ1 : Hid (Ck.dry.length ≤ 300000 ∧ Ck.wet.length ≤ 1000) := ⟨by omega, by omega⟩
              have HR1 := hide p5
              have HR2 := hide p4
              have HR3 := hide p6
              clear p1 p2 p3 p4 p5 p6 h hg
              go_enter Try.func4, Try.ntmps4
              go_wp2_with (first
                | (go_at_call 9; (with_reducible refine (live_any _).mono ?_); rintro e w' ⟨rfl, hb⟩; have HXd := hide ((Bx.made w (.slice A n c) (.slice B m e') (.int .i64 d.left)).below hb); have HB := hide (Below.then (below_alloc w _) hb); replace HD := hide ((HD.out.alloc (.cells #[.slice A n c, .slice B m e', .int .i64 d.left] 25)).below hb); replace HM := hide ((HM.out.alloc (.cells #[.slice A n c, .slice B m e', .int .i64 d.left] 25)).below hb); have kd0 := HXd.out.c0; have kd1 := HXd.out.c1; have kd2 := HXd.out.c2; clear hb)
                | (go_at_call 10; (with_reducible refine (few_any _ A n c B m e' d d.left HD.out hn hm).mono ?_); rintro e w' ⟨rfl, hb⟩; rw [hf]; replace HD := hide (HD.out.below hb); replace HM := hide (HM.out.below hb); replace HXd := hide (HXd.out.below hb); replace HB := hide (Below.then_ HB.out hb HB.out.size); have kd0 := HXd.out.c0; have kd1 := HXd.out.c1; have kd2 := HXd.out.c2; clear hb)
                | (go_at_call 12; (with_reducible refine (crash_any _ A n c B m e' d Am nm cm ms HD.out HM.out hn' hm').mono ?_); rw [HC.out]; rintro e w' ⟨A1, n1, c1, B1, m1, e1, rfl, ho, hb⟩; have H1 : Hid (DR _ A1 n1 B1 m1 Ck) := hide (ho.reads.alloc (.cells #[.slice A1 n1 c1, .slice B1 m1 e1, .int .i64 Ck.left] 25)); have hn1 : n1 ≤ 300000 := (by have h1 : Ck.dry.length = n1 := ho.reads.dlen; have h2 := HZ1.out; omega); have hm1 : m1 ≤ 1000 := (by have h1 : Ck.wet.length = m1 := ho.reads.wlen; have h2 := HZ1.out; omega); have hc1 : n1 ≤ c1 := (row_max ho.1).1; replace HD := hide ((HD.out.below hb).alloc (.cells #[.slice A1 n1 c1, .slice B1 m1 e1, .int .i64 Ck.left] 25)); replace HM := hide ((HM.out.below hb).alloc (.cells #[.slice A1 n1 c1, .slice B1 m1 e1, .int .i64 Ck.left] 25)); replace HXd := hide ((HXd.out.below hb).alloc (.cells #[.slice A1 n1 c1, .slice B1 m1 e1, .int .i64 Ck.left] 25)); replace HB := hide ((Below.then_ HB.out hb HB.out.size).alloc (Nat.le_trans HB.out.size hb.size) (.cells #[.slice A1 n1 c1, .slice B1 m1 e1, .int .i64 Ck.left] 25)); have kd0 := HXd.out.c0; have kd1 := HXd.out.c1; have kd2 := HXd.out.c2; have HX1 := hide (Bx.made w' (.slice A1 n1 c1) (.slice B1 m1 e1) (.int .i64 Ck.left)); clear hb ho)
                | (go_at_call 16; (with_reducible refine (read_any _ A n c B m e' d s HD.out hn' hm' hc).mono ?_); rw [HR1.out]; rintro e w' ⟨Aw, nw, cw, rfl, ho, hb⟩; have Hw : Hid (OB 0 _ Aw nw cw []) := hide (ho.mono (Nat.zero_le _)); replace HD := hide (HD.out.below hb); replace H1 := hide (H1.out.below hb); replace HXd := hide (HXd.out.below hb); replace HX1 := hide (HX1.out.below hb); replace HB := hide (Below.then_ HB.out hb HB.out.size); have kd0 := HXd.out.c0; have kd1 := HXd.out.c1; have kd2 := HXd.out.c2; have k10 := HX1.out.c0; have k11 := HX1.out.c1; have k12 := HX1.out.c2; clear hb ho)
                | (go_at_call 16; (with_reducible refine (read_any _ A1 n1 c1 B1 m1 e1 Ck s H1.out hn1 hm1 hc1).mono ?_); rw [HR2.out]; rintro e w' ⟨Ag, ng, cg, rfl, ho, hb⟩; have kz : ∀ o, (w'.alloc o).cell? ⟨w.heap.size, 0, none⟩ = some (.slice A n c) := fun o => ((HXd.out.below hb).alloc o).c0; have Hg : Hid (OB 0 _ Ag ng cg []) := hide ((ho.mono (Nat.zero_le _)).below (below_alloc _ (.cells #[.slice A n c, .slice none 0 0, .int .i64 (-1)] 25))); replace HD := hide ((HD.out.below hb).alloc (.cells #[.slice A n c, .slice none 0 0, .int .i64 (-1)] 25)); replace H1 := hide ((H1.out.below hb).alloc (.cells #[.slice A n c, .slice none 0 0, .int .i64 (-1)] 25)); replace Hw := hide ((Hw.out.below hb).alloc (.cells #[.slice A n c, .slice none 0 0, .int .i64 (-1)] 25)); replace HXd := hide ((HXd.out.below hb).alloc (.cells #[.slice A n c, .slice none 0 0, .int .i64 (-1)] 25)); replace HX1 := hide ((HX1.out.below hb).alloc (.cells #[.slice A n c, .slice none 0 0, .int .i64 (-1)] 25)); replace HB := hide ((Below.then_ HB.out hb HB.out.size).alloc (Nat.le_trans HB.out.size hb.size) (.cells #[.slice A n c, .slice none 0 0, .int .i64 (-1)] 25)); have kd0 := HXd.out.c0; have kd1 := HXd.out.c1; have kd2 := HXd.out.c2; have k10 := HX1.out.c0; have k11 := HX1.out.c1; have k12 := HX1.out.c2; clear hb ho)
                | (go_at_call 16; (with_reducible refine (read_is _ A n c none 0 0 d.dried (-1) s rfl HD.out.dried hn' (by omega) hc).mono ?_); rw [HR3.out]; rintro e w' ⟨Ao, no, co, rfl, ho, hb⟩; have Ho : Hid (OB 0 _ Ao no co []) := hide (ho.mono (Nat.zero_le _)); replace HD := hide (HD.out.below hb); replace H1 := hide (H1.out.below hb); replace Hw := hide (Hw.out.below hb); replace Hg := hide (Hg.out.below hb); replace HXd := hide (HXd.out.below hb); replace HX1 := hide (HX1.out.below hb); replace HB := hide (Below.then_ HB.out hb HB.out.size); have kd0 := HXd.out.c0; have kd1 := HXd.out.c1; have kd2 := HXd.out.c2; have k10 := HX1.out.c0; have k11 := HX1.out.c1; have k12 := HX1.out.c2; clear hb ho))
              go_ret
              exact ⟨rfl, HB.out⟩
          · have HC := hide (crashS_bad hg ms)
            have HK := hide (chk_one hg)
            have HZ1 : Hid (Dk.zero.dry.length ≤ 300000 ∧ Dk.zero.wet.length ≤ 1000) := by constructor <;> exact Nat.zero_le _
            clear hg
            go_enter Try.func4, Try.ntmps4
            go_wp2_with (first
              | (go_at_call 9; (with_reducible refine (live_any _).mono ?_); rintro e w' ⟨rfl, hb⟩; have HXd := hide ((Bx.made w (.slice A n c) (.slice B m e') (.int .i64 d.left)).below hb); have HB := hide (Below.then (below_alloc w _) hb); replace HD := hide ((HD.out.alloc (.cells #[.slice A n c, .slice B m e', .int .i64 d.left] 25)).below hb); replace HM := hide ((HM.out.alloc (.cells #[.slice A n c, .slice B m e', .int .i64 d.left] 25)).below hb); have kd0 := HXd.out.c0; have kd1 := HXd.out.c1; have kd2 := HXd.out.c2; clear hb)
              | (go_at_call 10; (with_reducible refine (few_any _ A n c B m e' d d.left HD.out hn hm).mono ?_); rintro e w' ⟨rfl, hb⟩; rw [hf]; replace HD := hide (HD.out.below hb); replace HM := hide (HM.out.below hb); replace HXd := hide (HXd.out.below hb); replace HB := hide (Below.then_ HB.out hb HB.out.size); have kd0 := HXd.out.c0; have kd1 := HXd.out.c1; have kd2 := HXd.out.c2; clear hb)
              | (go_at_call 12; (with_reducible refine (crash_any _ A n c B m e' d Am nm cm ms HD.out HM.out hn' hm').mono ?_); rw [HC.out]; rintro e w' ⟨A1, n1, c1, B1, m1, e1, rfl, ho, hb⟩; have H1 : Hid (DR _ A1 n1 B1 m1 Dk.zero) := hide (ho.reads.alloc (.cells #[.slice A1 n1 c1, .slice B1 m1 e1, .int .i64 Dk.zero.left] 25)); have hn1 : n1 ≤ 300000 := (by have h1 : Dk.zero.dry.length = n1 := ho.reads.dlen; have h2 := HZ1.out; omega); have hm1 : m1 ≤ 1000 := (by have h1 : Dk.zero.wet.length = m1 := ho.reads.wlen; have h2 := HZ1.out; omega); have hc1 : n1 ≤ c1 := (row_max ho.1).1; replace HD := hide ((HD.out.below hb).alloc (.cells #[.slice A1 n1 c1, .slice B1 m1 e1, .int .i64 Dk.zero.left] 25)); replace HM := hide ((HM.out.below hb).alloc (.cells #[.slice A1 n1 c1, .slice B1 m1 e1, .int .i64 Dk.zero.left] 25)); replace HXd := hide ((HXd.out.below hb).alloc (.cells #[.slice A1 n1 c1, .slice B1 m1 e1, .int .i64 Dk.zero.left] 25)); replace HB := hide ((Below.then_ HB.out hb HB.out.size).alloc (Nat.le_trans HB.out.size hb.size) (.cells #[.slice A1 n1 c1, .slice B1 m1 e1, .int .i64 Dk.zero.left] 25)); have kd0 := HXd.out.c0; have kd1 := HXd.out.c1; have kd2 := HXd.out.c2; have HX1 := hide (Bx.made w' (.slice A1 n1 c1) (.slice B1 m1 e1) (.int .i64 Dk.zero.left)); clear hb ho)
              | (go_at_call 15; (with_reducible refine (check_any _ A n c B m e' d HD.out hn' hm').mono ?_); rintro e w' ⟨rfl, hb⟩; rw [HK.out]; replace HD := hide (HD.out.below hb); replace HM := hide (HM.out.below hb); replace H1 := hide (H1.out.below hb); replace HXd := hide (HXd.out.below hb); replace HX1 := hide (HX1.out.below hb); replace HB := hide (Below.then_ HB.out hb HB.out.size); have kd0 := HXd.out.c0; have kd1 := HXd.out.c1; have kd2 := HXd.out.c2; have k10 := HX1.out.c0; have k11 := HX1.out.c1; have k12 := HX1.out.c2; clear hb))
            go_ret
            exact ⟨rfl, HB.out⟩
end Go.Proofs.Ythhemdjggdgaaaa
