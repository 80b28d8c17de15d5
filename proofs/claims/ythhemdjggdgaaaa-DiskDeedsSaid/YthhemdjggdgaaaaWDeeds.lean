/- DiskDeeds: a disk of so many deeds does just so many more. -/
import Derived.Test.YthhemdjggdgaaaaPlDeeds
import Derived.Test.YthhemdjggdgaaaaWCr
namespace Go.Proofs.Ythhemdjggdgaaaa
open Go.RowKit
set_option linter.unusedVariables false

theorem Below.reads_dr {w w' : World} {A : Option Addr} {n : Nat} {B : Option Addr} {m : Nat} {d : Dk} (h : DR w A n B m d) (hb : Below w.heap.size w w') : DR w' A n B m d := h.below hb
theorem tmod3 : ∀ n : Nat, n < 256 → (((n : Nat) : Int).tmod 3 = 0 ∨ ((n : Nat) : Int).tmod 3 = 1 ∨ ((n : Nat) : Int).tmod 3 = 2) := by decide +kernel
/-- What a deed leaves: the next disk in a box of its own, or none. -/
def Deed (w : World) (bx bn : Nat) (A : Option Addr) (n c : Nat) (B : Option Addr) (m e' : Nat) (X : Dk) (w0 : World) (base : Nat) : Prop :=
  ∃ (A' : Option Addr) (n' c' : Nat) (B' : Option Addr) (m' e2 : Nat) (N : Dk), Bx w bn (.slice A' n' c') (.slice B' m' e2) (.int .i64 N.left) ∧ Bx w bx (.slice A n c) (.slice B m e') (.int .i64 X.left) ∧ DR w A n B m X ∧ DO (bx + 1) w A' n' c' B' m' e2 N ∧ Small N ∧ N.left = dec X.left ∧ Below base w0 w

set_option maxRecDepth 100000 in
set_option maxHeartbeats 1000000 in
theorem deedsW (w : World) (A : Option Addr) (n c : Nat) (B : Option Addr) (m e' : Nat) (d : Dk) (k : Int) (Al : Option Addr) (nl cl : Nat) (ls : Bs)
    (hr : DR w A n B m d) (hn : n ≤ maxLen) (hm : m ≤ maxLen) (hls : BR w Al nl ls) (hnl0 : nl ≤ maxLen) :
    Calls Try.prog 6 #[.agg #[.slice A n c, .slice B m e', .int .i64 d.left], .int .i64 k, .slice Al nl cl] w fun e w' => e = .returned (.bool true) ∧ Below w.heap.size w w' := by
  have hmk := make32
  have HD := hide hr
  have HL := hide hls
  clear hr hls

  cases hf : few d with
  | false =>
    clear hmk
    go_enter Try.func6, Try.ntmps6
    go_wp2_with (first
      | (go_at_call 9; (with_reducible refine (live_any _).mono ?_); rintro e w' ⟨rfl, hb⟩; have HXd := hide ((Bx.made w (.slice A n c) (.slice B m e') (.int .i64 d.left)).below hb); have HB := hide (Below.then (below_alloc w _) hb); have kd0 := HXd.out.c0; have kd1 := HXd.out.c1; have kd2 := HXd.out.c2; clear hb)
      | (go_at_call 10; (with_reducible refine (few_any _ A n c B m e' d d.left (HD.out.below HB.out) hn hm).mono ?_); rintro e w' ⟨rfl, hb⟩; rw [hf]; replace HXd := hide (HXd.out.below hb); replace HB := hide (Below.then_ HB.out hb HB.out.size); have kd0 := HXd.out.c0; have kd1 := HXd.out.c1; have kd2 := HXd.out.c2; clear hb))
    go_ret
    exact ⟨rfl, HB.out⟩
  | true =>
    have hf0 := hf
    obtain ⟨f1, f2, f3, f4⟩ := few_bounds hf
    have hdl := HD.out.dlen
    have hwl := HD.out.wlen
    by_cases q1 : 60 < nl
    · have q1z : (60 : Int) < (nl : Int) := by omega
      clear hmk
      go_enter Try.func6, Try.ntmps6
      go_wp2_with (first
        | (go_at_call 9; (with_reducible refine (live_any _).mono ?_); rintro e w' ⟨rfl, hb⟩; have HXd := hide ((Bx.made w (.slice A n c) (.slice B m e') (.int .i64 d.left)).below hb); have HB := hide (Below.then (below_alloc w _) hb); have kd0 := HXd.out.c0; have kd1 := HXd.out.c1; have kd2 := HXd.out.c2; clear hb)
        | (go_at_call 10; (with_reducible refine (few_any _ A n c B m e' d d.left (HD.out.below HB.out) hn hm).mono ?_); rintro e w' ⟨rfl, hb⟩; rw [hf]; replace HXd := hide (HXd.out.below hb); replace HB := hide (Below.then_ HB.out hb HB.out.size); have kd0 := HXd.out.c0; have kd1 := HXd.out.c1; have kd2 := HXd.out.c2; clear hb))
      go_ret
      exact ⟨rfl, HB.out⟩
    · have q1z : ¬ (60 : Int) < (nl : Int) := by omega
      have hn' : n ≤ 300000 := by omega
      have hm' : m ≤ 1000 := by omega
      clear f1 f2 f3 f4 hdl hwl
      by_cases h : Good d ∧ -1 ≤ k ∧ k ≤ 1073741824
      · obtain ⟨X0, p1, p2, p3⟩ := deeds_lim hf0 h
        have HLM := hide p1
        have HSM := hide p2
        have HK : Hid (X0.left = k) := p3
        have HKB : Hid (-1 ≤ k) := h.2.1
        clear p1 p2 p3 h hf0
        go_enter Try.func6, Try.ntmps6
        go_wp2_with (first
          | (go_at_call 9; (with_reducible refine (live_any _).mono ?_); rintro e w' ⟨rfl, hb⟩; have HXd := hide ((Bx.made w (.slice A n c) (.slice B m e') (.int .i64 d.left)).below hb); have HB := hide (Below.then (below_alloc w _) hb); have kd0 := HXd.out.c0; have kd1 := HXd.out.c1; have kd2 := HXd.out.c2; clear hb)
          | (go_at_call 10; (with_reducible refine (few_any _ A n c B m e' d d.left (HD.out.below HB.out) hn hm).mono ?_); rintro e w' ⟨rfl, hb⟩; rw [hf]; replace HXd := hide (HXd.out.below hb); replace HB := hide (Below.then_ HB.out hb HB.out.size); have kd0 := HXd.out.c0; have kd1 := HXd.out.c1; have kd2 := HXd.out.c2; clear hb)
          | (go_at_call 20; (with_reducible refine (lim_any _ A n c B m e' d k (HD.out.below HB.out) hn' hm').mono ?_); rw [HLM.out]; rintro e wx ⟨Ax, nx, cx, Bp, mx, ex, rfl, ho, hb⟩; have Hx : Hid (DR _ Ax nx Bp mx X0) := hide (ho.reads.alloc (.cells #[.slice Ax nx cx, .slice Bp mx ex, .int .i64 X0.left] 25)); have hcx : nx ≤ cx := (row_max ho.1).1; have HSX : Hid (w.heap.size ≤ wx.heap.size) := Nat.le_trans HB.out.size hb.size; replace HXd := hide ((HXd.out.below hb).alloc (.cells #[.slice Ax nx cx, .slice Bp mx ex, .int .i64 X0.left] 25)); replace HB := hide ((Below.then_ HB.out hb HB.out.size).alloc (Nat.le_trans HB.out.size hb.size) (.cells #[.slice Ax nx cx, .slice Bp mx ex, .int .i64 X0.left] 25)); have kd0 := HXd.out.c0; have kd1 := HXd.out.c1; have kd2 := HXd.out.c2; have HXx := hide (Bx.made wx (.slice Ax nx cx) (.slice Bp mx ex) (.int .i64 X0.left)); clear hb ho))
        clear kd0 kd1 kd2
        generalize hW5 : wx.alloc (.cells #[.slice Ax nx cx, .slice Bp mx ex, .int .i64 X0.left] 25) = W5 at HXx Hx HB HXd
        generalize hbx : wx.heap.size = bx at HXx HSX
        have HBX := hide hbx
        clear hW5 hbx
        go_loopw [10, 39] (fun u v wr => ∃ (j : Nat) (X : Dk) (A : Option Addr) (n c : Nat) (B : Option Addr) (m e' : Nat), u = .int .i64 X.left ∧ v = .int .i64 j ∧ j ≤ nl ∧ Hid (Small X) ∧ Hid (Bx wr bx (.slice A n c) (.slice B m e') (.int .i64 X.left)) ∧ Hid (DR wr A n B m X) ∧ n ≤ c ∧ Hid (k = -1 → X.left = -1) ∧ Hid (Below w.heap.size w wr)) (fun _ v _ => nl - (intOf v).toNat)
        case atStart => exact ⟨0, X0, Ax, nx, cx, Bp, mx, ex, by rw [HK.out], rfl, by omega, HSM, HXx, Hx, hcx, fun h => by rw [HK.out]; exact h, HB⟩
        case round =>
          clear HXx Hx hcx HB HXd HK HSM
          obtain ⟨j, X, Ax, nx, cx, Bp, mx, ex, rfl, rfl, hj, HSM, HX, HR, hcx, HKK, HB⟩ := hrel
          have hnx : nx ≤ 300000 := by have h1 := HR.out.dlen; have h2 := HSM.out.dry; omega
          have hmx : mx ≤ 1000 := by have h1 := HR.out.wlen; have h2 := HSM.out.wet; omega
          have HLO : Hid (-1 ≤ X.left ∧ X.left ≤ 1073741824) := ⟨HSM.out.good.left0, HSM.out.good.left1⟩
          by_cases hjn : j < nl
          · have hjz : (j : Int) < (nl : Int) := by omega
            obtain ⟨al, rfl, lc0⟩ := (HL.out.below HB.out).cell j hjn
            generalize hv : ls.getD j 0 = vb at lc0
            clear hv
            have HX1 := hide (HX.out.alloc (.cells #[.slice none 0 0, .slice none 0 0, .int .i64 0] 25))
            have hbl := HX.out.lt
            have HSZ : Hid (w.heap.size ≤ wr.heap.size) := HB.out.size
            have k0 := HX1.out.c0
            have k1 := HX1.out.c1
            have k2 := HX1.out.c2
            have HN1 := hide (Bx.made wr (.slice none 0 0) (.slice none 0 0) (.int .i64 0))
            have HR1 := hide (HR.out.alloc (.cells #[.slice none 0 0, .slice none 0 0, .int .i64 0] 25))
            have HB1 := hide (HB.out.alloc HSZ.out (.cells #[.slice none 0 0, .slice none 0 0, .int .i64 0] 25))
            rcases tmod3 vb.toNat vb.toNat_lt with hv | hv | hv
            · by_cases h0 : X.left = 0
              · have HS := hide (write_dead HSM.out.is0 (zeros_len 32) h0)
                have h0z : (X.left == 0) = true := by rw [beq_iff_eq]; exact h0
                have hk : ¬ k = -1 := fun h => by have := HKK.out h; omega
                have hkz : (k == -1) = false := by rw [beq_eq_false_iff_ne]; exact hk
                clear h0
                obtain ⟨W0, hW0⟩ : ∃ W0, W0 = wr.alloc (.cells #[.slice none 0 0, .slice none 0 0, .int .i64 0] 25) := ⟨_, rfl⟩
                have hs0 : W0.heap.size = wr.heap.size + 1 := by rw [hW0]; simp
                have HRm : Hid (DR (W0.drew.alloc (.cells (madeCells #[.int .u8 0] 32) 5)) Ax nx Bp mx X) := by show DR _ _ _ _ _ _; rw [hW0]; exact (HR1.out.below (Below.refl _ _).drew).alloc _
                have HBm : Hid (BR (W0.drew.alloc (.cells (madeCells #[.int .u8 0] 32) 5)) (some ⟨wr.heap.size + 1, 0, none⟩) 32 (zeros 32)) := by have := made32 W0.drew; rw [show W0.drew.heap.size = wr.heap.size + 1 from hs0] at this; exact this
                have HXm : Hid (Bx (W0.drew.alloc (.cells (madeCells #[.int .u8 0] 32) 5)) bx (.slice Ax nx cx) (.slice Bp mx ex) (.int .i64 X.left)) := by show Bx _ _ _ _ _; rw [hW0]; exact (HX1.out.below (Below.refl _ _).drew).alloc _
                have HNm : Hid (Bx (W0.drew.alloc (.cells (madeCells #[.int .u8 0] 32) 5)) wr.heap.size (.slice none 0 0) (.slice none 0 0) (.int .i64 0)) := by show Bx _ _ _ _ _; rw [hW0]; exact (HN1.out.below (Below.refl _ _).drew).alloc _
                have HBBm : Hid (Below wr.heap.size wr (W0.drew.alloc (.cells (madeCells #[.int .u8 0] 32) 5))) := by show Below _ _ _; rw [hW0]; exact ((below_alloc wr (.cells #[.slice none 0 0, .slice none 0 0, .int .i64 0] 25)).drew).alloc (by simp) _
                have m0 := HXm.out.c0
                have m1 := HXm.out.c1
                have m2 := HXm.out.c2
                rw [hW0] at HRm HBm HXm HNm HBBm m0 m1 m2
                clear hW0 hs0
                go_upto_region 18 with fail
                go_region_with (first
                  | (go_at_call 18; (refine (write_any _ Ax nx cx Bp mx ex X X.left 0 (some ⟨wr.heap.size + 1, 0, none⟩) 32 32 (zeros 32) rfl HRm.out HBm.out hnx hmx).mono ?_); rw [HS.out]; rintro e w2 ⟨A2, n2, c2, B2, m2, e2, rfl, ho, hb⟩; have N2 := HNm.out.below hb; have s0 := N2.c0; have s1 := N2.c1; have s2 := N2.c2; have g0 := N2.f 0; have g1 := N2.f 1; have g2 := N2.f 2; have X2 := HXm.out.below hb; have X3 := X2.beside (k := wr.heap.size) (u := .slice A2 n2 c2) (v := .slice B2 m2 e2) (t := .int .i64 Dk.zero.left) (Nat.ne_of_gt hbl); have v0 := X3.c0; have v1 := X3.c1; have v2 := X3.c2; have y0 := X3.f 0; have y1 := X3.f 1; have y2 := X3.f 2; have HX3 := hide X3; have HR3 := hide (Below.reads_dr HR.out (below_boxed (b := wr.heap.size) (u := .slice A2 n2 c2) (v := .slice B2 m2 e2) (t := .int .i64 Dk.zero.left) (Below.then_ HBBm.out hb HBBm.out.size) (Nat.le_refl _))); have HB3 := hide (below_boxed (b := wr.heap.size) (u := .slice A2 n2 c2) (v := .slice B2 m2 e2) (t := .int .i64 Dk.zero.left) (HB.out.trans ((Below.then_ HBBm.out hb HBBm.out.size).mono HSZ.out)) HSZ.out); clear N2 X2 X3 ho hb))
                all_goals
                  go_wp2_with fail
                  go_roundw
                  case rel => exact ⟨j + 1, X, Ax, nx, cx, Bp, mx, ex, rfl, by go_num, by omega, HSM, HX3, HR3, hcx, HKK, HB3⟩
                  case measure => simp [intOf]; omega
              · obtain ⟨N, p1, p2, p3⟩ := HSM.out.write h0
                have h0z : (X.left == 0) = false := by rw [beq_eq_false_iff_ne]; exact h0
                have HS := hide p1
                have HSN := hide p2
                have HND := hide p3
                clear p1 p2 p3
                by_cases hX : X.left = -1
                · by_cases hk : k = -1
                  · have hkz : (k == -1) = true := by rw [beq_iff_eq]; exact hk
                    clear hk
                    have hlo1 := HLO.out.1
                    have hlo2 := HLO.out.2
                    have hw1 : IntKind.i64.wrap (X.left - 1) = X.left - 1 := IntWalk.i64_in _ (by omega)
                    have hw2 : wrap64 (X.left - 1) = X.left - 1 := IntWalk.wrap64_in _ (by omega)
                    have c1 : X.left - 1 < -1 := by omega
                    have HNL : Hid (N.left = -1) := by show _ = _; rw [HND.out]; unfold dec; rw [if_neg (by omega)]; exact hX
                    have hne : (N.left != -1) = false := by rw [bne_eq_false_iff_eq]; exact HNL.out
                    clear hX hlo1 hlo2
                    obtain ⟨W0, hW0⟩ : ∃ W0, W0 = wr.alloc (.cells #[.slice none 0 0, .slice none 0 0, .int .i64 0] 25) := ⟨_, rfl⟩
                    have hs0 : W0.heap.size = wr.heap.size + 1 := by rw [hW0]; simp
                    have HRm : Hid (DR (W0.drew.alloc (.cells (madeCells #[.int .u8 0] 32) 5)) Ax nx Bp mx X) := by show DR _ _ _ _ _ _; rw [hW0]; exact (HR1.out.below (Below.refl _ _).drew).alloc _
                    have HBm : Hid (BR (W0.drew.alloc (.cells (madeCells #[.int .u8 0] 32) 5)) (some ⟨wr.heap.size + 1, 0, none⟩) 32 (zeros 32)) := by have := made32 W0.drew; rw [show W0.drew.heap.size = wr.heap.size + 1 from hs0] at this; exact this
                    have HXm : Hid (Bx (W0.drew.alloc (.cells (madeCells #[.int .u8 0] 32) 5)) bx (.slice Ax nx cx) (.slice Bp mx ex) (.int .i64 X.left)) := by show Bx _ _ _ _ _; rw [hW0]; exact (HX1.out.below (Below.refl _ _).drew).alloc _
                    have HNm : Hid (Bx (W0.drew.alloc (.cells (madeCells #[.int .u8 0] 32) 5)) wr.heap.size (.slice none 0 0) (.slice none 0 0) (.int .i64 0)) := by show Bx _ _ _ _ _; rw [hW0]; exact (HN1.out.below (Below.refl _ _).drew).alloc _
                    have HBBm : Hid (Below wr.heap.size wr (W0.drew.alloc (.cells (madeCells #[.int .u8 0] 32) 5))) := by show Below _ _ _; rw [hW0]; exact ((below_alloc wr (.cells #[.slice none 0 0, .slice none 0 0, .int .i64 0] 25)).drew).alloc (by simp) _
                    have m0 := HXm.out.c0
                    have m1 := HXm.out.c1
                    have m2 := HXm.out.c2
                    rw [hW0] at HRm HBm HXm HNm HBBm m0 m1 m2
                    clear hW0 hs0
                    go_upto_region 18 with fail
                    go_region_with (first
                      | (go_at_call 18; (refine (write_any _ Ax nx cx Bp mx ex X X.left 0 (some ⟨wr.heap.size + 1, 0, none⟩) 32 32 (zeros 32) rfl HRm.out HBm.out hnx hmx).mono ?_); rw [HS.out]; rintro e w2 ⟨A2, n2, c2, B2, m2, e2, rfl, ho, hb⟩; have N2 := HNm.out.below hb; have s0 := N2.c0; have s1 := N2.c1; have s2 := N2.c2; have g0 := N2.f 0; have g1 := N2.f 1; have g2 := N2.f 2; have X2 := HXm.out.below hb; have X3 := X2.beside (k := wr.heap.size) (u := .slice A2 n2 c2) (v := .slice B2 m2 e2) (t := .int .i64 N.left) (Nat.ne_of_gt hbl); have v0 := X3.c0; have v1 := X3.c1; have v2 := X3.c2; have y0 := X3.f 0; have y1 := X3.f 1; have y2 := X3.f 2; have HX3 := hide X3; have N3 := N2.boxed (u := .slice A2 n2 c2) (v := .slice B2 m2 e2) (t := .int .i64 N.left); have t0 := N3.c0; have t1 := N3.c1; have t2 := N3.c2; have X4 := X3.boxed (u := .slice A2 n2 c2) (v := .slice B2 m2 e2) (t := .int .i64 N.left); have xl := X4.c2; have HX4 := hide X4; have HC2 : Hid (n2 ≤ c2) := (row_max ho.1).1; have HD3 := hide ((ho.boxed (b := wr.heap.size) (u := .slice A2 n2 c2) (v := .slice B2 m2 e2) (t := .int .i64 N.left) (by simp; omega)).mono (b' := bx + 1) (by simp; omega)); have HB3 := hide (below_boxed (b := wr.heap.size) (u := .slice A2 n2 c2) (v := .slice B2 m2 e2) (t := .int .i64 N.left) (HB.out.trans ((Below.then_ HBBm.out hb HBBm.out.size).mono HSZ.out)) HSZ.out); clear N2 X2 X3 N3 X4 ho hb))
                    all_goals
                      go_wp2_with fail
                      go_roundw
                      case rel => exact ⟨j + 1, N, A2, n2, c2, B2, m2, e2, by rw [HNL.out], by go_num, by omega, HSN, HX4, hide (HD3.out.boxed (b := bx) (u := .slice A2 n2 c2) (v := .slice B2 m2 e2) (t := .int .i64 N.left) (by omega)).reads, HC2.out, fun _ => HNL.out, hide (below_boxed (b := bx) (u := .slice A2 n2 c2) (v := .slice B2 m2 e2) (t := .int .i64 N.left) HB3.out HSX.out)⟩
                      case measure => simp [intOf]; omega
                  · have hkz : (k == -1) = false := by rw [beq_eq_false_iff_ne]; exact hk
                    have hlo1 := HLO.out.1
                    have hlo2 := HLO.out.2
                    have hw1 : IntKind.i64.wrap (X.left - 1) = X.left - 1 := IntWalk.i64_in _ (by omega)
                    have hw2 : wrap64 (X.left - 1) = X.left - 1 := IntWalk.wrap64_in _ (by omega)
                    have c1 : X.left - 1 < -1 := by omega
                    have HNL : Hid (N.left = -1) := by show _ = _; rw [HND.out]; unfold dec; rw [if_neg (by omega)]; exact hX
                    have hne : (N.left != -1) = false := by rw [bne_eq_false_iff_eq]; exact HNL.out
                    clear hX hlo1 hlo2
                    obtain ⟨W0, hW0⟩ : ∃ W0, W0 = wr.alloc (.cells #[.slice none 0 0, .slice none 0 0, .int .i64 0] 25) := ⟨_, rfl⟩
                    have hs0 : W0.heap.size = wr.heap.size + 1 := by rw [hW0]; simp
                    have HRm : Hid (DR (W0.drew.alloc (.cells (madeCells #[.int .u8 0] 32) 5)) Ax nx Bp mx X) := by show DR _ _ _ _ _ _; rw [hW0]; exact (HR1.out.below (Below.refl _ _).drew).alloc _
                    have HBm : Hid (BR (W0.drew.alloc (.cells (madeCells #[.int .u8 0] 32) 5)) (some ⟨wr.heap.size + 1, 0, none⟩) 32 (zeros 32)) := by have := made32 W0.drew; rw [show W0.drew.heap.size = wr.heap.size + 1 from hs0] at this; exact this
                    have HXm : Hid (Bx (W0.drew.alloc (.cells (madeCells #[.int .u8 0] 32) 5)) bx (.slice Ax nx cx) (.slice Bp mx ex) (.int .i64 X.left)) := by show Bx _ _ _ _ _; rw [hW0]; exact (HX1.out.below (Below.refl _ _).drew).alloc _
                    have HNm : Hid (Bx (W0.drew.alloc (.cells (madeCells #[.int .u8 0] 32) 5)) wr.heap.size (.slice none 0 0) (.slice none 0 0) (.int .i64 0)) := by show Bx _ _ _ _ _; rw [hW0]; exact (HN1.out.below (Below.refl _ _).drew).alloc _
                    have HBBm : Hid (Below wr.heap.size wr (W0.drew.alloc (.cells (madeCells #[.int .u8 0] 32) 5))) := by show Below _ _ _; rw [hW0]; exact ((below_alloc wr (.cells #[.slice none 0 0, .slice none 0 0, .int .i64 0] 25)).drew).alloc (by simp) _
                    have m0 := HXm.out.c0
                    have m1 := HXm.out.c1
                    have m2 := HXm.out.c2
                    rw [hW0] at HRm HBm HXm HNm HBBm m0 m1 m2
                    clear hW0 hs0
                    go_upto_region 18 with fail
                    go_region_with (first
                      | (go_at_call 18; (refine (write_any _ Ax nx cx Bp mx ex X X.left 0 (some ⟨wr.heap.size + 1, 0, none⟩) 32 32 (zeros 32) rfl HRm.out HBm.out hnx hmx).mono ?_); rw [HS.out]; rintro e w2 ⟨A2, n2, c2, B2, m2, e2, rfl, ho, hb⟩; have N2 := HNm.out.below hb; have s0 := N2.c0; have s1 := N2.c1; have s2 := N2.c2; have g0 := N2.f 0; have g1 := N2.f 1; have g2 := N2.f 2; have X2 := HXm.out.below hb; have X3 := X2.beside (k := wr.heap.size) (u := .slice A2 n2 c2) (v := .slice B2 m2 e2) (t := .int .i64 N.left) (Nat.ne_of_gt hbl); have v0 := X3.c0; have v1 := X3.c1; have v2 := X3.c2; have y0 := X3.f 0; have y1 := X3.f 1; have y2 := X3.f 2; have HX3 := hide X3; have N3 := N2.boxed (u := .slice A2 n2 c2) (v := .slice B2 m2 e2) (t := .int .i64 N.left); have t0 := N3.c0; have t1 := N3.c1; have t2 := N3.c2; have X4 := X3.boxed (u := .slice A2 n2 c2) (v := .slice B2 m2 e2) (t := .int .i64 N.left); have xl := X4.c2; have HX4 := hide X4; have HC2 : Hid (n2 ≤ c2) := (row_max ho.1).1; have HD3 := hide ((ho.boxed (b := wr.heap.size) (u := .slice A2 n2 c2) (v := .slice B2 m2 e2) (t := .int .i64 N.left) (by simp; omega)).mono (b' := bx + 1) (by simp; omega)); have HB3 := hide (below_boxed (b := wr.heap.size) (u := .slice A2 n2 c2) (v := .slice B2 m2 e2) (t := .int .i64 N.left) (HB.out.trans ((Below.then_ HBBm.out hb HBBm.out.size).mono HSZ.out)) HSZ.out); clear N2 X2 X3 N3 X4 ho hb))
                    all_goals
                      go_wp2_with fail
                      go_roundw
                      case rel => exact ⟨j + 1, N, A2, n2, c2, B2, m2, e2, by rw [HNL.out], by go_num, by omega, HSN, HX4, hide (HD3.out.boxed (b := bx) (u := .slice A2 n2 c2) (v := .slice B2 m2 e2) (t := .int .i64 N.left) (by omega)).reads, HC2.out, fun _ => HNL.out, hide (below_boxed (b := bx) (u := .slice A2 n2 c2) (v := .slice B2 m2 e2) (t := .int .i64 N.left) HB3.out HSX.out)⟩
                      case measure => simp [intOf]; omega
                · have hk : ¬ k = -1 := fun h => hX (HKK.out h)
                  have hkz : (k == -1) = false := by rw [beq_eq_false_iff_ne]; exact hk
                  have hlo1 := HLO.out.1
                  have hlo2 := HLO.out.2
                  have hw1 : IntKind.i64.wrap (X.left - 1) = X.left - 1 := IntWalk.i64_in _ (by omega)
                  have hw2 : wrap64 (X.left - 1) = X.left - 1 := IntWalk.wrap64_in _ (by omega)
                  have c1 : ¬ X.left - 1 < -1 := by omega
                  have HNL : Hid (N.left = X.left - 1) := by show _ = _; rw [HND.out]; unfold dec; rw [if_pos (by omega)]
                  have hne : (N.left != X.left - 1) = false := by rw [bne_eq_false_iff_eq]; exact HNL.out
                  clear hX hlo1 hlo2
                  obtain ⟨W0, hW0⟩ : ∃ W0, W0 = wr.alloc (.cells #[.slice none 0 0, .slice none 0 0, .int .i64 0] 25) := ⟨_, rfl⟩
                  have hs0 : W0.heap.size = wr.heap.size + 1 := by rw [hW0]; simp
                  have HRm : Hid (DR (W0.drew.alloc (.cells (madeCells #[.int .u8 0] 32) 5)) Ax nx Bp mx X) := by show DR _ _ _ _ _ _; rw [hW0]; exact (HR1.out.below (Below.refl _ _).drew).alloc _
                  have HBm : Hid (BR (W0.drew.alloc (.cells (madeCells #[.int .u8 0] 32) 5)) (some ⟨wr.heap.size + 1, 0, none⟩) 32 (zeros 32)) := by have := made32 W0.drew; rw [show W0.drew.heap.size = wr.heap.size + 1 from hs0] at this; exact this
                  have HXm : Hid (Bx (W0.drew.alloc (.cells (madeCells #[.int .u8 0] 32) 5)) bx (.slice Ax nx cx) (.slice Bp mx ex) (.int .i64 X.left)) := by show Bx _ _ _ _ _; rw [hW0]; exact (HX1.out.below (Below.refl _ _).drew).alloc _
                  have HNm : Hid (Bx (W0.drew.alloc (.cells (madeCells #[.int .u8 0] 32) 5)) wr.heap.size (.slice none 0 0) (.slice none 0 0) (.int .i64 0)) := by show Bx _ _ _ _ _; rw [hW0]; exact (HN1.out.below (Below.refl _ _).drew).alloc _
                  have HBBm : Hid (Below wr.heap.size wr (W0.drew.alloc (.cells (madeCells #[.int .u8 0] 32) 5))) := by show Below _ _ _; rw [hW0]; exact ((below_alloc wr (.cells #[.slice none 0 0, .slice none 0 0, .int .i64 0] 25)).drew).alloc (by simp) _
                  have m0 := HXm.out.c0
                  have m1 := HXm.out.c1
                  have m2 := HXm.out.c2
                  rw [hW0] at HRm HBm HXm HNm HBBm m0 m1 m2
                  clear hW0 hs0
                  go_upto_region 18 with fail
                  go_region_with (first
                    | (go_at_call 18; (refine (write_any _ Ax nx cx Bp mx ex X X.left 0 (some ⟨wr.heap.size + 1, 0, none⟩) 32 32 (zeros 32) rfl HRm.out HBm.out hnx hmx).mono ?_); rw [HS.out]; rintro e w2 ⟨A2, n2, c2, B2, m2, e2, rfl, ho, hb⟩; have N2 := HNm.out.below hb; have s0 := N2.c0; have s1 := N2.c1; have s2 := N2.c2; have g0 := N2.f 0; have g1 := N2.f 1; have g2 := N2.f 2; have X2 := HXm.out.below hb; have X3 := X2.beside (k := wr.heap.size) (u := .slice A2 n2 c2) (v := .slice B2 m2 e2) (t := .int .i64 N.left) (Nat.ne_of_gt hbl); have v0 := X3.c0; have v1 := X3.c1; have v2 := X3.c2; have y0 := X3.f 0; have y1 := X3.f 1; have y2 := X3.f 2; have HX3 := hide X3; have N3 := N2.boxed (u := .slice A2 n2 c2) (v := .slice B2 m2 e2) (t := .int .i64 N.left); have t0 := N3.c0; have t1 := N3.c1; have t2 := N3.c2; have X4 := X3.boxed (u := .slice A2 n2 c2) (v := .slice B2 m2 e2) (t := .int .i64 N.left); have xl := X4.c2; have HX4 := hide X4; have HC2 : Hid (n2 ≤ c2) := (row_max ho.1).1; have HD3 := hide ((ho.boxed (b := wr.heap.size) (u := .slice A2 n2 c2) (v := .slice B2 m2 e2) (t := .int .i64 N.left) (by simp; omega)).mono (b' := bx + 1) (by simp; omega)); have HB3 := hide (below_boxed (b := wr.heap.size) (u := .slice A2 n2 c2) (v := .slice B2 m2 e2) (t := .int .i64 N.left) (HB.out.trans ((Below.then_ HBBm.out hb HBBm.out.size).mono HSZ.out)) HSZ.out); clear N2 X2 X3 N3 X4 ho hb))
                  all_goals
                    go_wp2_with fail
                    go_roundw
                    case rel => exact ⟨j + 1, N, A2, n2, c2, B2, m2, e2, by rw [HNL.out], by go_num, by omega, HSN, HX4, hide (HD3.out.boxed (b := bx) (u := .slice A2 n2 c2) (v := .slice B2 m2 e2) (t := .int .i64 N.left) (by omega)).reads, HC2.out, fun h => absurd h hk, hide (below_boxed (b := bx) (u := .slice A2 n2 c2) (v := .slice B2 m2 e2) (t := .int .i64 N.left) HB3.out HSX.out)⟩
                    case measure => simp [intOf]; omega
            · clear hmk
              by_cases h0 : X.left = 0
              · have HS := hide (sync_dead HSM.out.good h0)
                have h0z : (X.left == 0) = true := by rw [beq_iff_eq]; exact h0
                have hk : ¬ k = -1 := fun h => by have := HKK.out h; omega
                have hkz : (k == -1) = false := by rw [beq_eq_false_iff_ne]; exact hk
                clear h0
                go_wp2_with (first
                  | (go_at_call 19; (with_reducible refine (sync_any _ Ax nx cx Bp mx ex X X.left rfl HR1.out hnx hmx).mono ?_); rw [HS.out]; rintro e w2 ⟨A2, n2, c2, B2, m2, e2, rfl, ho, hb⟩; have N2 := HN1.out.below hb; have s0 := N2.c0; have s1 := N2.c1; have s2 := N2.c2; have g0 := N2.f 0; have g1 := N2.f 1; have g2 := N2.f 2; have X2 := HX1.out.below hb; have X3 := X2.beside (k := wr.heap.size) (u := .slice A2 n2 c2) (v := .slice B2 m2 e2) (t := .int .i64 Dk.zero.left) (Nat.ne_of_gt hbl); have v0 := X3.c0; have v1 := X3.c1; have v2 := X3.c2; have HX3 := hide X3; have HR3 := hide (Below.reads_dr (HR.out) (below_boxed (b := wr.heap.size) (u := .slice A2 n2 c2) (v := .slice B2 m2 e2) (t := .int .i64 Dk.zero.left) (Below.then_ (below_alloc wr (.cells #[.slice none 0 0, .slice none 0 0, .int .i64 0] 25)) hb (below_alloc wr (.cells #[.slice none 0 0, .slice none 0 0, .int .i64 0] 25)).size) (Nat.le_refl _))); have HB3 := hide (below_boxed (b := wr.heap.size) (u := .slice A2 n2 c2) (v := .slice B2 m2 e2) (t := .int .i64 Dk.zero.left) (Below.then_ HB1.out hb HB1.out.size) HSZ.out); clear N2 X2 X3 ho hb))
                go_roundw
                case rel => exact ⟨j + 1, X, Ax, nx, cx, Bp, mx, ex, rfl, by go_num, by omega, HSM, HX3, HR3, hcx, HKK, HB3⟩
                case measure => simp [intOf]; omega
              · obtain ⟨N, p1, p2, p3⟩ := HSM.out.sync h0
                have h0z : (X.left == 0) = false := by rw [beq_eq_false_iff_ne]; exact h0
                have HS := hide p1
                have HSN := hide p2
                have HND := hide p3
                clear p1 p2 p3
                by_cases hX : X.left = -1
                · by_cases hk : k = -1
                  · have hkz : (k == -1) = true := by rw [beq_iff_eq]; exact hk
                    clear hk
                    have hlo1 := HLO.out.1
                    have hlo2 := HLO.out.2
                    have hw1 : IntKind.i64.wrap (X.left - 1) = X.left - 1 := IntWalk.i64_in _ (by omega)
                    have hw2 : wrap64 (X.left - 1) = X.left - 1 := IntWalk.wrap64_in _ (by omega)
                    have c1 : X.left - 1 < -1 := by omega
                    have HNL : Hid (N.left = -1) := by show _ = _; rw [HND.out]; unfold dec; rw [if_neg (by omega)]; exact hX
                    have hne : (N.left != -1) = false := by rw [bne_eq_false_iff_eq]; exact HNL.out
                    clear hX hlo1 hlo2
                    go_wp2_with (first
                      | (go_at_call 19; (with_reducible refine (sync_any _ Ax nx cx Bp mx ex X X.left rfl HR1.out hnx hmx).mono ?_); rw [HS.out]; rintro e w2 ⟨A2, n2, c2, B2, m2, e2, rfl, ho, hb⟩; have N2 := HN1.out.below hb; have s0 := N2.c0; have s1 := N2.c1; have s2 := N2.c2; have g0 := N2.f 0; have g1 := N2.f 1; have g2 := N2.f 2; have N3 := N2.boxed (u := .slice A2 n2 c2) (v := .slice B2 m2 e2) (t := .int .i64 N.left); have t0 := N3.c0; have t1 := N3.c1; have t2 := N3.c2; have X2 := HX1.out.below hb; have X3 := X2.beside (k := wr.heap.size) (u := .slice A2 n2 c2) (v := .slice B2 m2 e2) (t := .int .i64 N.left) (Nat.ne_of_gt hbl); have v0 := X3.c0; have v1 := X3.c1; have v2 := X3.c2; have y0 := X3.f 0; have y1 := X3.f 1; have y2 := X3.f 2; have HX3 := hide X3; have X4 := X3.boxed (u := .slice A2 n2 c2) (v := .slice B2 m2 e2) (t := .int .i64 N.left); have xl := X4.c2; have HX4 := hide X4; have HC2 : Hid (n2 ≤ c2) := (row_max ho.1).1; have HD3 := hide ((ho.boxed (b := wr.heap.size) (u := .slice A2 n2 c2) (v := .slice B2 m2 e2) (t := .int .i64 N.left) (by simp)).mono (b' := bx + 1) (by simp; omega)); have HB3 := hide (below_boxed (b := wr.heap.size) (u := .slice A2 n2 c2) (v := .slice B2 m2 e2) (t := .int .i64 N.left) (Below.then_ HB1.out hb HB1.out.size) HSZ.out); clear N2 N3 X2 X3 X4 ho hb))
                    go_roundw
                    case rel => exact ⟨j + 1, N, A2, n2, c2, B2, m2, e2, by rw [HNL.out], by go_num, by omega, HSN, HX4, hide (HD3.out.boxed (b := bx) (u := .slice A2 n2 c2) (v := .slice B2 m2 e2) (t := .int .i64 N.left) (by omega)).reads, HC2.out, fun _ => HNL.out, hide (below_boxed (b := bx) (u := .slice A2 n2 c2) (v := .slice B2 m2 e2) (t := .int .i64 N.left) HB3.out HSX.out)⟩
                    case measure => simp [intOf]; omega
                  · have hkz : (k == -1) = false := by rw [beq_eq_false_iff_ne]; exact hk
                    have hlo1 := HLO.out.1
                    have hlo2 := HLO.out.2
                    have hw1 : IntKind.i64.wrap (X.left - 1) = X.left - 1 := IntWalk.i64_in _ (by omega)
                    have hw2 : wrap64 (X.left - 1) = X.left - 1 := IntWalk.wrap64_in _ (by omega)
                    have c1 : X.left - 1 < -1 := by omega
                    have HNL : Hid (N.left = -1) := by show _ = _; rw [HND.out]; unfold dec; rw [if_neg (by omega)]; exact hX
                    have hne : (N.left != -1) = false := by rw [bne_eq_false_iff_eq]; exact HNL.out
                    clear hX hlo1 hlo2
                    go_wp2_with (first
                      | (go_at_call 19; (with_reducible refine (sync_any _ Ax nx cx Bp mx ex X X.left rfl HR1.out hnx hmx).mono ?_); rw [HS.out]; rintro e w2 ⟨A2, n2, c2, B2, m2, e2, rfl, ho, hb⟩; have N2 := HN1.out.below hb; have s0 := N2.c0; have s1 := N2.c1; have s2 := N2.c2; have g0 := N2.f 0; have g1 := N2.f 1; have g2 := N2.f 2; have N3 := N2.boxed (u := .slice A2 n2 c2) (v := .slice B2 m2 e2) (t := .int .i64 N.left); have t0 := N3.c0; have t1 := N3.c1; have t2 := N3.c2; have X2 := HX1.out.below hb; have X3 := X2.beside (k := wr.heap.size) (u := .slice A2 n2 c2) (v := .slice B2 m2 e2) (t := .int .i64 N.left) (Nat.ne_of_gt hbl); have v0 := X3.c0; have v1 := X3.c1; have v2 := X3.c2; have y0 := X3.f 0; have y1 := X3.f 1; have y2 := X3.f 2; have HX3 := hide X3; have X4 := X3.boxed (u := .slice A2 n2 c2) (v := .slice B2 m2 e2) (t := .int .i64 N.left); have xl := X4.c2; have HX4 := hide X4; have HC2 : Hid (n2 ≤ c2) := (row_max ho.1).1; have HD3 := hide ((ho.boxed (b := wr.heap.size) (u := .slice A2 n2 c2) (v := .slice B2 m2 e2) (t := .int .i64 N.left) (by simp)).mono (b' := bx + 1) (by simp; omega)); have HB3 := hide (below_boxed (b := wr.heap.size) (u := .slice A2 n2 c2) (v := .slice B2 m2 e2) (t := .int .i64 N.left) (Below.then_ HB1.out hb HB1.out.size) HSZ.out); clear N2 N3 X2 X3 X4 ho hb))
                    go_roundw
                    case rel => exact ⟨j + 1, N, A2, n2, c2, B2, m2, e2, by rw [HNL.out], by go_num, by omega, HSN, HX4, hide (HD3.out.boxed (b := bx) (u := .slice A2 n2 c2) (v := .slice B2 m2 e2) (t := .int .i64 N.left) (by omega)).reads, HC2.out, fun _ => HNL.out, hide (below_boxed (b := bx) (u := .slice A2 n2 c2) (v := .slice B2 m2 e2) (t := .int .i64 N.left) HB3.out HSX.out)⟩
                    case measure => simp [intOf]; omega
                · have hk : ¬ k = -1 := fun h => hX (HKK.out h)
                  have hkz : (k == -1) = false := by rw [beq_eq_false_iff_ne]; exact hk
                  have hlo1 := HLO.out.1
                  have hlo2 := HLO.out.2
                  have hw1 : IntKind.i64.wrap (X.left - 1) = X.left - 1 := IntWalk.i64_in _ (by omega)
                  have hw2 : wrap64 (X.left - 1) = X.left - 1 := IntWalk.wrap64_in _ (by omega)
                  have c1 : ¬ X.left - 1 < -1 := by omega
                  have HNL : Hid (N.left = X.left - 1) := by show _ = _; rw [HND.out]; unfold dec; rw [if_pos (by omega)]
                  have hne : (N.left != X.left - 1) = false := by rw [bne_eq_false_iff_eq]; exact HNL.out
                  clear hX hlo1 hlo2
                  go_wp2_with (first
                    | (go_at_call 19; (with_reducible refine (sync_any _ Ax nx cx Bp mx ex X X.left rfl HR1.out hnx hmx).mono ?_); rw [HS.out]; rintro e w2 ⟨A2, n2, c2, B2, m2, e2, rfl, ho, hb⟩; have N2 := HN1.out.below hb; have s0 := N2.c0; have s1 := N2.c1; have s2 := N2.c2; have g0 := N2.f 0; have g1 := N2.f 1; have g2 := N2.f 2; have N3 := N2.boxed (u := .slice A2 n2 c2) (v := .slice B2 m2 e2) (t := .int .i64 N.left); have t0 := N3.c0; have t1 := N3.c1; have t2 := N3.c2; have X2 := HX1.out.below hb; have X3 := X2.beside (k := wr.heap.size) (u := .slice A2 n2 c2) (v := .slice B2 m2 e2) (t := .int .i64 N.left) (Nat.ne_of_gt hbl); have v0 := X3.c0; have v1 := X3.c1; have v2 := X3.c2; have y0 := X3.f 0; have y1 := X3.f 1; have y2 := X3.f 2; have HX3 := hide X3; have X4 := X3.boxed (u := .slice A2 n2 c2) (v := .slice B2 m2 e2) (t := .int .i64 N.left); have xl := X4.c2; have HX4 := hide X4; have HC2 : Hid (n2 ≤ c2) := (row_max ho.1).1; have HD3 := hide ((ho.boxed (b := wr.heap.size) (u := .slice A2 n2 c2) (v := .slice B2 m2 e2) (t := .int .i64 N.left) (by simp)).mono (b' := bx + 1) (by simp; omega)); have HB3 := hide (below_boxed (b := wr.heap.size) (u := .slice A2 n2 c2) (v := .slice B2 m2 e2) (t := .int .i64 N.left) (Below.then_ HB1.out hb HB1.out.size) HSZ.out); clear N2 N3 X2 X3 X4 ho hb))
                  go_roundw
                  case rel => exact ⟨j + 1, N, A2, n2, c2, B2, m2, e2, by rw [HNL.out], by go_num, by omega, HSN, HX4, hide (HD3.out.boxed (b := bx) (u := .slice A2 n2 c2) (v := .slice B2 m2 e2) (t := .int .i64 N.left) (by omega)).reads, HC2.out, fun h => absurd h hk, hide (below_boxed (b := bx) (u := .slice A2 n2 c2) (v := .slice B2 m2 e2) (t := .int .i64 N.left) HB3.out HSX.out)⟩
                  case measure => simp [intOf]; omega
            · clear hmk
              obtain ⟨y, hy⟩ := HSM.out.read
              have HRD := hide hy
              clear hy
              go_wp2_with (first
                | (go_at_call 16; (with_reducible refine (read_any _ Ax nx cx Bp mx ex X 0 HR1.out hnx hmx hcx).mono ?_); rw [HRD.out]; rintro e w2 ⟨A2, n2, c2, rfl, ho, hb⟩; have HX3 := hide (HX1.out.below hb); have HR3 := hide (HR1.out.below hb); have HB3 := hide (Below.then_ HB1.out hb HB1.out.size); clear ho hb))
              go_roundw
              case rel => exact ⟨j + 1, X, Ax, nx, cx, Bp, mx, ex, rfl, by go_num, by omega, HSM, HX3, HR3, hcx, HKK, HB3⟩
              case measure => simp [intOf]; omega
          · have hjz : ¬ (j : Int) < (nl : Int) := by omega
            clear hmk
            go_wp2_with fail
            go_ret
            exact ⟨rfl, HB.out⟩
      · have HLM := hide (limS_bad h)
        clear h hmk
        go_enter Try.func6, Try.ntmps6
        go_wp2_with (first
          | (go_at_call 9; (with_reducible refine (live_any _).mono ?_); rintro e w' ⟨rfl, hb⟩; have HXd := hide ((Bx.made w (.slice A n c) (.slice B m e') (.int .i64 d.left)).below hb); have HB := hide (Below.then (below_alloc w _) hb); have kd0 := HXd.out.c0; have kd1 := HXd.out.c1; have kd2 := HXd.out.c2; clear hb)
          | (go_at_call 10; (with_reducible refine (few_any _ A n c B m e' d d.left (HD.out.below HB.out) hn hm).mono ?_); rintro e w' ⟨rfl, hb⟩; rw [hf]; replace HXd := hide (HXd.out.below hb); replace HB := hide (Below.then_ HB.out hb HB.out.size); have kd0 := HXd.out.c0; have kd1 := HXd.out.c1; have kd2 := HXd.out.c2; clear hb)
          | (go_at_call 20; (with_reducible refine (lim_any _ A n c B m e' d k (HD.out.below HB.out) hn' hm').mono ?_); rw [HLM.out]; rintro e wx ⟨Ax, nx, cx, Bp, mx, ex, rfl, ho, hb⟩; have Hx : Hid (DR _ Ax nx Bp mx Dk.zero) := hide (ho.reads.alloc (.cells #[.slice Ax nx cx, .slice Bp mx ex, .int .i64 Dk.zero.left] 25)); have hcx : nx ≤ cx := (row_max ho.1).1; have HSX : Hid (w.heap.size ≤ wx.heap.size) := Nat.le_trans HB.out.size hb.size; replace HXd := hide ((HXd.out.below hb).alloc (.cells #[.slice Ax nx cx, .slice Bp mx ex, .int .i64 Dk.zero.left] 25)); replace HB := hide ((Below.then_ HB.out hb HB.out.size).alloc (Nat.le_trans HB.out.size hb.size) (.cells #[.slice Ax nx cx, .slice Bp mx ex, .int .i64 Dk.zero.left] 25)); have kd0 := HXd.out.c0; have kd1 := HXd.out.c1; have kd2 := HXd.out.c2; have HXx := hide (Bx.made wx (.slice Ax nx cx) (.slice Bp mx ex) (.int .i64 Dk.zero.left)); clear hb ho))
        go_ret
        exact ⟨rfl, HB.out⟩
end Go.Proofs.Ythhemdjggdgaaaa
