/- A crash, by the reference. -/
import Derived.Test.YthhemdjggdgaaaaCrash
namespace Go.Proofs.Ythhemdjggdgaaaa
open Go.RowKit
set_option linter.unusedVariables false

theorem rbit_all : ∀ n, n < 256 → ∀ k, k < 8 → (((((n : Nat) : Int) / 2 ^ k).tmod 2 == 1) = (n / 2 ^ k % 2 == 1)) := by decide +kernel
theorem rbit_test (v : UInt8) (k : Nat) (hk : k < 8) : (((v.toNat : Int) / 2 ^ k).tmod 2 == 1) = bit v k := rbit_all v.toNat v.toNat_lt k hk
theorem bit_zero (k : Nat) : bit 0 k = false := by unfold bit; simp

set_option maxRecDepth 100000 in
set_option maxHeartbeats 4000000 in
theorem rcrash_any (w : World) (A : Option Addr) (n c : Nat) (B : Option Addr) (m e' : Nat) (d : Dk) (Am : Option Addr) (nm cm : Nat) (ms : Bs) (hr : DR w A n B m d) (hms : BR w Am nm ms) (hn : n ≤ 300000) (hm : m ≤ 1000) (hnm : nm ≤ 300000) :
    Calls Try.prog 13 #[.agg #[.slice A n c, .slice B m e', .int .i64 d.left], .slice Am nm cm] w (DPost w (crashS d ms).1 (crashS d ms).2) := by
  obtain ⟨W0, hW0⟩ : ∃ W0, W0 = ((w.alloc (.cells #[.slice A n c, .slice B m e', .int .i64 d.left] 25)).alloc (.cells #[.slice none 0 0, .slice none 0 0, .int .i64 0] 25)) := ⟨_, rfl⟩
  have hb0 : Below w.heap.size w W0 := by rw [hW0]; exact below_alloc2 w _ _
  have HX0 : Hid (Bx W0 w.heap.size (.slice A n c) (.slice B m e') (.int .i64 d.left)) := by rw [hW0]; exact (Bx.made w _ _ _).alloc _
  have HZ0 : Hid (Bx W0 (w.heap.size + 1) (.slice none 0 0) (.slice none 0 0) (.int .i64 0)) := by
    rw [hW0]; exact Bx.made_ _ _ (by simp) _ _ _
  have HB0 : Hid (Below w.heap.size w W0) := hb0
  have HS0 : Hid (w.heap.size + 2 ≤ W0.heap.size) := by
    show _ ≤ _
    rw [hW0]; simp
  have HR0 : Hid (DR W0 A n B m d) := hr.below hb0
  have HMS : Hid (Reads W0 w.heap.size 1 Am nm (byt ms)) := Reads.below hms hb0
  rw [hW0] at HX0 HZ0 HB0 HS0 HR0 HMS
  clear hW0 hms hb0
  by_cases hg : Good d
  · have HC := hide (chk_zero hg)
    have HS := hide (crashS_ok hg ms)
    have HG := hide hg
    have HL32 := hide hg.len32
    have hD : d.dry.length ≤ 300000 := by have := hg.whole; have := hg.max; omega
    have hW : d.wet.length ≤ 1000 := by rw [hr.wlen]; exact hm
    clear hg hr
    go_enter Try.func13, Try.ntmps13
    go_wp2_with (first
      | (go_at_call 28; refine (rcheck_is _ A n c B m e' d d.left 0 rfl HC.out HR0.out hn hm).mono ?_; rintro e w1 ⟨rfl, hb⟩; have X1 := HX0.out.below hb; have k0 := X1.c0; have k1 := X1.c1; have k2 := X1.c2; have HX1 := hide X1; have HZ1 := hide (HZ0.out.below hb); have HR1 := hide (HR0.out.below hb); have HS1 := hide (Nat.le_trans HS0.out hb.size); have HB1 := hide (Below.then_ HB0.out hb HB0.out.size); have HMS1 := hide (Reads.below HMS.out (hb.mono HB0.out.size)); clear X1 hb)
      | (go_at_call 11; refine (copy_any _ A n c B m e' d HR1.out hn hm HL32.out).mono ?_; rintro e w2 ⟨A2, n2, c2, B2, m2, e2, rfl, ho, hb⟩; have X2 := HX1.out.below hb; have k0 := X2.c0; have k1 := X2.c1; have k2 := X2.c2; have f0 := X2.f 0; have f1 := X2.f 1; have f2 := X2.f 2; have X3 := X2.boxed (u := .slice A2 n2 c2) (v := .slice B2 m2 e2) (t := .int .i64 d.left); have q1 := X3.c1; have HX3 := hide X3; have HZ3 := hide ((HZ1.out.below hb).beside (k := w.heap.size) (u := .slice A2 n2 c2) (v := .slice B2 m2 e2) (t := .int .i64 d.left) (by omega)); have HD3 := hide ((ho.mono HS1.out).boxed (b := w.heap.size) (u := .slice A2 n2 c2) (v := .slice B2 m2 e2) (t := .int .i64 d.left) (by omega)); have HB3 := hide (below_boxed (Below.then_ HB1.out hb HB1.out.size) (b := w.heap.size) (u := .slice A2 n2 c2) (v := .slice B2 m2 e2) (t := .int .i64 d.left) (Nat.le_refl _)); have HMS3 := hide (Reads.below (Reads.below HMS1.out (hb.mono HB1.out.size)) (below_boxed (Below.refl w.heap.size w2) (b := w.heap.size) (u := .slice A2 n2 c2) (v := .slice B2 m2 e2) (t := .int .i64 d.left) (Nat.le_refl _))); have HS3 := hide (Nat.le_trans HS1.out hb.size); have hN2 := ho.nlen; have hM2 := ho.wlen; have hn4 : n2 ≤ 300000 := Nat.le_trans (Nat.le_of_eq hN2.symm) hD; have hm4 : m2 ≤ 1000 := Nat.le_trans (Nat.le_of_eq hM2.symm) hW; clear X2 X3 ho hb))
    generalize hW3 : (((w2.setCell ⟨w.heap.size, 0, none⟩ (.slice A2 n2 c2)).setCell ⟨w.heap.size, 1, none⟩ (.slice B2 m2 e2)).setCell ⟨w.heap.size, 2, none⟩ (.int .i64 d.left)) = W3 at HX3 HZ3 HD3 HB3 HMS3 q1 ⊢
    have HS3' : Hid (w.heap.size + 2 ≤ W3.heap.size) := by show _ ≤ _; rw [← hW3, heap_boxed]; exact HS3.out
    obtain ⟨o1, ps2, o2, o3, o4⟩ := HD3.out
    have HW : Hid (d.wet.length = m2) := hM2
    have HSP0 : Hid (SP (w.heap.size + 2) W3 A2 n2 c2 B2 m2 e2 ps2 d.dry d.wet) := ⟨o1, o2, o3, o4⟩
    clear hW3 o1 o2 o3 o4 k0 k1 k2 f0 f1 f2 q1 HX1 HZ1 HR1 HS1 HB1 HMS1 HX0 HZ0 HR0 HS0 HB0 HMS HD3 HS3
    obtain ⟨base, hbaseq⟩ : ∃ base, base = w.heap.size + 2 := ⟨_, rfl⟩
    rw [← hbaseq] at HSP0 HS3'
    obtain ⟨bd, hbdq⟩ : ∃ bd, bd = w.heap.size := ⟨_, rfl⟩
    have hbd : bd < base := by omega
    have hb3 : bd + 1 < base := by omega
    have hbase : base ≤ W3.heap.size := HS3'.out
    have HWZ := hide hbdq
    have HBQ := hide hbaseq
    rw [← hbdq] at HX3 HZ3 ⊢
    clear hbaseq hbdq hM2 hN2
    go_loopw [18] (fun v wr => ∃ i : Nat, v = .int .i64 i ∧ i ≤ m2 ∧ Hid (SP base wr A2 n2 c2 B2 m2 e2 ps2 (setUpto d.dry d.wet (maskAt ms) i) d.wet) ∧ Hid (Below base W3 wr)) (fun v _ => m2 - (intOf v).toNat)
    case atStart => exact ⟨0, rfl, by omega, HSP0, Below.refl _ _⟩
    case round =>
      obtain ⟨i, rfl, hi, HSP, HB⟩ := hrel
      by_cases him : i < m2
      · have hiz : (i : Int) < (m2 : Int) := by omega
        obtain ⟨ad, rfl, c0, c1⟩ := HSP.out.2.1.reads.cell i him
        have hpk := HSP.out.2.2.1.2 i (by have := HSP.out.2.1.len; omega)
        obtain ⟨p, hp⟩ : ∃ p, nth ps2 i = p := ⟨_, rfl⟩
        rw [hp] at c0 c1 hpk
        obtain ⟨pa, pA, pn, pc⟩ := p
        have hql := HG.out.len i (by rw [HW.out]; exact him)
        have h0 := HG.out.at0 i (by rw [HW.out]; exact him)
        have h1 := HG.out.at1 i (by rw [HW.out]; exact him)
        have hwh := HG.out.whole
        obtain ⟨at_, hat⟩ : ∃ at_ : Nat, (qn d.wet i).1 = at_ := ⟨(qn d.wet i).1.toNat, by omega⟩
        have hpa : pa = (at_ : Int) := by rw [← hat]; exact hpk.1
        subst hpa
        have hpn : pn = 32 := by have := hpk.2.len; simp only at this; omega
        subst hpn
        have hdn : d.dry.length = n2 := by
          have := HSP.out.1.len
          rw [setUpto_len HG.out _ _ (by rw [HW.out]; omega)] at this
          exact this
        have hatn : at_ * 32 + 32 ≤ n2 := by omega
        have HAT := hide hat
        obtain ⟨gp, hgp⟩ := row_addr hpk.2 (show 0 < 32 by omega)
        simp only at hgp
        subst hgp
        have hpc := (row_cap hpk.2).1
        have HPO := hide hpk.2
        have HQL := hide hql
        have HDN := hide hdn
        obtain ⟨g, hgA⟩ := row_addr HSP.out.1 (by omega)
        subst hgA
        have hgn : g < wr.heap.size := (World.ownsRow.lt HSP.out.1 g rfl).2
        have hg0 : base ≤ g := (World.ownsRow.lt HSP.out.1 g rfl).1
        have hbw := HB.out.size
        have HPN := hide hp
        clear hp hpk hql h0 h1 hwh hat hdn
        have HP0 : Hid ((wr.alloc (.cells #[.int .i64 at_, .slice (some ⟨gp, 0, none⟩) 32 pc] 47)).cell? ⟨wr.heap.size, 0, none⟩ = some (.int .i64 at_)) := box_cell _ _ _ _ _ rfl
        have HP1 : Hid ((wr.alloc (.cells #[.int .i64 at_, .slice (some ⟨gp, 0, none⟩) 32 pc] 47)).cell? ⟨wr.heap.size, 1, none⟩ = some (.slice (some ⟨gp, 0, none⟩) 32 pc)) := box_cell _ _ _ _ _ rfl
        go_wp2_with fail
        generalize hH0 : wr.heap.size = H0 at HP0 HP1 hgn hbw ⊢
        have HH0 := hide hH0
        clear hH0
        go_loopw [23] (fun v wi => ∃ k : Nat, v = .int .i64 k ∧ k ≤ 8 ∧ Hid (SP base wi (some ⟨g, 0, none⟩) n2 c2 (some ad) m2 e2 ps2 (pageUpto (setUpto d.dry d.wet (maskAt ms) i) at_ (qn d.wet i).2 (maskAt ms i) k) d.wet) ∧ Hid (Below base W3 wi) ∧ Hid (wi.cell? ⟨H0, 0, none⟩ = some (.int .i64 at_)) ∧ Hid (wi.cell? ⟨H0, 1, none⟩ = some (.slice (some ⟨gp, 0, none⟩) 32 pc)) ∧ H0 < wi.heap.size) (fun v _ => 8 - (intOf v).toNat)
        case atStart => exact ⟨0, rfl, by omega, hide (HSP.out.below (below_alloc _ _)), hide (HB.out.alloc (by rw [HH0.out]; omega) _), HP0, HP1, by rw [← HH0.out]; simp⟩
        case round =>
          obtain ⟨k, rfl, hk, HSI, HBI, HQ0, HQ1, hsz⟩ := hrel
          by_cases hk8 : k < 8
          · have hkz : (k : Int) < 8 := by omega
            have HBW : Hid (Below wr.heap.size wr wr) := Below.refl _ _
            have HBX : Hid (Bx wr bd (.slice (some ⟨g, 0, none⟩) n2 c2) (.slice (some ad) m2 e2) (.int .i64 d.left)) := (HBI.out.block bd hbd).trans HX3.out
            have k0 := HBX.out.c0
            have k1 := HBX.out.c1
            have k2 := HBX.out.c2
            have hws := HBI.out.size
            have HMS' : Hid (BR wr Am nm ms) := Reads.more (Reads.below HMS3.out (HBI.out.mono (by have := HWZ.out; omega))) (by have := HWZ.out; omega)
            have tb := rbit_test (maskAt ms i) k hk8
            by_cases hinm : i < nm
            · have hinz : (i : Int) < (nm : Int) := by omega
              obtain ⟨ad2, rfl, c0⟩ := HMS'.out.cell i hinm
              have e : ms.getD i 0 = maskAt ms i := rfl
              rw [e] at c0
              obtain ⟨mv, hmv⟩ : ∃ mv, maskAt ms i = mv := ⟨_, rfl⟩
              rw [hmv] at c0 tb
              have HMV := hide hmv
              clear hmv e
              cases hbit : bit mv k with
              | true =>
                rw [hbit] at tb
                have HBT := hide hbit
                clear hbit
                go_upto_region 11 with fail
                have q0 := HQ0.out
                have q1 := HQ1.out
                have hat1 : at_ * 32 + 32 ≤ n2 := by omega
                have hcap : n2 ≤ c2 := (row_cap HSI.out.1).1
                have hws0 : Hid (base ≤ wr.heap.size) := Nat.le_trans hbase hws
                have hbd2 : Hid (bd < wr.heap.size) := Nat.lt_of_lt_of_le hbd hws0.out
                have hbg : Hid (bd ≠ g) := by show _ ≠ _; omega
                have hHg : Hid (H0 ≠ g) := by show _ ≠ _; omega
                have b1 : ¬ c2 = 32 * at_ + 4 * k := by omega
                have b2 : ¬ pc = 4 * k := by omega
                have b3 : (0 : Int) ≤ 32 * (at_ : Int) + 4 * (k : Int) := by omega
                have b4 : 32 * (at_ : Int) + 4 * (k : Int) ≤ (n2 : Int) := by omega
                have b5 : (0 : Int) ≤ 4 * (k : Int) := by omega
                have b6 : 4 * (k : Int) + 4 ≤ (pc : Int) := by omega
                have b7 : 4 * (k : Int) ≤ 4 * (k : Int) + 4 := by omega
                have b8 : (32 * (at_ : Int) + 4 * (k : Int)).toNat = 32 * at_ + 4 * k := by omega
                have b9 : (4 * (k : Int)).toNat = 4 * k := by omega
                have b10 : (4 * (k : Int) + 4).toNat = 4 * k + 4 := by omega
                have w1 : IntKind.i64.wrap (32 * (at_ : Int)) = 32 * (at_ : Int) := IntWalk.i64_in _ (by omega)
                have w2 : IntKind.i64.wrap (4 * (k : Int)) = 4 * (k : Int) := IntWalk.i64_in _ (by omega)
                have w3 : IntKind.i64.wrap (32 * (at_ : Int) + 4 * (k : Int)) = 32 * (at_ : Int) + 4 * (k : Int) := IntWalk.i64_in _ (by omega)
                have w4 : IntKind.i64.wrap (4 * (k : Int) + 4) = 4 * (k : Int) + 4 := IntWalk.i64_in _ (by omega)
                have PI : Hid (i < ps2.length) := by show _ < _; rw [HSI.out.2.1.len]; exact him
                have PN : Hid (nth ps2 i = ((at_ : Int), some ⟨gp, 0, none⟩, 32, pc)) := HPN.out
                have HSD : Hid (SP base wr.drew (some ⟨g, 0, none⟩) n2 c2 (some ad) m2 e2 ps2 (pageUpto (setUpto d.dry d.wet (maskAt ms) i) at_ (qn d.wet i).2 (maskAt ms i) k) d.wet) := HSI.out.below (Below.refl wr.heap.size wr).drew
                have HBD : Hid (Below base W3 wr.drew) := HBI.out.drew
                have E4 : Hid ((byt (((qn d.wet i).2.drop (k * 4)).take 4)).length = Nat.min 4 (n2 - (32 * at_ + 4 * k)) * 1) := by
                  show _ = _
                  rw [byt_length, group_len _ _ HQL.out hk8, show Nat.min 4 (n2 - (32 * at_ + 4 * k)) = 4 from Nat.min_eq_left (by omega)]
                have E5 : Hid (32 * at_ + 4 * k + (byt (((qn d.wet i).2.drop (k * 4)).take 4)).length ≤ n2 * 1) := by
                  show _ ≤ _
                  rw [byt_length, group_len _ _ HQL.out hk8]
                  omega
                have E6 : Hid (∀ j v, (byt (((qn d.wet i).2.drop (k * 4)).take 4))[j]? = some v → wr.drew.cell? ((⟨gp, 4 * k, none⟩ : Addr).add j) = some v) := by
                  have := page_src HSD.out PI.out PN.out (show (k + 1) * 4 ≤ 32 by omega)
                  rw [Nat.mul_comm k 4] at this
                  intro j v hj
                  rw [Nat.mul_comm k 4] at hj
                  exact this j v hj
                go_region_law
                  (first
                    | (refine step_copy_row rfl (.tmp 48) (.tmp 56) 22 22 rfl Try.underlying22 u8_size HSD.out.1 (32 * at_ + 4 * k) (n2 - (32 * at_ + 4 * k)) (c2 - (32 * at_ + 4 * k)) rfl ⟨gp, 4 * k, none⟩ 4 (pc - 4 * k) rfl (byt (((qn d.wet i).2.drop (k * 4)).take 4)) E4.out E6.out E5.out (byt_one _) ?_; intro w6 ho6 hg6; have n3 := grown_cell hg6 q0 hsz hHg.out; have n4 := grown_cell hg6 q1 hsz hHg.out; have HO6 := hide ho6; have HG6 := hide hg6; clear ho6 hg6))
                all_goals
                  go_wp2_with fail
                  go_roundw
                  case rel =>
                    refine ⟨k + 1, by go_num, by omega, ?_, hide (HBD.out.grown HG6.out (Nat.le_trans hbase HBD.out.size) (fun q hq => by injection hq with hq; omega)), n3, n4, Nat.lt_of_lt_of_le hsz HG6.out.size⟩
                    have e : pageUpto (setUpto d.dry d.wet (maskAt ms) i) at_ (qn d.wet i).2 (maskAt ms i) (k + 1) = layB (pageUpto (setUpto d.dry d.wet (maskAt ms) i) at_ (qn d.wet i).2 (maskAt ms i) k) (at_ * 32 + k * 4) (((qn d.wet i).2.drop (k * 4)).take 4) := by
                      rw [pageUpto, HMV.out, HBT.out]; rfl
                    rw [e]
                    have ho := HO6.out
                    rw [lay_byt, show 32 * at_ + 4 * k = at_ * 32 + k * 4 by omega] at ho
                    exact HSD.out.grown HG6.out ho
                  case measure => simp [intOf]; omega
              | false =>
                rw [hbit] at tb
                have HBT := hide hbit
                clear hbit
                go_wp2_with fail
                go_roundw
                case rel =>
                  refine ⟨k + 1, by go_num, by omega, ?_, HBI, HQ0, HQ1, hsz⟩
                  have e : pageUpto (setUpto d.dry d.wet (maskAt ms) i) at_ (qn d.wet i).2 (maskAt ms i) (k + 1) = pageUpto (setUpto d.dry d.wet (maskAt ms) i) at_ (qn d.wet i).2 (maskAt ms i) k := by
                    rw [pageUpto, HMV.out, HBT.out]; rfl
                  rw [e]; exact HSI
                case measure => simp [intOf]; omega
            · have hinz : ¬ (i : Int) < (nm : Int) := by omega
              have HMV : Hid (maskAt ms i = 0) := by
                show _ = _
                unfold maskAt
                rw [List.getD_eq_getElem?_getD, List.getElem?_eq_none (by rw [HMS'.out.len]; omega)]; rfl
              clear tb
              go_wp2_with fail
              go_roundw
              case rel =>
                refine ⟨k + 1, by go_num, by omega, ?_, HBI, HQ0, HQ1, hsz⟩
                have e : pageUpto (setUpto d.dry d.wet (maskAt ms) i) at_ (qn d.wet i).2 (maskAt ms i) (k + 1) = pageUpto (setUpto d.dry d.wet (maskAt ms) i) at_ (qn d.wet i).2 (maskAt ms i) k := by
                  rw [pageUpto, HMV.out, bit_zero]; rfl
                rw [e]; exact HSI
              case measure => simp [intOf]; omega
          · have hkz : ¬ (k : Int) < 8 := by omega
            have hke : k = 8 := by omega
            go_wp2_with fail
            go_roundw
            case rel =>
              refine ⟨i + 1, by go_num, by omega, ?_, HBI⟩
              have e : setUpto d.dry d.wet (maskAt ms) (i + 1) = pageUpto (setUpto d.dry d.wet (maskAt ms) i) at_ (qn d.wet i).2 (maskAt ms i) 8 := by
                rw [setUpto, HAT.out]; rfl
              rw [e, ← hke]; exact HSI
            case measure => simp [intOf]; omega
      · have hiz : ¬ (i : Int) < (m2 : Int) := by omega
        have hie : i = m2 := by omega
        have HBX : Hid (Bx wr bd (.slice A2 n2 c2) (.slice B2 m2 e2) (.int .i64 d.left)) := (HB.out.block bd hbd).trans HX3.out
        have HZX : Hid (Bx wr (bd + 1) (.slice none 0 0) (.slice none 0 0) (.int .i64 0)) := (HB.out.block (bd + 1) hb3).trans HZ3.out
        have k0 := HBX.out.c0
        have k1 := HBX.out.c1
        have k2 := HBX.out.c2
        have f1 := HBX.out.f 1
        have f2 := HBX.out.f 2
        have z0 := HZX.out.c0
        have z1 := HZX.out.c1
        have z2 := HZX.out.c2
        have y0 := HZX.out.f 0
        have y1 := HZX.out.f 1
        have y2 := HZX.out.f 2
        have X6 := (HBX.out.set1 (u := .slice none 0 0)).set2 (u := .int .i64 (-1))
        have q0 := X6.c0
        have q1 := X6.c1
        have q2 := X6.c2
        clear X6
        go_wp2_with fail
        have hz6 := (((HZX.out.other (a := ⟨bd, 1, none⟩) (u := .slice none 0 0) (by simp)).other (a := ⟨bd, 2, none⟩) (u := .int .i64 (-1)) (by simp)).boxed (u := .slice A2 n2 c2) (v := .slice none 0 0) (t := .int .i64 (-1)))
        have r0 := hz6.c0
        have r1 := hz6.c1
        have r2 := hz6.c2
        rw [HS.out]
        refine bodyPost_ret (v := .tuple #[.agg #[.slice A2 n2 c2, .slice none 0 0, .int .i64 (-1)], .int .i64 0]) (by simp [results, Try.results13, go_sem, r0, r1, r2]) rfl ⟨A2, n2, c2, none, 0, 0, rfl, dry_do ?_, ?_⟩
        · have h1 := HSP.out.1
          rw [hie, ← HW.out] at h1
          exact (((((h1.set (a := ⟨bd, 1, none⟩) hbd).set (a := ⟨bd, 2, none⟩) hbd).set (a := ⟨bd + 1, 0, none⟩) hb3).set (a := ⟨bd + 1, 1, none⟩) hb3).set (a := ⟨bd + 1, 2, none⟩) hb3).mono (by have := HWZ.out; have := HBQ.out; omega)
        · have h0 := HWZ.out
          have h1 := HBQ.out
          exact below_boxed (((HB3.out.trans (HB.out.mono (by omega))).setCell (by simp only; omega) _).setCell (by simp only; omega) _) (by omega)
  · have HC := hide (chk_one hg)
    have HS := hide (crashS_bad hg ms)
    clear hg hr
    go_enter Try.func13, Try.ntmps13
    go_wp2_with (first
      | (go_at_call 28; refine (rcheck_is _ A n c B m e' d d.left 1 rfl HC.out HR0.out hn hm).mono ?_; rintro e w1 ⟨rfl, hb⟩; have Z1 := HZ0.out.below hb; have z0 := Z1.c0; have z1 := Z1.c1; have z2 := Z1.c2; have y0 := Z1.f 0; have y1 := Z1.f 1; have y2 := Z1.f 2; have HZ1 := hide Z1; have HB1 := hide (Below.then_ HB0.out hb HB0.out.size); clear Z1 hb))
    have hz6 := (HZ1.out.boxed (u := .slice none 0 0) (v := .slice none 0 0) (t := .int .i64 0))
    have r0 := hz6.c0
    have r1 := hz6.c1
    have r2 := hz6.c2
    rw [HS.out]
    refine bodyPost_ret (v := .tuple #[.agg #[.slice none 0 0, .slice none 0 0, .int .i64 0], .int .i64 1]) (by simp [results, Try.results13, go_sem, r0, r1, r2]) rfl ⟨_, _, _, _, _, _, rfl, DO.zero _ _, ?_⟩
    exact below_boxed HB1.out (by omega)
end Go.Proofs.Ythhemdjggdgaaaa
