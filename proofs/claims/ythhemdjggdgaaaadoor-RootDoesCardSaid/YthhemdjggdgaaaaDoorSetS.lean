/- All of the pages stays. -/
import Derived.Test.YthhemdjggdgaaaaDoorSame
namespace Go.Proofs.YthhemdjggdgaaaaDoor
open Go.RowKit
set_option linter.unusedVariables false

def allMask : Nat → UInt8 := fun _ => 255
theorem sync11_is (w : World) (i : Nat) : Calls Tryd.prog 49 #[.int .i64 i] w fun e w' => e = .returned (.int .u8 ((allMask i).toNat : Int)) ∧ w = w' := sync11_any w i

set_option maxRecDepth 100000 in
set_option maxHeartbeats 4000000 in
theorem settleS_any (w : World) (base bd : Nat) (A : Option Addr) (n c : Nat) (B : Option Addr) (m e' : Nat) (ps : List Pg) (d : Dk) (l : Int)
    (hg : Good d) (hx : Bx w bd (.slice A n c) (.slice B m e') (.int .i64 l)) (hs : SP base w A n c B m e' ps d.dry d.wet) (hbd : bd < base) (hbase : base ≤ w.heap.size)
    (hn : n ≤ 300000) (hm : m ≤ 1000) :
    Calls Tryd.prog 45 #[.pointer (some ⟨bd, 0, none⟩), .func (.func 49) #[] #[]] w
      fun e w' => e = .returned (.tuple #[]) ∧ Bx w' bd (.slice A n c) (.slice none 0 0) (.int .i64 l) ∧ OB base w' A n c (setUpto d.dry d.wet (allMask) d.wet.length) ∧ ∃ w1, Below base w w1 ∧ w' = w1.setCell ⟨bd, 1, none⟩ (.slice none 0 0) := by
  have HG := hide hg
  have HX := hide hx
  have HS := hide hs
  have HW : Hid (d.wet.length = m) := by show _ = _; rw [← hs.2.2.1.1, hs.2.1.len]
  have k1 := hx.c1
  clear hg hx hs
  go_enter Tryd.func45, Tryd.ntmps45
  go_wp2_with fail
  go_loopw [12] (fun v wr => ∃ i : Nat, v = .int .i64 i ∧ i ≤ m ∧ Hid (SP base wr A n c B m e' ps (setUpto d.dry d.wet (allMask) i) d.wet) ∧ Hid (Below base w wr)) (fun v _ => m - (intOf v).toNat)
  case atStart => exact ⟨0, rfl, by omega, HS, Below.refl _ _⟩
  case round =>
    obtain ⟨i, rfl, hi, HSP, HB⟩ := hrel
    by_cases him : i < m
    · have hiz : (i : Int) < (m : Int) := by omega
      obtain ⟨ad, rfl, c0, c1⟩ := HSP.out.2.1.reads.cell i him
      have hpk := HSP.out.2.2.1.2 i (by have := HSP.out.2.1.len; omega)
      obtain ⟨p, hp⟩ : ∃ p, nth ps i = p := ⟨_, rfl⟩
      rw [hp] at c0 c1 hpk
      obtain ⟨pa, pA, pn, pc⟩ := p
      have hql := HG.out.len i (by rw [HW.out]; exact him)
      have h0 := HG.out.at0 i (by rw [HW.out]; exact him)
      have h1 := HG.out.at1 i (by rw [HW.out]; exact him)
      have hwh := HG.out.whole
      obtain ⟨at_, hat⟩ : ∃ at_ : Nat, (qn d.wet i).1 = at_ := ⟨(qn d.wet i).1.toNat, by omega⟩
      have hpa : pa = (at_ : Int) := by rw [← hat]; exact hpk.1
      subst hpa
      have hpn : pn = 32 := by have := hpk.2.len; simp only at this; omega
      subst hpn
      have hdn : d.dry.length = n := by
        have := HSP.out.1.len
        rw [setUpto_len HG.out _ _ (by rw [HW.out]; omega)] at this
        exact this
      have hatn : at_ * 32 + 32 ≤ n := by omega
      have HAT := hide hat
      obtain ⟨gp, hgp⟩ := row_addr hpk.2 (show 0 < 32 by omega)
      simp only at hgp
      subst hgp
      have hpc := (row_cap hpk.2).1
      have HPO := hide hpk.2
      have HQL := hide hql
      have HDN := hide hdn
      obtain ⟨g, hgA⟩ := row_addr HSP.out.1 (by omega)
      subst hgA
      have hgn : g < wr.heap.size := (World.ownsRow.lt HSP.out.1 g rfl).2
      have hg0 : base ≤ g := (World.ownsRow.lt HSP.out.1 g rfl).1
      have hbw := HB.out.size
      have HPN := hide hp
      clear hp hpk hql h0 h1 hwh hat hdn k1
      have HP0 : Hid ((wr.alloc (.cells #[.int .i64 at_, .slice (some ⟨gp, 0, none⟩) 32 pc] 56)).cell? ⟨wr.heap.size, 0, none⟩ = some (.int .i64 at_)) := box_cell _ _ _ _ _ rfl
      have HP1 : Hid ((wr.alloc (.cells #[.int .i64 at_, .slice (some ⟨gp, 0, none⟩) 32 pc] 56)).cell? ⟨wr.heap.size, 1, none⟩ = some (.slice (some ⟨gp, 0, none⟩) 32 pc)) := box_cell _ _ _ _ _ rfl
      go_wp2_with fail
      generalize hH0 : wr.heap.size = H0 at HP0 HP1 hgn hbw ⊢
      have HH0 := hide hH0
      clear hH0
      go_loopw [17] (fun v wi => ∃ k : Nat, v = .int .i64 k ∧ k ≤ 8 ∧ Hid (SP base wi (some ⟨g, 0, none⟩) n c (some ad) m e' ps (pageUpto (setUpto d.dry d.wet (allMask) i) at_ (qn d.wet i).2 (allMask i) k) d.wet) ∧ Hid (Below base w wi) ∧ Hid (wi.cell? ⟨H0, 0, none⟩ = some (.int .i64 at_)) ∧ Hid (wi.cell? ⟨H0, 1, none⟩ = some (.slice (some ⟨gp, 0, none⟩) 32 pc)) ∧ H0 < wi.heap.size) (fun v _ => 8 - (intOf v).toNat)
      case atStart => exact ⟨0, rfl, by omega, hide (HSP.out.below (below_alloc _ _)), hide (HB.out.alloc (by rw [HH0.out]; omega) _), HP0, HP1, by rw [← HH0.out]; simp⟩
      case round =>
        obtain ⟨k, rfl, hk, HSI, HBI, HQ0, HQ1, hsz⟩ := hrel
        by_cases hk8 : k < 8
        · have hkz : (k : Int) < 8 := by omega
          have HBW : Hid (Below wr.heap.size wr wr) := Below.refl _ _
          have HBX : Hid (Bx wr bd (.slice (some ⟨g, 0, none⟩) n c) (.slice (some ad) m e') (.int .i64 l)) := (HBI.out.block bd hbd).trans HX.out
          have k0 := HBX.out.c0
          have k1 := HBX.out.c1
          have k2 := HBX.out.c2
          have hws := HBI.out.size
          have tb := bit_test (allMask i) k hk8
          obtain ⟨mv, hmv⟩ : ∃ mv, allMask i = mv := ⟨_, rfl⟩
          rw [hmv] at tb
          have HMV := hide hmv
          clear hmv
          cases hbit : bit mv k with
          | true =>
            rw [hbit] at tb
            have HBT := hide hbit
            clear hbit
            go_upto_region 7 with (first | (go_at_call 49; refine (sync11_is _ i).mono ?_; rintro e w' ⟨rfl, rfl⟩; rw [HMV.out]))
            have q0 := HQ0.out
            have q1 := HQ1.out
            have hat1 : (at_ + 1) * 32 ≤ n := by omega
            have hcap : n ≤ c := (row_cap HSI.out.1).1
            have hws0 : Hid (base ≤ wr.heap.size) := Nat.le_trans hbase hws
            have hbd2 : Hid (bd < wr.heap.size) := Nat.lt_of_lt_of_le hbd hws0.out
            have hbg : Hid (bd ≠ g) := by show _ ≠ _; omega
            have hHg : Hid (H0 ≠ g) := by show _ ≠ _; omega
            have hk4 : ¬ 32 = k * 4 := by omega
            have hk5 : (k : Int) * 4 ≤ 32 := by omega
            have hk6 : ((k : Int) + 1) * 4 ≤ 32 := by omega
            have hk7 : ((k : Int) + 1) * 4 ≤ (pc : Int) := by omega
            have hk8' : (k : Int) * 4 ≤ ((k : Int) + 1) * 4 := by omega
            have hk9 : ¬ pc = k * 4 := by omega
            have PI : Hid (i < ps.length) := by show _ < _; rw [HSI.out.2.1.len]; exact him
            have PN : Hid (nth ps i = ((at_ : Int), some ⟨gp, 0, none⟩, 32, pc)) := HPN.out
            have E4 : Hid ((byt (((qn d.wet i).2.drop (k * 4)).take 4)).length = Nat.min ((k + 1) * 4 - k * 4) (32 - k * 4) * 1) := by
              show _ = _
              rw [byt_length, group_len _ _ HQL.out hk8]
              have : Nat.min ((k + 1) * 4 - k * 4) (32 - k * 4) = 4 := by
                rw [show (k + 1) * 4 - k * 4 = 4 by omega]
                exact Nat.min_eq_left (by omega)
              omega
            have E5 : Hid (at_ * 32 + k * 4 + (byt (((qn d.wet i).2.drop (k * 4)).take 4)).length ≤ n * 1) := by
              show _ ≤ _
              rw [byt_length, group_len _ _ HQL.out hk8]
              omega
            have wr1 : IntKind.i64.wrap ((k : Int) + 1) = (k : Int) + 1 := IntWalk.i64_in _ (by omega)
            have wr2 : IntKind.i64.wrap (((k : Int) + 1) * 4) = ((k : Int) + 1) * 4 := IntWalk.i64_in _ (by omega)
            have wr3 : IntKind.i64.wrap ((k : Int) * 4) = (k : Int) * 4 := IntWalk.i64_in _ (by omega)
            have wk : ¬ ((k : Int) + 1 < (k : Int)) := by omega
            have wk2 : (k : Int) ≤ (k : Int) + 1 := by omega
            have wp1 : (0 : Int) ≤ (k : Int) * 4 := by omega
            have wp2 : (0 : Int) ≤ ((k : Int) + 1) * 4 := by omega
            have wt1 : ((k : Int) * 4).toNat = k * 4 := by omega
            have wt2 : (((k : Int) + 1) * 4).toNat = (k + 1) * 4 := by omega
            go_region_law
              (first
                | (go_simp; go_at_call 47; refine (dry_own _ g n c (some ad) m e' l at_ hat1 hcap hn).mono ?_; rintro e w5 ⟨rfl, hb⟩; replace hb := Below.undrew hb; have HS5 := hide (HSI.out.below hb); have HB5 := hide (Below.then_ HBI.out hb hws0.out); have d0 := (hb.cell (p := ⟨bd, 0, none⟩) hbd2.out).trans k0; have d1 := (hb.cell (p := ⟨bd, 1, none⟩) hbd2.out).trans k1; have d2 := (hb.cell (p := ⟨bd, 2, none⟩) hbd2.out).trans k2; have d3 := (hb.cell (p := ⟨H0, 0, none⟩) hsz).trans q0; have d4 := (hb.cell (p := ⟨H0, 1, none⟩) hsz).trans q1; have HZ5 := hide hb.size; clear hb)
                | (refine step_copy_row rfl (.tmp 35) (.tmp 43) 28 28 rfl Tryd.underlying28 u8_size HS5.out.1 (at_ * 32 + k * 4) (32 - k * 4) (32 - k * 4) rfl ⟨gp, k * 4, none⟩ ((k + 1) * 4 - k * 4) (pc - k * 4) rfl (byt (((qn d.wet i).2.drop (k * 4)).take 4)) E4.out (page_src HS5.out PI.out PN.out (by omega)) E5.out (byt_one _) ?_; intro w6 ho6 hg6; have n0 := grown_cell hg6 d0 (Nat.lt_of_lt_of_le hbd2.out HZ5.out) hbg.out; have n1 := grown_cell hg6 d1 (Nat.lt_of_lt_of_le hbd2.out HZ5.out) hbg.out; have n2 := grown_cell hg6 d2 (Nat.lt_of_lt_of_le hbd2.out HZ5.out) hbg.out; have n3 := grown_cell hg6 d3 (Nat.lt_of_lt_of_le hsz HZ5.out) hHg.out; have n4 := grown_cell hg6 d4 (Nat.lt_of_lt_of_le hsz HZ5.out) hHg.out; have HO6 := hide ho6; have HG6 := hide hg6; clear ho6 hg6))
            all_goals
              go_wp2_with fail
              go_roundw
              case rel =>
                refine ⟨k + 1, by go_num, by omega, ?_, hide (HB5.out.grown HG6.out (Nat.le_trans hbase HB5.out.size) (fun q hq => by injection hq with hq; omega)), n3, n4, Nat.lt_of_lt_of_le (Nat.lt_of_lt_of_le hsz HZ5.out) HG6.out.size⟩
                have e : pageUpto (setUpto d.dry d.wet (allMask) i) at_ (qn d.wet i).2 (allMask i) (k + 1) = layB (pageUpto (setUpto d.dry d.wet (allMask) i) at_ (qn d.wet i).2 (allMask i) k) (at_ * 32 + k * 4) (((qn d.wet i).2.drop (k * 4)).take 4) := by
                  rw [pageUpto, HMV.out, HBT.out]; rfl
                rw [e]
                have ho := HO6.out
                rw [lay_byt] at ho
                exact HS5.out.grown HG6.out ho
              case measure => simp [intOf]; omega
          | false =>
            rw [hbit] at tb
            have HBT := hide hbit
            clear hbit
            go_wp2_with (first | (go_at_call 49; refine (sync11_is _ i).mono ?_; rintro e w' ⟨rfl, rfl⟩; rw [HMV.out]))
            go_roundw
            case rel =>
              refine ⟨k + 1, by go_num, by omega, ?_, HBI, HQ0, HQ1, hsz⟩
              have e : pageUpto (setUpto d.dry d.wet (allMask) i) at_ (qn d.wet i).2 (allMask i) (k + 1) = pageUpto (setUpto d.dry d.wet (allMask) i) at_ (qn d.wet i).2 (allMask i) k := by
                rw [pageUpto, HMV.out, HBT.out]; rfl
              rw [e]; exact HSI
            case measure => simp [intOf]; omega
        · have hkz : ¬ (k : Int) < 8 := by omega
          have hke : k = 8 := by omega
          go_wp2_with fail
          go_roundw
          case rel =>
            refine ⟨i + 1, by go_num, by omega, ?_, HBI⟩
            have e : setUpto d.dry d.wet (allMask) (i + 1) = pageUpto (setUpto d.dry d.wet (allMask) i) at_ (qn d.wet i).2 (allMask i) 8 := by
              rw [setUpto, HAT.out]; rfl
            rw [e, ← hke]; exact HSI
          case measure => simp [intOf]; omega
    · have hiz : ¬ (i : Int) < (m : Int) := by omega
      have hie : i = m := by omega
      have HBX : Hid (Bx wr bd (.slice A n c) (.slice B m e') (.int .i64 l)) := (HB.out.block bd hbd).trans HX.out
      clear k1
      have k1 := HBX.out.c1
      have f1 := HBX.out.f 1
      go_wp2_with fail
      refine bodyPost_end (v := .tuple #[]) (by simp [results, Tryd.results45, go_sem]) rfl ⟨rfl, ?_, ?_, ?_⟩
      · exact HBX.out.set1
      · have h1 := HSP.out.1
        rw [hie, ← HW.out] at h1
        exact ownsRow_setCell_other h1 (fun e => absurd (World.ownsRow.lt h1 _ e).1 (by simp only; omega)) _
      · exact ⟨wr, HB.out, rfl⟩

/-- What settle leaves, under Sync's own closure. -/
theorem sync1_any (w : World) (base bd : Nat) (A : Option Addr) (n c : Nat) (B : Option Addr) (m e' : Nat) (ps : List Pg) (d : Dk) (l : Int)
    (hg : Good d) (hx : Bx w bd (.slice A n c) (.slice B m e') (.int .i64 l)) (hs : SP base w A n c B m e' ps d.dry d.wet) (hbd : bd < base) (hbase : base ≤ w.heap.size) (hn : n ≤ 300000) (hm : m ≤ 1000) :
    Calls Tryd.prog 48 #[.pointer (some ⟨bd, 0, none⟩)] w
      fun e w' => e = .returned (.tuple #[]) ∧ Bx w' bd (.slice A n c) (.slice none 0 0) (.int .i64 l) ∧ OB base w' A n c (setUpto d.dry d.wet allMask d.wet.length) ∧ ∃ w1, Below base w w1 ∧ w' = w1.setCell ⟨bd, 1, none⟩ (.slice none 0 0) := by
  have h := settleS_any w base bd A n c B m e' ps d l hg hx hs hbd hbase hn hm
  have H := hide h
  clear h hg hx hs
  go_enter Tryd.func48, Tryd.ntmps48
  go_wp2_with (first | (go_at_call 45; refine H.out.mono ?_; rintro e w' ⟨rfl, h1, h2, h3⟩; have HH := hide (And.intro h1 (And.intro h2 h3)); clear h1 h2 h3))
  exact bodyPost_end (v := .tuple #[]) (by simp [results, Tryd.results48, go_sem]) rfl ⟨rfl, HH.out⟩
end Go.Proofs.YthhemdjggdgaaaaDoor
