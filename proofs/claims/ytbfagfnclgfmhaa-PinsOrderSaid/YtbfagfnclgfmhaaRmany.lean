import Derived.Test.YtbfagfnclgfmhaaRchk
namespace Go.Proofs.Ytbfagfnclgfmhaa
set_option linter.unusedVariables false
open Go.RowKit

theorem rmany_any (w : World) (A : Option Addr) (n c : Nat) (ps : List Pin) (gen : Nat) (hr : PR w A n ps) (hn : n ≤ 1000) :
    Calls Try.prog 17 #[.slice A n c, .int .u64 gen] w fun e w' => e = .returned (.tuple #[.int .i64 (manyS ps gen).1, .int .i64 (manyS ps gen).2]) ∧ Below w.heap.size w w' := by
  have HR := hide hr
  have HL := hide hr.len
  clear hr
  cases hg : good ps with
  | false =>
    have HC : Hid (chk ps = 1) := by show _ = _; unfold chk; rw [hg]; rfl
    have HM : Hid (manyS ps gen = (0, 1)) := by show _ = _; unfold manyS okk; rw [hg]; rfl
    clear hg
    go_enter Try.func17, Try.ntmps17
    go_wp2_with (go_at_call 20; refine (rcheck_any _ _ _ _ ps HR.out hn).mono ?_; rintro e w' ⟨rfl, hb⟩; have HB := hide hb; clear hb; rw [HC.out])
    go_ret2
    exact ⟨by rw [HM.out]; rfl, HB.out⟩
  | true =>
    have HC : Hid (chk ps = 0) := by show _ = _; unfold chk; rw [hg]; rfl
    have HG := hide (good_iff.1 hg)
    by_cases hq : gen ≤ 1099511627776
    · have HM : Hid (manyS ps gen = (cnt ps gen, 0)) := by show _ = _; unfold manyS okk; rw [hg, decide_eq_true hq]; rfl
      have t1 : decide ((1099511627776 : Int) < (gen : Int)) = false := decide_eq_false (by omega)
      clear hg hq
      go_enter Try.func17, Try.ntmps17
      go_wp2_with (go_at_call 20; refine (rcheck_any _ _ _ _ ps HR.out hn).mono ?_; rintro e w' ⟨rfl, hb⟩; have HB := hide hb; clear hb; rw [HC.out])
      go_loopw [17] (fun v wr => ∃ k : Nat, v = .int .i64 k ∧ k ≤ n ∧ Hid (∀ i, i < k → (nth ps i).1 ≠ gen) ∧ Hid (Below w.heap.size w wr)) (fun v _ => n - (intOf v).toNat)
      case atStart => exact ⟨0, rfl, by omega, hide (fun i hi => by omega), HB⟩
      case round =>
        obtain ⟨k, rfl, hk, HK, HB⟩ := hrel
        by_cases hkn : k < n
        · have hkz : (k : Int) < (n : Int) := by omega
          obtain ⟨ad, rfl, c0, c1⟩ := (HR.out.below HB.out).cell k hkn
          obtain ⟨p, hp⟩ : ∃ p, nth ps k = p := ⟨_, rfl⟩
          rw [hp] at c0 c1
          have HP := hide hp
          clear hp
          obtain ⟨pg, pn⟩ := p
          by_cases hpg : pg = gen
          · subst hpg
            have HF : Hid (cnt ps pg = pn) := by
              show _ = _
              have := cnt_at HG.out (i := k) (by rw [HL.out]; exact hkn)
              rwa [HP.out] at this
            go_wp2_with fail
            go_ret2
            exact ⟨by rw [HM.out, HF.out]; rfl, HB.out.alloc HB.out.size _⟩
          · have t2 : ((pg : Int) == (gen : Int)) = false := by rw [beq_eq_false_iff_ne]; omega
            have HPG := hide hpg
            clear hpg
            go_wp2_with fail
            go_roundw
            case rel =>
              refine ⟨k + 1, by go_num, by omega, hide (fun i hi => ?_), hide (HB.out.alloc HB.out.size _)⟩
              by_cases hik : i < k
              · exact HK.out i hik
              · obtain rfl : i = k := by omega
                rw [HP.out]; exact HPG.out
            case measure => simp [intOf]; omega
        · have hkz : ¬ (k : Int) < (n : Int) := by omega
          have hke : Hid (k = n) := by show _ = _; omega
          go_wp2_with fail
          go_ret2
          exact ⟨by rw [HM.out, cnt_none (fun i hi => HK.out i (by rw [hke.out, ← HL.out]; exact hi))]; rfl, HB.out⟩
    · have HM : Hid (manyS ps gen = (0, 1)) := by show _ = _; unfold manyS okk; rw [hg, decide_eq_false hq]; rfl
      have t1 : decide ((1099511627776 : Int) < (gen : Int)) = true := decide_eq_true (by omega)
      clear hg hq
      go_enter Try.func17, Try.ntmps17
      go_wp2_with (go_at_call 20; refine (rcheck_any _ _ _ _ ps HR.out hn).mono ?_; rintro e w' ⟨rfl, hb⟩; have HB := hide hb; clear hb; rw [HC.out])
      go_ret2
      exact ⟨by rw [HM.out]; rfl, HB.out⟩

theorem rleast_any (w : World) (A : Option Addr) (n c : Nat) (ps : List Pin) (hr : PR w A n ps) (hn : n ≤ 1000) :
    Calls Try.prog 18 #[.slice A n c] w fun e w' => e = .returned (.tuple #[.int .u64 (leastS ps).1, .int .i64 (leastS ps).2]) ∧ Below w.heap.size w w' := by
  have HR := hide hr
  have HL := hide hr.len
  clear hr
  cases hg : good ps with
  | false =>
    have HC : Hid (chk ps = 1) := by show _ = _; unfold chk; rw [hg]; rfl
    have HM : Hid (leastS ps = (0, 1)) := by show _ = _; unfold leastS; rw [hg]; rfl
    go_enter Try.func18, Try.ntmps18
    go_wp2_with (go_at_call 20; refine (rcheck_any _ _ _ _ ps HR.out hn).mono ?_; rintro e w' ⟨rfl, hb⟩; have HB := hide hb; clear hb; rw [HC.out])
    go_ret2
    exact ⟨by rw [HM.out]; rfl, HB.out⟩
  | true =>
    have HC : Hid (chk ps = 0) := by show _ = _; unfold chk; rw [hg]; rfl
    by_cases h0 : n = 0
    · have HM : Hid (leastS ps = (0, 4)) := by show _ = _; unfold leastS; rw [hg, if_pos rfl, if_pos (by rw [HL.out]; exact h0)]
      have hz : ((n : Int) == 0) = true := by rw [beq_iff_eq]; omega
      clear hg h0
      go_enter Try.func18, Try.ntmps18
      go_wp2_with (go_at_call 20; refine (rcheck_any _ _ _ _ ps HR.out hn).mono ?_; rintro e w' ⟨rfl, hb⟩; have HB := hide hb; clear hb; rw [HC.out])
      go_ret2
      exact ⟨by rw [HM.out]; rfl, HB.out⟩
    · have HM : Hid (leastS ps = ((nth ps 0).1, 0)) := by show _ = _; unfold leastS; rw [hg, if_pos rfl, if_neg (by rw [HL.out]; exact h0)]
      have hz : ((n : Int) == 0) = false := by rw [beq_eq_false_iff_ne]; omega
      obtain ⟨ad, rfl, _, _⟩ := HR.out.cell 0 (by omega)
      have hnz : (0 : Int) < (n : Int) := by omega
      have hnn : 0 < n := by omega
      clear hg h0
      go_enter Try.func18, Try.ntmps18
      go_wp2_with (go_at_call 20; refine (rcheck_any _ _ _ _ ps HR.out hn).mono ?_; rintro e w' ⟨rfl, hb⟩; have HB := hide hb; clear hb; rw [HC.out]; obtain ⟨ad', hA, c0, _⟩ := (HR.out.below HB.out).cell 0 hnn; injection hA with hA; subst hA; rw [show ad.add (0 * 2) = ad from by unfold Addr.add; simp] at c0)
      go_ret2
      exact ⟨by rw [HM.out]; rfl, HB.out⟩
end Go.Proofs.Ytbfagfnclgfmhaa
