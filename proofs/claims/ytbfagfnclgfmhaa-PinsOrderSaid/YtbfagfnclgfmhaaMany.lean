import Derived.Test.YtbfagfnclgfmhaaPl
namespace Go.Proofs.Ytbfagfnclgfmhaa
open Go.RowKit

theorem many_any (w : World) (A : Option Addr) (n c : Nat) (ps : List Pin) (gen : Nat) (hr : PR w A n ps) (hn : n ≤ 1000) :
    Calls Try.prog 10 #[.slice A n c, .int .u64 gen] w fun e w' => e = .returned (.tuple #[.int .i64 (manyS ps gen).1, .int .i64 (manyS ps gen).2]) ∧ Below w.heap.size w w' := by
  have HR := hide hr
  have HL := hide hr.len
  clear hr
  cases hk : okk ps gen with
  | false =>
    have HM : Hid (manyS ps gen = (0, 1)) := by show manyS ps gen = _; unfold manyS; rw [hk]; rfl
    go_enter Try.func10, Try.ntmps10
    go_wp2_with (go_at_call 21; refine (find_any _ _ _ _ ps gen HR.out hn).mono ?_; rintro e w' ⟨⟨i, t, c', rfl, _, h2⟩, hb⟩; obtain ⟨rfl, rfl⟩ := h2 hk; have HB := hide hb; clear hb h2)
    go_ret2
    exact ⟨by rw [HM.out]; rfl, HB.out⟩
  | true =>
    obtain ⟨hg, hq⟩ := okk_iff.1 hk
    have HG := hide hg
    clear hg
    have HM0 : Hid (cnt ps gen = 0 → manyS ps gen = (0, 0)) := by intro h; unfold manyS; rw [hk, h]; rfl
    have HM1 : Hid (manyS ps gen = (cnt ps gen, 0)) := by show _ = _; unfold manyS; rw [hk]; rfl
    go_enter Try.func10, Try.ntmps10
    go_wp2_with fail
    refine (find_any _ _ _ _ ps gen HR.out hn).mono ?_
    rintro e w' ⟨⟨i, t, c', rfl, h1, _⟩, hb⟩
    obtain ⟨rfl, rfl, ha⟩ := h1 hk
    have HB := hide hb
    clear hb h1
    cases ht : there ps gen i with
    | false =>
      have HM := hide (HM0.out (cnt_not HG.out ha ht))
      clear ha ht
      go_wp2_with fail
      go_ret2
      exact ⟨by rw [HM.out]; rfl, HB.out⟩
    | true =>
      have hi := (there_iff.1 ht).1
      rw [HL.out] at hi
      have HM := HM1.out
      rw [cnt_there HG.out ht] at HM
      have HM := hide HM
      obtain ⟨ad, rfl, c0, c1⟩ := (HR.out.below HB.out).cell i hi
      have hiz : (i : Int) < (n : Int) := by omega
      obtain ⟨p, hp⟩ : ∃ p, nth ps i = p := ⟨_, rfl⟩
      rw [hp] at c0 c1
      have HP := hide hp
      clear ha ht hp
      go_wp2_with fail
      go_ret2
      exact ⟨by rw [HM.out, HP.out]; rfl, HB.out⟩

theorem least_any (w : World) (A : Option Addr) (n c : Nat) (ps : List Pin) (hr : PR w A n ps) (hn : n ≤ 1000) :
    Calls Try.prog 12 #[.slice A n c] w fun e w' => e = .returned (.tuple #[.int .u64 (leastS ps).1, .int .i64 (leastS ps).2]) ∧ Below w.heap.size w w' := by
  have HR := hide hr
  have HL := hide hr.len
  clear hr
  cases hg : good ps with
  | false =>
    have HC : Hid (chk ps = 1) := by show _ = _; unfold chk; rw [hg]; rfl
    have HM : Hid (leastS ps = (0, 1)) := by show _ = _; unfold leastS; rw [hg]; rfl
    go_enter Try.func12, Try.ntmps12
    go_wp2_with (go_at_call 14; refine (check_any _ _ _ _ ps HR.out hn).mono ?_; rintro e w' ⟨rfl, hb⟩; have HB := hide hb; clear hb; rw [HC.out])
    go_ret2
    exact ⟨by rw [HM.out]; rfl, HB.out⟩
  | true =>
    have HC : Hid (chk ps = 0) := by show _ = _; unfold chk; rw [hg]; rfl
    by_cases h0 : n = 0
    · have HM : Hid (leastS ps = (0, 4)) := by show _ = _; unfold leastS; rw [hg, if_pos rfl, if_pos (by rw [HL.out]; exact h0)]
      have hz : ((n : Int) == 0) = true := by rw [beq_iff_eq]; omega
      clear hg h0
      go_enter Try.func12, Try.ntmps12
      go_wp2_with (go_at_call 14; refine (check_any _ _ _ _ ps HR.out hn).mono ?_; rintro e w' ⟨rfl, hb⟩; have HB := hide hb; clear hb; rw [HC.out])
      go_ret2
      exact ⟨by rw [HM.out]; rfl, HB.out⟩
    · have HM : Hid (leastS ps = ((nth ps 0).1, 0)) := by show _ = _; unfold leastS; rw [hg, if_pos rfl, if_neg (by rw [HL.out]; exact h0)]
      have hz : ((n : Int) == 0) = false := by rw [beq_eq_false_iff_ne]; omega
      obtain ⟨ad, rfl, _, _⟩ := HR.out.cell 0 (by omega)
      have hnz : (0 : Int) < (n : Int) := by omega
      have hnn : 0 < n := by omega
      clear hg h0
      go_enter Try.func12, Try.ntmps12
      go_wp2_with (go_at_call 14; refine (check_any _ _ _ _ ps HR.out hn).mono ?_; rintro e w' ⟨rfl, hb⟩; have HB := hide hb; clear hb; rw [HC.out]; obtain ⟨ad', hA, c0, _⟩ := (HR.out.below HB.out).cell 0 hnn; injection hA with hA; subst hA; rw [show ad.add (0 * 2) = ad from by unfold Addr.add; simp] at c0)

      go_ret2
      exact ⟨by rw [HM.out]; rfl, HB.out⟩
end Go.Proofs.Ytbfagfnclgfmhaa
