import Derived.Test.YtbfagfnclgfmhaaLive
namespace Go.Proofs.Ytbfagfnclgfmhaa
set_option linter.unusedVariables false
open Go.RowKit

theorem check_is (w : World) (A : Option Addr) (n c : Nat) (ps : List Pin) (x : Int) (h : chk ps = x) (hr : PR w A n ps) (hn : n ≤ 1000) :
    Calls Try.prog 14 #[.slice A n c] w fun e w' => e = .returned (.int .i64 x) ∧ Below w.heap.size w w' :=
  (check_any w A n c ps hr hn).mono fun _ _ hh => by rw [h] at hh; exact hh
theorem same_is (w : World) (A B : Option Addr) (n m c d : Nat) (ps qs : List Pin) (x : Bool) (h : decide (ps = qs) = x) (hx : PR w A n ps) (hy : PR w B m qs) (hn : n ≤ 1000) :
    Calls Try.prog 13 #[.slice A n c, .slice B m d] w fun e w' => e = .returned (.bool x) ∧ Below w.heap.size w w' :=
  (same_any w A B n m c d ps qs hx hy hn).mono fun _ _ hh => ⟨by rw [← h]; exact hh.1, hh.2.below _⟩
theorem rsame_is (w : World) (A B : Option Addr) (n m c d : Nat) (ps qs : List Pin) (x : Bool) (h : decide (ps = qs) = x) (hx : PR w A n ps) (hy : PR w B m qs) (hn : n ≤ 1000) :
    Calls Try.prog 19 #[.slice A n c, .slice B m d] w fun e w' => e = .returned (.bool x) ∧ Below w.heap.size w w' :=
  (rsame_any w A B n m c d ps qs hx hy hn).mono fun _ _ hh => ⟨by rw [← h]; exact hh.1, hh.2.below _⟩

theorem same_self (w : World) (A B : Option Addr) (n m c d : Nat) (ps : List Pin) (hx : PR w A n ps) (hy : PR w B m ps) (hn : n ≤ 1000) :
    Calls Try.prog 13 #[.slice A n c, .slice B m d] w fun e w' => e = .returned (.bool true) ∧ Below w.heap.size w w' := same_is w A B n m c d ps ps true (by simp) hx hy hn
theorem rsame_self (w : World) (A B : Option Addr) (n m c d : Nat) (ps : List Pin) (hx : PR w A n ps) (hy : PR w B m ps) (hn : n ≤ 1000) :
    Calls Try.prog 19 #[.slice A n c, .slice B m d] w fun e w' => e = .returned (.bool true) ∧ Below w.heap.size w w' := rsame_is w A B n m c d ps ps true (by simp) hx hy hn

/-- Two steps, each below. -/
theorem Below.then {a b c : World} (h : Below a.heap.size a b) (k : Below b.heap.size b c) : Below a.heap.size a c := h.trans (k.mono h.size)

set_option maxHeartbeats 2000000 in
theorem backW (w : World) (A : Option Addr) (n c : Nat) (ps : List Pin) (gen other : Nat) (hr : PR w A n ps) :
    Calls Try.prog 5 #[.slice A n c, .int .u64 gen, .int .u64 other] w fun e w' => e = .returned (.bool true) ∧ Below w.heap.size w w' := by
  have HR := hide hr
  clear hr
  by_cases hn : n ≤ 70
  · have hn0 : n ≤ 1000 := by omega
    have t1 : decide ((70 : Int) < (n : Int)) = false := decide_eq_false (by omega)
    obtain ⟨qs, hqs⟩ : ∃ qs, (openS ps gen).1 = qs := ⟨_, rfl⟩
    obtain ⟨x, hx⟩ : ∃ x, (openS ps gen).2 = x := ⟨_, rfl⟩
    have hc := open_cases ps gen
    have HO : Hid (openS ps gen = (qs, x)) := by show _ = _; rw [← hqs, ← hx]
    rw [hqs, hx] at hc
    clear hqs hx
    rcases hc with ⟨rfl, hx⟩ | ⟨rfl, hO⟩
    · have t2 : (x != 0) = true := by rw [bne_iff_ne]; omega
      clear hx
      go_enter Try.func5, Try.ntmps5
      go_wp2_with (first | (go_at_call 8; refine (live_any _).mono ?_; rintro e w1 ⟨rfl, hb⟩; have HB1 := hide hb; clear hb) | (go_at_call 9; (with_reducible refine (open_is _ A n c ps gen _ _ HO.out (HR.out.below HB1.out) hn0).mono ?_); rintro e w2 ⟨A2, n2, c2, rfl, ho, rfl, _, hb⟩; have HB2 := hide hb; clear ho hb))
      go_ret
      exact ⟨rfl, Below.then HB1.out HB2.out⟩
    · have HC := hide (back hO)
      have hq := cnt_range hO.good gen
      have hlo := hO.low
      have HM := hide (many_ok hO.good hO.gen)
      have HM' := many_ok hO.good' hO.gen
      rw [hO.at_ gen, if_pos rfl] at HM'
      obtain ⟨q, hqq⟩ : ∃ q, cnt ps gen = q := ⟨_, rfl⟩
      rw [hqq] at HM HM' hlo hq
      have HM' := hide HM'
      have HK := hide (chk_zero hO.good')
      have hw1 : IntKind.i64.wrap (q + 1) = q + 1 := by rw [IntKind.wrap_i64]; omega
      obtain ⟨m1, m2, y, HY1, HY2, HYE⟩ : ∃ m1 m2 y, Hid (manyS ps other = (m1, y)) ∧ Hid (manyS qs other = (m2, y)) ∧ Hid (other ≠ gen → m1 = m2) := by
        by_cases ho : other ≤ 1099511627776
        · refine ⟨_, _, _, many_ok hO.good ho, many_ok hO.good' ho, fun hne => ?_⟩
          rw [hO.at_ other, if_neg hne]
        · exact ⟨_, _, _, many_bad (fun h => ho h.2), many_bad (fun h => ho h.2), fun _ => rfl⟩
      clear hO hlo hqq
      have hq0 := hq.1
      have hq1 := hq.2
      clear hq
      have HB := hide (Below.refl w.heap.size w)
      by_cases he : other = gen
      · have he2 := he.symm
        subst he2
        clear HY1 HY2 HYE
        go_enter Try.func5, Try.ntmps5
        go_wp2_with (first | (go_at_call 8; refine (live_any _).mono ?_; rintro e w1 ⟨rfl, hb⟩; replace HR := hide (HR.out.below hb); replace HB := hide (Below.then HB.out hb); clear hb) | (go_at_call 9; (with_reducible refine (open_is _ A n c ps gen _ _ HO.out HR.out hn0).mono ?_); rintro e w2 ⟨A2, n2, c2, rfl, ho, _, hn2, hb⟩; have HQ := hide ho.reads; clear ho; replace HR := hide (HR.out.below hb); replace HB := hide (Below.then HB.out hb); clear hb) | (go_at_call 11; (with_reducible refine (close_is _ A2 n2 c2 qs gen _ _ HC.out HQ.out hn2).mono ?_); rintro e w3 ⟨A3, n3, c3, rfl, ho, _, hn3, hb⟩; have HP := hide ho.reads; clear ho; replace HR := hide (HR.out.below hb); replace HQ := hide (HQ.out.below hb); replace HB := hide (Below.then HB.out hb); clear hb) | (go_at_call 10; (with_reducible refine (many_is _ A n c ps gen _ _ HM.out HR.out hn0).mono ?_); rintro e w4 ⟨rfl, hb⟩; replace HR := hide (HR.out.below hb); replace HQ := hide (HQ.out.below hb); replace HP := hide (HP.out.below hb); replace HB := hide (Below.then HB.out hb); clear hb) | (go_at_call 10; (with_reducible refine (many_is _ A2 n2 c2 qs gen _ _ HM'.out HQ.out hn2).mono ?_); rintro e w4 ⟨rfl, hb⟩; replace HR := hide (HR.out.below hb); replace HQ := hide (HQ.out.below hb); replace HP := hide (HP.out.below hb); replace HB := hide (Below.then HB.out hb); clear hb) | (go_at_call 13; (with_reducible refine (same_self _ A3 A n3 n c3 c ps HP.out HR.out hn3).mono ?_); rintro e w4 ⟨rfl, hb⟩; replace HR := hide (HR.out.below hb); replace HQ := hide (HQ.out.below hb); replace HP := hide (HP.out.below hb); replace HB := hide (Below.then HB.out hb); clear hb) | (go_at_call 14; (with_reducible refine (check_is _ A2 n2 c2 qs _ HK.out HQ.out hn2).mono ?_); rintro e w4 ⟨rfl, hb⟩; replace HR := hide (HR.out.below hb); replace HQ := hide (HQ.out.below hb); replace HP := hide (HP.out.below hb); replace HB := hide (Below.then HB.out hb); clear hb))
        go_ret
        exact ⟨rfl, HB.out⟩
      · obtain rfl := HYE.out he
        clear HYE
        have he' : ((other : Int) == (gen : Int)) = false := by rw [beq_eq_false_iff_ne]; omega
        clear he
        go_enter Try.func5, Try.ntmps5
        go_wp2_with (first | (go_at_call 8; refine (live_any _).mono ?_; rintro e w1 ⟨rfl, hb⟩; replace HR := hide (HR.out.below hb); replace HB := hide (Below.then HB.out hb); clear hb) | (go_at_call 9; (with_reducible refine (open_is _ A n c ps gen _ _ HO.out HR.out hn0).mono ?_); rintro e w2 ⟨A2, n2, c2, rfl, ho, _, hn2, hb⟩; have HQ := hide ho.reads; clear ho; replace HR := hide (HR.out.below hb); replace HB := hide (Below.then HB.out hb); clear hb) | (go_at_call 11; (with_reducible refine (close_is _ A2 n2 c2 qs gen _ _ HC.out HQ.out hn2).mono ?_); rintro e w3 ⟨A3, n3, c3, rfl, ho, _, hn3, hb⟩; have HP := hide ho.reads; clear ho; replace HR := hide (HR.out.below hb); replace HQ := hide (HQ.out.below hb); replace HB := hide (Below.then HB.out hb); clear hb) | (go_at_call 10; (with_reducible refine (many_is _ A n c ps gen _ _ HM.out HR.out hn0).mono ?_); rintro e w4 ⟨rfl, hb⟩; replace HR := hide (HR.out.below hb); replace HQ := hide (HQ.out.below hb); replace HP := hide (HP.out.below hb); replace HB := hide (Below.then HB.out hb); clear hb) | (go_at_call 10; (with_reducible refine (many_is _ A2 n2 c2 qs gen _ _ HM'.out HQ.out hn2).mono ?_); rintro e w4 ⟨rfl, hb⟩; replace HR := hide (HR.out.below hb); replace HQ := hide (HQ.out.below hb); replace HP := hide (HP.out.below hb); replace HB := hide (Below.then HB.out hb); clear hb) | (go_at_call 13; (with_reducible refine (same_self _ A3 A n3 n c3 c ps HP.out HR.out hn3).mono ?_); rintro e w4 ⟨rfl, hb⟩; replace HR := hide (HR.out.below hb); replace HQ := hide (HQ.out.below hb); replace HP := hide (HP.out.below hb); replace HB := hide (Below.then HB.out hb); clear hb) | (go_at_call 14; (with_reducible refine (check_is _ A2 n2 c2 qs _ HK.out HQ.out hn2).mono ?_); rintro e w4 ⟨rfl, hb⟩; replace HR := hide (HR.out.below hb); replace HQ := hide (HQ.out.below hb); replace HP := hide (HP.out.below hb); replace HB := hide (Below.then HB.out hb); clear hb) | (go_at_call 10; (with_reducible refine (many_is _ A n c ps other _ _ HY1.out HR.out hn0).mono ?_); rintro e w4 ⟨rfl, hb⟩; replace HR := hide (HR.out.below hb); replace HQ := hide (HQ.out.below hb); replace HP := hide (HP.out.below hb); replace HB := hide (Below.then HB.out hb); clear hb) | (go_at_call 10; (with_reducible refine (many_is _ A2 n2 c2 qs other _ _ HY2.out HQ.out hn2).mono ?_); rintro e w4 ⟨rfl, hb⟩; replace HR := hide (HR.out.below hb); replace HQ := hide (HQ.out.below hb); replace HP := hide (HP.out.below hb); replace HB := hide (Below.then HB.out hb); clear hb))
        go_ret
        exact ⟨rfl, HB.out⟩
  · have t1 : decide ((70 : Int) < (n : Int)) = true := decide_eq_true (by omega)
    go_enter Try.func5, Try.ntmps5
    go_wp2_with (first | (go_at_call 8; refine (live_any _).mono ?_; rintro e w1 ⟨rfl, hb⟩; have HB1 := hide hb; clear hb))
    go_ret
    exact ⟨rfl, HB1.out⟩
end Go.Proofs.Ytbfagfnclgfmhaa
