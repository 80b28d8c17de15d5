import Derived.Test.YtbfagfnclgfmhaaWith
import Derived.Test.YtbfagfnclgfmhaaCls
import Derived.Test.YtbfagfnclgfmhaaPlb
namespace Go.Proofs.Ytbfagfnclgfmhaa
set_option linter.unusedVariables false
open Go.RowKit

set_option maxHeartbeats 1000000 in
theorem ropen_any (w : World) (A : Option Addr) (n c : Nat) (ps : List Pin) (gen : Nat) (hr : PR w A n ps) (hn : n ≤ 1000) :
    Calls Try.prog 15 #[.slice A n c, .int .u64 gen] w (OpenPost w (openS ps gen)) := by
  have HR := hide hr
  have HL := hide hr.len
  clear hr
  cases hk : okk ps gen with
  | false =>
    have HM : Hid (openS ps gen = ([], 1)) := by show _ = _; unfold openS; rw [hk]; rfl
    have HN : Hid (manyS ps gen = (0, 1)) := by show _ = _; unfold manyS; rw [hk]; rfl
    clear hk
    go_enter Try.func15, Try.ntmps15
    go_wp2_with (go_at_call 17; refine (rmany_any _ _ _ _ ps gen HR.out hn).mono ?_; rintro e w' ⟨rfl, hb⟩; have HB := hide hb; clear hb; rw [HN.out])
    go_ret2
    rw [HM.out]
    exact ⟨none, 0, 0, rfl, Own.nil _ _, HB.out⟩
  | true =>
    have HM : Hid (openS ps gen = (if cnt ps gen = 64 ∨ (cnt ps gen = 0 ∧ ps.length = 64) then ([], 6) else (wth ps gen (cnt ps gen + 1), 0))) := by show _ = _; unfold openS; rw [hk]; rfl
    have HN : Hid (manyS ps gen = (cnt ps gen, 0)) := by show _ = _; unfold manyS; rw [hk]; rfl
    have hb1 := cnt_range (okk_iff.1 hk).1 gen
    obtain ⟨q, hq⟩ : ∃ q, cnt ps gen = q := ⟨_, rfl⟩
    rw [hq] at HN HM hb1
    clear hk hq
    have hw1 : IntKind.i64.wrap (q + 1) = q + 1 := by rw [IntKind.wrap_i64]; omega
    have HW1 := hide hw1
    clear hw1
    by_cases h1 : q = 64
    · have HM2 : Hid (openS ps gen = ([], 6)) := by
        show _ = _
        rw [HM.out, if_pos (.inl h1)]
      subst h1
      go_enter Try.func15, Try.ntmps15
      go_wp2_with (go_at_call 17; refine (rmany_any _ _ _ _ ps gen HR.out hn).mono ?_; rintro e w' ⟨rfl, hb⟩; have HB := hide hb; clear hb; rw [HN.out])
      go_ret2
      rw [HM2.out]
      exact ⟨none, 0, 0, rfl, Own.nil _ _, HB.out⟩
    · have t1 : (q == 64) = false := beq_eq_false_iff_ne.2 h1
      by_cases h2 : q = 0
      · subst h2
        by_cases h3 : n = 64
        · have t2 : ((n : Int) == 64) = true := by rw [beq_iff_eq]; omega
          have HM2 : Hid (openS ps gen = ([], 6)) := by
            show _ = _
            rw [HM.out, if_pos (.inr ⟨rfl, by rw [HL.out]; exact h3⟩)]
          clear h3
          go_enter Try.func15, Try.ntmps15
          go_wp2_with (go_at_call 17; refine (rmany_any _ _ _ _ ps gen HR.out hn).mono ?_; rintro e w' ⟨rfl, hb⟩; have HB := hide hb; clear hb; rw [HN.out])
          go_ret2
          rw [HM2.out]
          exact ⟨none, 0, 0, rfl, Own.nil _ _, HB.out⟩
        · have t2 : ((n : Int) == 64) = false := by rw [beq_eq_false_iff_ne]; omega
          have H3 := hide h3
          have H1 := hide h1
          clear h3 h1
          go_enter Try.func15, Try.ntmps15
          go_wp2_with (first | (go_at_call 17; refine (rmany_any _ _ _ _ ps gen HR.out hn).mono ?_; rintro e w' ⟨rfl, hb⟩; have HB := hide hb; clear hb; rw [HN.out]) | (go_at_call 33; refine (with_any _ _ _ _ ps gen _ (HR.out.below HB.out) hn).mono ?_; rintro e w2 ⟨A2, n2, c2, rfl, ho, hb2⟩; have HB2 := hide hb2; have HO := hide ho; clear ho hb2))
          go_ret2
          rw [HM.out, if_neg (by rw [HL.out]; have := H1.out; have := H3.out; omega)]
          exact ⟨A2, n2, c2, rfl, HO.out.mono HB.out.size, HB.out.trans (HB2.out.mono HB.out.size)⟩
      · have t2 : (q == 0) = false := beq_eq_false_iff_ne.2 h2
        have H2 := hide h2
        have H1 := hide h1
        clear h2 h1
        have hw1 := HW1.out
        go_enter Try.func15, Try.ntmps15
        go_wp2_with (first | (go_at_call 17; refine (rmany_any _ _ _ _ ps gen HR.out hn).mono ?_; rintro e w' ⟨rfl, hb⟩; have HB := hide hb; clear hb; rw [HN.out]) | (go_at_call 33; refine (with_any _ _ _ _ ps gen _ (HR.out.below HB.out) hn).mono ?_; rintro e w2 ⟨A2, n2, c2, rfl, ho, hb2⟩; have HB2 := hide hb2; have HO := hide ho; clear ho hb2))
        go_ret2
        rw [HM.out, if_neg (by have := H1.out; have := H2.out; omega)]
        exact ⟨A2, n2, c2, rfl, HO.out.mono HB.out.size, HB.out.trans (HB2.out.mono HB.out.size)⟩

set_option maxHeartbeats 1000000 in
theorem rclose_any (w : World) (A : Option Addr) (n c : Nat) (ps : List Pin) (gen : Nat) (hr : PR w A n ps) (hn : n ≤ 1000) :
    Calls Try.prog 16 #[.slice A n c, .int .u64 gen] w (OpenPost w (closeS ps gen)) := by
  have HR := hide hr
  have HL := hide hr.len
  clear hr
  cases hk : okk ps gen with
  | false =>
    have HM : Hid (closeS ps gen = ([], 1)) := by show _ = _; unfold closeS; rw [hk]; rfl
    have HN : Hid (manyS ps gen = (0, 1)) := by show _ = _; unfold manyS; rw [hk]; rfl
    clear hk
    go_enter Try.func16, Try.ntmps16
    go_wp2_with (go_at_call 17; refine (rmany_any _ _ _ _ ps gen HR.out hn).mono ?_; rintro e w' ⟨rfl, hb⟩; have HB := hide hb; clear hb; rw [HN.out])
    go_ret2
    rw [HM.out]
    exact ⟨none, 0, 0, rfl, Own.nil _ _, HB.out⟩
  | true =>
    have HM : Hid (closeS ps gen = (if cnt ps gen = 0 then ([], 4) else (wth ps gen (cnt ps gen - 1), 0))) := by show _ = _; unfold closeS; rw [hk]; rfl
    have HN : Hid (manyS ps gen = (cnt ps gen, 0)) := by show _ = _; unfold manyS; rw [hk]; rfl
    have hb1 := cnt_range (okk_iff.1 hk).1 gen
    obtain ⟨q, hq⟩ : ∃ q, cnt ps gen = q := ⟨_, rfl⟩
    rw [hq] at HN HM hb1
    clear hk hq
    have hw1 : IntKind.i64.wrap (q - 1) = q - 1 := by rw [IntKind.wrap_i64]; omega
    by_cases h1 : q = 0
    · have HM2 : Hid (closeS ps gen = ([], 4)) := by
        show _ = _
        rw [HM.out, if_pos h1]
      subst h1
      clear hw1
      go_enter Try.func16, Try.ntmps16
      go_wp2_with (go_at_call 17; refine (rmany_any _ _ _ _ ps gen HR.out hn).mono ?_; rintro e w' ⟨rfl, hb⟩; have HB := hide hb; clear hb; rw [HN.out])
      go_ret2
      rw [HM2.out]
      exact ⟨none, 0, 0, rfl, Own.nil _ _, HB.out⟩
    · have t1 : (q == 0) = false := beq_eq_false_iff_ne.2 h1
      have H1 := hide h1
      clear h1
      go_enter Try.func16, Try.ntmps16
      go_wp2_with (first | (go_at_call 17; refine (rmany_any _ _ _ _ ps gen HR.out hn).mono ?_; rintro e w' ⟨rfl, hb⟩; have HB := hide hb; clear hb; rw [HN.out]) | (go_at_call 33; refine (with_any _ _ _ _ ps gen _ (HR.out.below HB.out) hn).mono ?_; rintro e w2 ⟨A2, n2, c2, rfl, ho, hb2⟩; have HB2 := hide hb2; have HO := hide ho; clear ho hb2))
      go_ret2
      rw [HM.out, if_neg H1.out]
      exact ⟨A2, n2, c2, rfl, HO.out.mono HB.out.size, HB.out.trans (HB2.out.mono HB.out.size)⟩
end Go.Proofs.Ytbfagfnclgfmhaa
