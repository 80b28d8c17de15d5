import Derived.Test.YtbfagfnclgfmhaaWBack
import Derived.Test.YtbfagfnclgfmhaaPlo
namespace Go.Proofs.Ytbfagfnclgfmhaa
set_option linter.unusedVariables false
open Go.RowKit

/-- The first part's ways: not both opened; both, and what comes behind. -/
theorem order_part1 (ps : List Pin) (a b : Nat) (hl : ps.length ≤ 60) : ∃ xa ea xb eb, Hid (openS ps a = (xa, ea)) ∧ Hid (openS ps b = (xb, eb)) ∧
    (((ea == 0) = false ∧ Hid (xa.length ≤ 1000)) ∨ (ea = 0 ∧ (eb == 0) = false) ∨ (ea = 0 ∧ eb = 0 ∧ ∃ s g, Hid (openS xa b = (s, g)) ∧ Hid (openS xb a = (s, g)))) := by
  refine ⟨(openS ps a).1, (openS ps a).2, (openS ps b).1, (openS ps b).2, rfl, rfl, ?_⟩
  rcases open_cases ps a with ⟨_, h⟩ | ⟨h, ha⟩
  · exact .inl ⟨beq_eq_false_iff_ne.2 (by omega), openS_len ps a⟩
  · rcases open_cases ps b with ⟨_, k⟩ | ⟨k, hb⟩
    · exact .inr (.inl ⟨h, beq_eq_false_iff_ne.2 (by omega)⟩)
    · exact .inr (.inr ⟨h, k, _, _, rfl, (order_open ha hb hl).symm⟩)
theorem order_part2 (ps : List Pin) (a b : Nat) : ∃ xa ea xb eb, Hid (closeS ps a = (xa, ea)) ∧ Hid (closeS ps b = (xb, eb)) ∧
    ((ea != 0) = true ∨ (ea = 0 ∧ (eb != 0) = true) ∨ (ea = 0 ∧ eb = 0 ∧ ∃ s g, Hid (closeS xa b = (s, g)) ∧ Hid (closeS xb a = (s, g)) ∧ ((((a : Int) == (b : Int)) = true) ∨ (((a : Int) == (b : Int)) = false ∧ g = 0)))) := by
  refine ⟨(closeS ps a).1, (closeS ps a).2, (closeS ps b).1, (closeS ps b).2, rfl, rfl, ?_⟩
  rcases close_cases ps a with ⟨_, h⟩ | ⟨h, ha⟩
  · exact .inl (bne_iff_ne.2 (by omega))
  · rcases close_cases ps b with ⟨_, k⟩ | ⟨k, hb⟩
    · exact .inr (.inl ⟨h, bne_iff_ne.2 (by omega)⟩)
    · refine .inr (.inr ⟨h, k, _, _, rfl, (order_close ha hb).1.symm, ?_⟩)
      by_cases hab : a = b
      · exact .inl (beq_iff_eq.2 (by omega))
      · exact .inr ⟨beq_eq_false_iff_ne.2 (by omega), (order_close ha hb).2 hab⟩

set_option maxRecDepth 100000 in
set_option maxHeartbeats 4000000 in
theorem orderW (w : World) (A : Option Addr) (n c : Nat) (ps : List Pin) (a b : Nat) (hr : PR w A n ps) :
    Calls Try.prog 6 #[.slice A n c, .int .u64 a, .int .u64 b] w fun e w' => e = .returned (.bool true) ∧ Below w.heap.size w w' := by
  have hlen := hr.len
  have HR := hide hr
  clear hr
  by_cases hn : n ≤ 60
  · have hn0 : n ≤ 1000 := by omega
    have t1 : decide ((60 : Int) < (n : Int)) = false := decide_eq_false (by omega)
    have HB := hide (Below.refl w.heap.size w)
    obtain ⟨xa, ea, xb, eb, HOa, HOb, h1⟩ := order_part1 ps a b (by omega)
    obtain ⟨ya, ca, yb, cb, HCa, HCb, h2⟩ := order_part2 ps a b
    clear hlen
    rcases h1 with ⟨e1, _⟩ | ⟨rfl, e1⟩ | ⟨rfl, rfl, s, g, HSa, HSb⟩ <;> rcases h2 with e2 | ⟨rfl, e2⟩ | ⟨rfl, rfl, s', g', HTa, HTb, hab | ⟨hab, rfl⟩⟩
    all_goals
      go_enter Try.func6, Try.ntmps6
      go_wp2_with (first
        | (go_at_call 8; refine (live_any _).mono ?_; rintro e w1 ⟨rfl, hb⟩; replace HR := hide (HR.out.below hb); (try replace H1 := hide (H1.out.below hb)); (try replace H2 := hide (H2.out.below hb)); (try replace H3 := hide (H3.out.below hb)); (try replace H4 := hide (H4.out.below hb)); (try replace H5 := hide (H5.out.below hb)); (try replace H6 := hide (H6.out.below hb)); (try replace H7 := hide (H7.out.below hb)); (try replace H8 := hide (H8.out.below hb)); replace HB := hide (Below.then HB.out hb); clear hb)
        | (go_at_call 9; (with_reducible refine (open_is _ A n c ps a _ _ HOa.out HR.out hn0).mono ?_); rintro e w2 ⟨A1, n1, c1, rfl, ho, _, hn1, hb⟩; replace HR := hide (HR.out.below hb); (try replace H1 := hide (H1.out.below hb)); (try replace H2 := hide (H2.out.below hb)); (try replace H3 := hide (H3.out.below hb)); (try replace H4 := hide (H4.out.below hb)); (try replace H5 := hide (H5.out.below hb)); (try replace H6 := hide (H6.out.below hb)); (try replace H7 := hide (H7.out.below hb)); (try replace H8 := hide (H8.out.below hb)); replace HB := hide (Below.then HB.out hb); clear hb; have H1 := hide ho.reads; clear ho)
        | (go_at_call 9; (with_reducible refine (open_is _ A n c ps b _ _ HOb.out HR.out hn0).mono ?_); rintro e w2 ⟨A2, n2, c2, rfl, ho, _, hn2, hb⟩; replace HR := hide (HR.out.below hb); (try replace H1 := hide (H1.out.below hb)); (try replace H2 := hide (H2.out.below hb)); (try replace H3 := hide (H3.out.below hb)); (try replace H4 := hide (H4.out.below hb)); (try replace H5 := hide (H5.out.below hb)); (try replace H6 := hide (H6.out.below hb)); (try replace H7 := hide (H7.out.below hb)); (try replace H8 := hide (H8.out.below hb)); replace HB := hide (Below.then HB.out hb); clear hb; have H2 := hide ho.reads; clear ho)
        | (go_at_call 9; (with_reducible refine (open_is _ A1 n1 c1 xa b _ _ HSa.out H1.out hn1).mono ?_); rintro e w2 ⟨A3, n3, c3, rfl, ho, _, hn3, hb⟩; replace HR := hide (HR.out.below hb); (try replace H1 := hide (H1.out.below hb)); (try replace H2 := hide (H2.out.below hb)); (try replace H3 := hide (H3.out.below hb)); (try replace H4 := hide (H4.out.below hb)); (try replace H5 := hide (H5.out.below hb)); (try replace H6 := hide (H6.out.below hb)); (try replace H7 := hide (H7.out.below hb)); (try replace H8 := hide (H8.out.below hb)); replace HB := hide (Below.then HB.out hb); clear hb; have H3 := hide ho.reads; clear ho)
        | (go_at_call 9; (with_reducible refine (open_is _ A2 n2 c2 xb a _ _ HSb.out H2.out hn2).mono ?_); rintro e w2 ⟨A4, n4, c4, rfl, ho, _, hn4, hb⟩; replace HR := hide (HR.out.below hb); (try replace H1 := hide (H1.out.below hb)); (try replace H2 := hide (H2.out.below hb)); (try replace H3 := hide (H3.out.below hb)); (try replace H4 := hide (H4.out.below hb)); (try replace H5 := hide (H5.out.below hb)); (try replace H6 := hide (H6.out.below hb)); (try replace H7 := hide (H7.out.below hb)); (try replace H8 := hide (H8.out.below hb)); replace HB := hide (Below.then HB.out hb); clear hb; have H4 := hide ho.reads; clear ho)
        | (go_at_call 13; (with_reducible refine (same_self _ A3 A4 n3 n4 c3 c4 s H3.out H4.out hn3).mono ?_); rintro e w2 ⟨rfl, hb⟩; replace HR := hide (HR.out.below hb); (try replace H1 := hide (H1.out.below hb)); (try replace H2 := hide (H2.out.below hb)); (try replace H3 := hide (H3.out.below hb)); (try replace H4 := hide (H4.out.below hb)); (try replace H5 := hide (H5.out.below hb)); (try replace H6 := hide (H6.out.below hb)); (try replace H7 := hide (H7.out.below hb)); (try replace H8 := hide (H8.out.below hb)); replace HB := hide (Below.then HB.out hb); clear hb)
        | (go_at_call 11; (with_reducible refine (close_is _ A n c ps a _ _ HCa.out HR.out hn0).mono ?_); rintro e w2 ⟨A5, n5, c5, rfl, ho, _, hn5, hb⟩; replace HR := hide (HR.out.below hb); (try replace H1 := hide (H1.out.below hb)); (try replace H2 := hide (H2.out.below hb)); (try replace H3 := hide (H3.out.below hb)); (try replace H4 := hide (H4.out.below hb)); (try replace H5 := hide (H5.out.below hb)); (try replace H6 := hide (H6.out.below hb)); (try replace H7 := hide (H7.out.below hb)); (try replace H8 := hide (H8.out.below hb)); replace HB := hide (Below.then HB.out hb); clear hb; have H5 := hide ho.reads; clear ho)
        | (go_at_call 11; (with_reducible refine (close_is _ A n c ps b _ _ HCb.out HR.out hn0).mono ?_); rintro e w2 ⟨A6, n6, c6, rfl, ho, _, hn6, hb⟩; replace HR := hide (HR.out.below hb); (try replace H1 := hide (H1.out.below hb)); (try replace H2 := hide (H2.out.below hb)); (try replace H3 := hide (H3.out.below hb)); (try replace H4 := hide (H4.out.below hb)); (try replace H5 := hide (H5.out.below hb)); (try replace H6 := hide (H6.out.below hb)); (try replace H7 := hide (H7.out.below hb)); (try replace H8 := hide (H8.out.below hb)); replace HB := hide (Below.then HB.out hb); clear hb; have H6 := hide ho.reads; clear ho)
        | (go_at_call 11; (with_reducible refine (close_is _ A5 n5 c5 ya b _ _ HTa.out H5.out hn5).mono ?_); rintro e w2 ⟨A7, n7, c7, rfl, ho, _, hn7, hb⟩; replace HR := hide (HR.out.below hb); (try replace H1 := hide (H1.out.below hb)); (try replace H2 := hide (H2.out.below hb)); (try replace H3 := hide (H3.out.below hb)); (try replace H4 := hide (H4.out.below hb)); (try replace H5 := hide (H5.out.below hb)); (try replace H6 := hide (H6.out.below hb)); (try replace H7 := hide (H7.out.below hb)); (try replace H8 := hide (H8.out.below hb)); replace HB := hide (Below.then HB.out hb); clear hb; have H7 := hide ho.reads; clear ho)
        | (go_at_call 11; (with_reducible refine (close_is _ A6 n6 c6 yb a _ _ HTb.out H6.out hn6).mono ?_); rintro e w2 ⟨A8, n8, c8, rfl, ho, _, hn8, hb⟩; replace HR := hide (HR.out.below hb); (try replace H1 := hide (H1.out.below hb)); (try replace H2 := hide (H2.out.below hb)); (try replace H3 := hide (H3.out.below hb)); (try replace H4 := hide (H4.out.below hb)); (try replace H5 := hide (H5.out.below hb)); (try replace H6 := hide (H6.out.below hb)); (try replace H7 := hide (H7.out.below hb)); (try replace H8 := hide (H8.out.below hb)); replace HB := hide (Below.then HB.out hb); clear hb; have H8 := hide ho.reads; clear ho)
        | (go_at_call 13; (with_reducible refine (same_self _ A7 A8 n7 n8 c7 c8 s' H7.out H8.out hn7).mono ?_); rintro e w2 ⟨rfl, hb⟩; replace HR := hide (HR.out.below hb); (try replace H1 := hide (H1.out.below hb)); (try replace H2 := hide (H2.out.below hb)); (try replace H3 := hide (H3.out.below hb)); (try replace H4 := hide (H4.out.below hb)); (try replace H5 := hide (H5.out.below hb)); (try replace H6 := hide (H6.out.below hb)); (try replace H7 := hide (H7.out.below hb)); (try replace H8 := hide (H8.out.below hb)); replace HB := hide (Below.then HB.out hb); clear hb))
      go_ret
      exact ⟨rfl, HB.out⟩
  · have t1 : decide ((60 : Int) < (n : Int)) = true := decide_eq_true (by omega)
    go_enter Try.func6, Try.ntmps6
    go_wp2_with (first | (go_at_call 8; refine (live_any _).mono ?_; rintro e w1 ⟨rfl, hb⟩; have HB1 := hide hb; clear hb))
    go_ret
    exact ⟨rfl, HB1.out⟩
end Go.Proofs.Ytbfagfnclgfmhaa
