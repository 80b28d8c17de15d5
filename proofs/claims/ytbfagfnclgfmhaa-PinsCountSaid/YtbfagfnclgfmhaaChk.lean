import Derived.Test.YtbfagfnclgfmhaaCpt
namespace Go.Proofs.Ytbfagfnclgfmhaa
open Go.RowKit

/-- What is a list of pins. -/
def good (ps : List Pin) : Bool := decide (ps.length ≤ 64) && !ps.any odd && risen ps && !twins ps
def chk (ps : List Pin) : Int := if good ps then 0 else 1

theorem check_any (w : World) (A : Option Addr) (n c : Nat) (ps : List Pin) (hr : PR w A n ps) (hn : n ≤ 1000) :
    Calls Try.prog 14 #[.slice A n c] w fun e w' => e = .returned (.int .i64 (chk ps)) ∧ Below w.heap.size w w' := by
  have HR := hide hr
  have hl := hr.len
  clear hr
  by_cases h1 : n ≤ 64
  · have t1 : decide ((64 : Int) < (n : Int)) = false := decide_eq_false (by omega)
    cases h2 : ps.any odd with
    | true =>
      have HG : Hid (chk ps = 1) := by show chk ps = 1; unfold chk good; rw [h2]; simp
      go_enter Try.func14, Try.ntmps14
      go_wp2_with (first | (go_at_call 30; refine (contains_any _ _ _ _ ps HR.out hn).mono ?_; rintro e w1 ⟨rfl, hb⟩; have HB1 := hide hb; clear hb; rw [h2]))
      go_ret
      exact ⟨by rw [HG.out]; rfl, HB1.out⟩
    | false =>
      cases h3 : risen ps with
      | false =>
        have HG : Hid (chk ps = 1) := by show chk ps = 1; unfold chk good; rw [h3]; simp
        go_enter Try.func14, Try.ntmps14
        go_wp2_with (first | (go_at_call 30; refine (contains_any _ _ _ _ ps HR.out hn).mono ?_; rintro e w1 ⟨rfl, hb⟩; have HB1 := hide hb; clear hb; rw [h2]) | (go_at_call 31; refine (sorted_any _ _ _ _ ps (HR.out.below HB1.out) hn).mono ?_; rintro e w2 ⟨rfl, hb⟩; have HB2 := hide hb; clear hb; rw [h3]))
        go_ret
        exact ⟨by rw [HG.out]; rfl, HB1.out.trans (HB2.out.mono HB1.out.size)⟩
      | true =>
        cases h4 : twins ps with
        | true =>
          have HG : Hid (chk ps = 1) := by show chk ps = 1; unfold chk good; rw [h4]; simp
          go_enter Try.func14, Try.ntmps14
          go_wp2_with (first | (go_at_call 30; refine (contains_any _ _ _ _ ps HR.out hn).mono ?_; rintro e w1 ⟨rfl, hb⟩; have HB1 := hide hb; clear hb; rw [h2]) | (go_at_call 31; refine (sorted_any _ _ _ _ ps (HR.out.below HB1.out) hn).mono ?_; rintro e w2 ⟨rfl, hb⟩; have HB2 := hide (HB1.out.trans (hb.mono HB1.out.size)); clear hb; rw [h3]) | (go_at_call 22; refine (clone_any _ _ _ _ ps (HR.out.below HB2.out) hn).mono ?_; rintro e w3 ⟨A3, c3, rfl, hb, ho⟩; have HB3 := hide (HB2.out.trans (hb.mono HB2.out.size)); have HO := hide ho; have HS := hide hb.size; clear hb ho) | (go_at_call 32; refine (compact_any _ _ _ _ _ ps HO.out HS.out hn).mono ?_; rintro e w4 ⟨A4, L, c4, rfl, hd, hb⟩; have HB4 := hide (HB3.out.trans (hb.mono HB2.out.size)); clear hb; rw [h4, show decide ((L : Int) < (n : Int)) = decide (L < n) from by simp] at hd))
          go_ret
          exact ⟨by rw [HG.out]; rfl, HB4.out⟩
        | false =>
          have HG : Hid (chk ps = 0) := by show chk ps = 0; unfold chk good; rw [h2, h3, h4, decide_eq_true (by omega : ps.length ≤ 64)]; rfl
          go_enter Try.func14, Try.ntmps14
          go_wp2_with (first | (go_at_call 30; refine (contains_any _ _ _ _ ps HR.out hn).mono ?_; rintro e w1 ⟨rfl, hb⟩; have HB1 := hide hb; clear hb; rw [h2]) | (go_at_call 31; refine (sorted_any _ _ _ _ ps (HR.out.below HB1.out) hn).mono ?_; rintro e w2 ⟨rfl, hb⟩; have HB2 := hide (HB1.out.trans (hb.mono HB1.out.size)); clear hb; rw [h3]) | (go_at_call 22; refine (clone_any _ _ _ _ ps (HR.out.below HB2.out) hn).mono ?_; rintro e w3 ⟨A3, c3, rfl, hb, ho⟩; have HB3 := hide (HB2.out.trans (hb.mono HB2.out.size)); have HO := hide ho; have HS := hide hb.size; clear hb ho) | (go_at_call 32; refine (compact_any _ _ _ _ _ ps HO.out HS.out hn).mono ?_; rintro e w4 ⟨A4, L, c4, rfl, hd, hb⟩; have HB4 := hide (HB3.out.trans (hb.mono HB2.out.size)); clear hb; rw [h4, show decide ((L : Int) < (n : Int)) = decide (L < n) from by simp] at hd))
          go_ret
          exact ⟨by rw [HG.out]; rfl, HB4.out⟩
  · have t1 : decide ((64 : Int) < (n : Int)) = true := decide_eq_true (by omega)
    have HG : Hid (chk ps = 1) := by show chk ps = 1; unfold chk good; rw [decide_eq_false (by omega : ¬ ps.length ≤ 64)]; rfl
    go_enter Try.func14, Try.ntmps14
    go_wp2_with fail
    go_ret
    exact ⟨by rw [HG.out]; rfl, Below.refl _ _⟩
end Go.Proofs.Ytbfagfnclgfmhaa
