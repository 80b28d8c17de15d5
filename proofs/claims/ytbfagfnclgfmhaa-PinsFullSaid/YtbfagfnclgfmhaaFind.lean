import Derived.Test.YtbfagfnclgfmhaaBs
namespace Go.Proofs.Ytbfagfnclgfmhaa
open Go.RowKit

/-- A list of pins, and a generation that may be. -/
def okk (ps : List Pin) (g : Nat) : Bool := good ps && decide (g ≤ 1099511627776)
theorem good_risen {ps : List Pin} (h : good ps = true) : risen ps = true := by
  unfold good at h; simp only [Bool.and_eq_true] at h; exact h.1.2
theorem good_len {ps : List Pin} (h : good ps = true) : ps.length ≤ 64 := by
  unfold good at h; simp only [Bool.and_eq_true, decide_eq_true_eq] at h; exact h.1.1.1

def FindPost (w : World) (ps : List Pin) (g : Nat) (e : Ending) (w' : World) : Prop :=
  (∃ (i : Nat) (t : Bool) (c : Int), e = .returned (.tuple #[.int .i64 i, .bool t, .int .i64 c]) ∧ (okk ps g = true → c = 0 ∧ t = there ps g i ∧ At ps g i) ∧ (okk ps g = false → c = 1 ∧ t = false)) ∧ Below w.heap.size w w'

theorem find_any (w : World) (A : Option Addr) (n c : Nat) (ps : List Pin) (gen : Nat) (hr : PR w A n ps) (hn : n ≤ 1000) :
    Calls Try.prog 21 #[.slice A n c, .int .u64 gen] w (FindPost w ps gen) := by
  have HR := hide hr
  clear hr
  cases hg : good ps with
  | false =>
    have HK : Hid (okk ps gen = false) := by show okk ps gen = false; unfold okk; rw [hg]; rfl
    have hc : chk ps = 1 := by unfold chk; rw [hg]; rfl
    have HC := hide hc
    clear hc hg
    go_enter Try.func21, Try.ntmps21
    go_wp2_with (go_at_call 14; refine (check_any _ _ _ _ ps HR.out hn).mono ?_; rintro e w' ⟨rfl, hb⟩; have HB := hide hb; clear hb; rw [HC.out])
    go_ret3
    exact ⟨⟨0, false, 1, rfl, (fun h => by rw [HK.out] at h; cases h), fun _ => ⟨rfl, rfl⟩⟩, HB.out⟩
  | true =>
    have hc : chk ps = 0 := by unfold chk; rw [hg]; rfl
    have HC := hide hc
    have HS := hide (good_risen hg)
    by_cases hq : gen ≤ 1099511627776
    · have HK : Hid (okk ps gen = true) := by show okk ps gen = true; unfold okk; rw [hg, decide_eq_true hq]; rfl
      have hd : decide ((1099511627776 : Int) < (gen : Int)) = false := decide_eq_false (by omega)
      clear hc hg hq
      go_enter Try.func21, Try.ntmps21
      go_wp2_with (first | (go_at_call 14; refine (check_any _ _ _ _ ps HR.out hn).mono ?_; rintro e w' ⟨rfl, hb⟩; have HB := hide hb; clear hb; rw [HC.out]) | (go_at_call 34; refine (bs_any _ _ _ _ ps gen (HR.out.below HB.out) HS.out hn).mono ?_; rintro e w2 ⟨i, rfl, hat, hb⟩; have HB2 := hide hb; have HA := hide hat; clear hb hat))
      go_ret3
      exact ⟨⟨i, _, 0, rfl, fun _ => ⟨rfl, rfl, HA.out⟩, fun h => by rw [HK.out] at h; cases h⟩, HB.out.trans (HB2.out.mono HB.out.size)⟩
    · have HK : Hid (okk ps gen = false) := by show okk ps gen = false; unfold okk; rw [decide_eq_false hq]; simp
      have hd : decide ((1099511627776 : Int) < (gen : Int)) = true := decide_eq_true (by omega)
      clear hc hg hq
      go_enter Try.func21, Try.ntmps21
      go_wp2_with (go_at_call 14; refine (check_any _ _ _ _ ps HR.out hn).mono ?_; rintro e w' ⟨rfl, hb⟩; have HB := hide hb; clear hb; rw [HC.out])
      go_ret3
      exact ⟨⟨0, false, 1, rfl, (fun h => by rw [HK.out] at h; cases h), fun _ => ⟨rfl, rfl⟩⟩, HB.out⟩
end Go.Proofs.Ytbfagfnclgfmhaa
