import Derived.Test.YtbfagfnclgfmhaaMem
import Derived.WalkKit
import Derived.ProofKit
import Derived.WalkLawsBesides
import Derived.BigQuiet
import Derived.StillTailTactics
import Derived.Lib.SliceRun
namespace Go.Proofs.Ytbfagfnclgfmhaa
open Go.RowKit

/-- A fact kept from the walk's own steps. -/
def Hid (p : Prop) : Prop := p
theorem Hid.out {p : Prop} (h : Hid p) : p := h
theorem hide {p : Prop} (h : p) : Hid p := h

abbrev Pin := Nat × Int
def pv (p : Pin) : Value := .agg #[.int .u64 p.1, .int .i64 p.2]
def odd (p : Pin) : Bool := decide (1099511627776 < p.1) || decide (p.2 < 1) || decide (64 < p.2)

theorem isNaN_any (x : Int) (w : World) :
    Calls Try.prog 38 #[.int .u64 x] w fun e w' => e = .returned (.bool false) ∧ w = w' := by
  go_enter Try.func38, Try.ntmps38
  go_wp2
  go_ret
  exact ⟨rfl, rfl⟩
def cmpInt (x y : Int) : Int := if x < y then -1 else if y < x then 1 else 0
theorem ret_i64 {a b : Int} (h : a = b) : Ending.returned (.int .i64 a) = .returned (.int .i64 b) := by rw [h]
theorem cmpInt_lt {x y : Int} (h : x < y) : cmpInt x y = -1 := by unfold cmpInt; rw [if_pos h]
theorem cmpInt_gt {x y : Int} (h : y < x) : cmpInt x y = 1 := by unfold cmpInt; rw [if_neg (by omega), if_pos h]
theorem cmpInt_eq (x : Int) : cmpInt x x = 0 := by unfold cmpInt; rw [if_neg (by omega), if_neg (by omega)]
theorem compare_any (x y : Int) (w : World) :
    Calls Try.prog 28 #[.int .u64 x, .int .u64 y] w fun e w' => e = .returned (.int .i64 (cmpInt x y)) ∧ w = w' := by
  rcases Int.lt_trichotomy x y with h | h | h
  · have e := cmpInt_lt h
    have HE := hide e
    clear e
    go_enter Try.func28, Try.ntmps28
    go_wp2_with (go_at_call 38; refine (isNaN_any _ _).mono ?_; rintro e w' ⟨rfl, rfl⟩)
    go_ret
    exact ⟨ret_i64 HE.out.symm, rfl⟩
  · subst h
    have e := cmpInt_eq x
    have HE := hide e
    clear e
    go_enter Try.func28, Try.ntmps28
    go_wp2_with (go_at_call 38; refine (isNaN_any _ _).mono ?_; rintro e w' ⟨rfl, rfl⟩)
    go_ret
    exact ⟨ret_i64 HE.out.symm, rfl⟩
  · have e := cmpInt_gt h
    have HE := hide e
    clear e
    have hn : decide (x < y) = false := decide_eq_false (by omega)
    go_enter Try.func28, Try.ntmps28
    go_wp2_with (go_at_call 38; refine (isNaN_any _ _).mono ?_; rintro e w' ⟨rfl, rfl⟩)
    go_ret
    exact ⟨ret_i64 HE.out.symm, rfl⟩

theorem ret_bool {a b : Bool} (h : a = b) : Ending.returned (.bool a) = .returned (.bool b) := by rw [h]
theorem below_alloc (w : World) (o : Obj) : Below w.heap.size w (w.alloc o) := (Below.refl _ _).alloc (Nat.le_refl _) _
theorem below_alloc2 (w : World) (o o' : Obj) : Below w.heap.size w ((w.alloc o).alloc o') := ((Below.refl _ _).alloc (Nat.le_refl _) _).alloc (by simp) _

theorem odd_any (p : Pin) (w : World) :
    Calls Try.prog 26 #[pv p] w fun e w' => e = .returned (.bool (odd p)) ∧ Below w.heap.size w w' := by
  obtain ⟨g, n⟩ := p
  unfold pv
  simp only
  go_enter Try.func26, Try.ntmps26
  go_wp2
  · go_ret
    refine ⟨ret_bool ?_, below_alloc _ _⟩
    unfold odd
    rw [show decide (1099511627776 < (g : Int)) = decide (1099511627776 < g) from by simp only [decide_eq_decide]; omega]
  · go_ret
    refine ⟨ret_bool ?_, below_alloc _ _⟩
    unfold odd
    rw [decide_eq_true (by assumption : n < 1)]; simp
  · go_ret
    refine ⟨ret_bool ?_, below_alloc _ _⟩
    unfold odd
    rw [decide_eq_true (by omega : 1099511627776 < g)]; simp

theorem rises_any (p q : Pin) (w : World) :
    Calls Try.prog 27 #[pv p, pv q] w fun e w' => e = .returned (.int .i64 (cmpInt p.1 q.1)) ∧ Below w.heap.size w w' := by
  obtain ⟨g, n⟩ := p
  obtain ⟨h, m⟩ := q
  unfold pv
  simp only
  go_enter Try.func27, Try.ntmps27
  go_wp2_with (go_at_call 28; refine (compare_any _ _ _).mono ?_; rintro e w' ⟨rfl, rfl⟩)
  go_ret
  exact ⟨rfl, below_alloc2 _ _ _⟩

theorem equ_any (p q : Pin) (w : World) :
    Calls Try.prog 29 #[pv p, pv q] w fun e w' => e = .returned (.bool (p.1 == q.1)) ∧ Below w.heap.size w w' := by
  obtain ⟨g, n⟩ := p
  obtain ⟨h, m⟩ := q
  unfold pv
  simp only
  go_enter Try.func29, Try.ntmps29
  go_wp2
  go_ret
  refine ⟨ret_bool ?_, below_alloc2 _ _ _⟩
  rw [Bool.eq_iff_iff]; simp; omega

theorem near_any (p : Pin) (g : Nat) (w : World) :
    Calls Try.prog 35 #[pv p, .int .u64 g] w fun e w' => e = .returned (.int .i64 (cmpInt p.1 g)) ∧ Below w.heap.size w w' := by
  obtain ⟨h, n⟩ := p
  unfold pv
  simp only
  go_enter Try.func35, Try.ntmps35
  go_wp2_with (go_at_call 28; refine (compare_any _ _ _).mono ?_; rintro e w' ⟨rfl, rfl⟩)
  go_ret
  exact ⟨rfl, below_alloc _ _⟩
end Go.Proofs.Ytbfagfnclgfmhaa
