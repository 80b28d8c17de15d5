import Derived.Test.YtbfagfnclgfmhaaRopn
import Derived.Test.YtbfagfnclgfmhaaPlc
import Derived.Test.YtbfagfnclgfmhaaEql
namespace Go.Proofs.Ytbfagfnclgfmhaa
set_option linter.unusedVariables false
open Go.RowKit

/-- A slice of one's own that holds these pins. -/
def IsPost (w : World) (qs : List Pin) (x : Int) (e : Ending) (w' : World) : Prop :=
  ∃ (A' : Option Addr) (n' c' : Nat), e = .returned (.tuple #[.slice A' n' c', .int .i64 x]) ∧ Own w.heap.size w' A' n' c' qs ∧ qs.length = n' ∧ n' ≤ 1000 ∧ Below w.heap.size w w'
theorem is_post {w : World} {qs : List Pin} {x : Int} {r : List Pin × Int} (h : r = (qs, x)) (hl : qs.length ≤ 1000) (e : Ending) (w' : World) (hp : OpenPost w r e w') : IsPost w qs x e w' := by
  obtain ⟨A', n', c', he, ho, hb⟩ := hp
  subst h
  have hl' : qs.length = n' := ho.reads.len
  exact ⟨A', n', c', he, ho, hl', by omega, hb⟩

theorem open_is (w : World) (A : Option Addr) (n c : Nat) (ps : List Pin) (gen : Nat) (qs : List Pin) (x : Int) (h : openS ps gen = (qs, x)) (hr : PR w A n ps) (hn : n ≤ 1000) :
    Calls Try.prog 9 #[.slice A n c, .int .u64 gen] w (IsPost w qs x) :=
  (open_any w A n c ps gen hr hn).mono (is_post h (by have := openS_len ps gen; rw [h] at this; exact this))
theorem close_is (w : World) (A : Option Addr) (n c : Nat) (ps : List Pin) (gen : Nat) (qs : List Pin) (x : Int) (h : closeS ps gen = (qs, x)) (hr : PR w A n ps) (hn : n ≤ 1000) :
    Calls Try.prog 11 #[.slice A n c, .int .u64 gen] w (IsPost w qs x) :=
  (close_any w A n c ps gen hr hn).mono (is_post h (by have := closeS_len ps gen; rw [h] at this; exact this))
theorem ropen_is (w : World) (A : Option Addr) (n c : Nat) (ps : List Pin) (gen : Nat) (qs : List Pin) (x : Int) (h : openS ps gen = (qs, x)) (hr : PR w A n ps) (hn : n ≤ 1000) :
    Calls Try.prog 15 #[.slice A n c, .int .u64 gen] w (IsPost w qs x) :=
  (ropen_any w A n c ps gen hr hn).mono (is_post h (by have := openS_len ps gen; rw [h] at this; exact this))
theorem rclose_is (w : World) (A : Option Addr) (n c : Nat) (ps : List Pin) (gen : Nat) (qs : List Pin) (x : Int) (h : closeS ps gen = (qs, x)) (hr : PR w A n ps) (hn : n ≤ 1000) :
    Calls Try.prog 16 #[.slice A n c, .int .u64 gen] w (IsPost w qs x) :=
  (rclose_any w A n c ps gen hr hn).mono (is_post h (by have := closeS_len ps gen; rw [h] at this; exact this))
theorem many_is (w : World) (A : Option Addr) (n c : Nat) (ps : List Pin) (gen : Nat) (m x : Int) (h : manyS ps gen = (m, x)) (hr : PR w A n ps) (hn : n ≤ 1000) :
    Calls Try.prog 10 #[.slice A n c, .int .u64 gen] w fun e w' => e = .returned (.tuple #[.int .i64 m, .int .i64 x]) ∧ Below w.heap.size w w' :=
  (many_any w A n c ps gen hr hn).mono fun _ _ hh => by rw [h] at hh; exact hh

theorem pr_nil (w : World) : PR w none 0 [] := Reads.none_

theorem open_none (w : World) : Calls Try.prog 9 #[.slice none 0 0, .int .u64 5] w (IsPost w [(5, 1)] 0) := open_is w none 0 0 [] 5 _ _ fine_one (pr_nil w) (by omega)
theorem open_five (w : World) (A : Option Addr) (n c : Nat) (hr : PR w A n [(5, 1)]) (hn : n ≤ 1000) : Calls Try.prog 9 #[.slice A n c, .int .u64 5] w (IsPost w [(5, 2)] 0) := open_is w A n c _ 5 _ _ fine_two hr hn
theorem close_five (w : World) (A : Option Addr) (n c : Nat) (hr : PR w A n [(5, 2)]) (hn : n ≤ 1000) : Calls Try.prog 11 #[.slice A n c, .int .u64 5] w (IsPost w [(5, 1)] 0) := close_is w A n c _ 5 _ _ fine_three hr hn
theorem many_five (w : World) (A : Option Addr) (n c : Nat) (hr : PR w A n [(5, 1)]) (hn : n ≤ 1000) : Calls Try.prog 10 #[.slice A n c, .int .u64 5] w fun e w' => e = .returned (.tuple #[.int .i64 1, .int .i64 0]) ∧ Below w.heap.size w w' := many_is w A n c _ 5 _ _ fine_four hr hn

theorem live_any (w : World) : Calls Try.prog 8 #[] w fun e w' => e = .returned (.bool true) ∧ Below w.heap.size w w' := by
  go_enter Try.func8, Try.ntmps8
  go_wp2_with (first | (go_at_call 9; (with_reducible refine (open_none _).mono ?_); rintro e w1 ⟨A1, n1, c1, rfl, ho, hl, hn, hb⟩; have HO1 := hide ho; have HB1 := hide hb; have hn1 : n1 ≤ 1000 := hn; clear ho hl hb hn) | (go_at_call 9; (with_reducible refine (open_five _ A1 n1 c1 HO1.out.reads hn1).mono ?_); rintro e w2 ⟨A2, n2, c2, rfl, ho, hl, hn, hb⟩; have HO2 := hide ho; have HB2 := hide hb; have hn2 : n2 ≤ 1000 := hn; clear ho hl hb hn) | (go_at_call 11; (with_reducible refine (close_five _ A2 n2 c2 HO2.out.reads hn2).mono ?_); rintro e w3 ⟨A3, n3, c3, rfl, ho, hl, hn, hb⟩; have HO3 := hide ho; have HB3 := hide hb; have hn3 : n3 ≤ 1000 := hn; clear ho hl hb hn) | (go_at_call 10; (with_reducible refine (many_five _ A3 n3 c3 HO3.out.reads hn3).mono ?_); rintro e w4 ⟨rfl, hb⟩; have HB4 := hide hb; clear hb))
  go_ret
  refine ⟨rfl, ?_⟩
  have b1 := HB1.out
  have b2 := b1.trans (HB2.out.mono b1.size)
  have b3 := b2.trans (HB3.out.mono b2.size)
  exact b3.trans (HB4.out.mono b3.size)
end Go.Proofs.Ytbfagfnclgfmhaa
