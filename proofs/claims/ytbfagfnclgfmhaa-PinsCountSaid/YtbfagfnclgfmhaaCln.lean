import Derived.Test.YtbfagfnclgfmhaaLst
namespace Go.Proofs.Ytbfagfnclgfmhaa
open Go.RowKit

theorem pin_info : (Try.prog.info? 41).map (fun i => (i.zero, i.size, i.bytes)) = some (some (.agg #[.int .u64 0, .int .i64 0]), 2, 16) := by kernel_rfl

/-- .. in a block of its own, from base on, room for c. -/
def Own (base : Nat) (w : World) (A : Option Addr) (n c : Nat) (ps : List Pin) : Prop :=
  w.ownsRow base 41 2 (.slice A n c) n (pcs ps)

theorem Own.reads {base : Nat} {w : World} {A : Option Addr} {n c : Nat} {ps : List Pin} (h : Own base w A n c ps) : PR w A n ps := Reads.of_own h
theorem Own.below {base : Nat} {w w' : World} {A : Option Addr} {n c : Nat} {ps : List Pin} (h : Own base w A n c ps) (hb : Below w.heap.size w w') : Own base w' A n c ps := by
  refine ⟨h.1, ?_⟩
  rcases h.2 with h0 | ⟨g, cap, cur, e, hg, hh, h3⟩
  · exact .inl h0
  · exact .inr ⟨g, cap, cur, e, hg, (hb.block g (Array.getElem?_eq_some_iff.1 hh).1).trans hh, h3⟩

def ClonePost (w : World) (n : Nat) (ps : List Pin) (e : Ending) (w' : World) : Prop := ∃ A c, e = .returned (.slice A n c) ∧ Below w.heap.size w w' ∧ Own w.heap.size w' A n c ps

theorem clone_any (w : World) (A : Option Addr) (n c : Nat) (ps : List Pin) (hr : PR w A n ps) (hn : n ≤ 1000) :
    Calls Try.prog 22 #[.slice A n c] w (ClonePost w n ps) := by
  obtain ⟨i0, hi0, hz0, hz1, hz2⟩ := info_parts pin_info
  have h1 := one_pin ps
  have HR := hide hr
  have H1 := hide h1
  clear hr h1
  cases A with
  | none =>
    have hnil := fun w => Lib.run_eql_slice_nil (P := Try.prog) w 24 41 none n c 0 0 Try.underlying24
    have h0 : n = 0 := by
      rcases Nat.eq_zero_or_pos n with h | h
      · exact h
      · obtain ⟨ad, h, _⟩ := HR.out.cell 0 h; cases h
    subst h0
    go_enter Try.func22, Try.ntmps22
    go_wp2_with fail
    go_ret
    have hp := HR.out.len
    rw [List.length_eq_zero_iff.1 hp]
    exact ⟨none, 0, rfl, Below.refl _ _, by simp [pcs], .inl ⟨rfl, rfl⟩⟩
  | some ad =>
    have hnil := fun w => Lib.run_eql_slice_nil (P := Try.prog) w 24 41 (some ad) n c 0 0 Try.underlying24
    have o0 : (w.alloc (.cells #[] 41)).ownsRow w.heap.size 41 2 (.slice (some ⟨w.heap.size, 0, none⟩) 0 0) 0 [] := ⟨by simp, .inr ⟨w.heap.size, 0, #[], rfl, Nat.le_refl _, heap_alloc_new w _, by omega, by simp [maxLen], rfl, rfl⟩⟩
    have O0 := hide o0
    clear o0
    have R0 : Hid (Reads (w.alloc (.cells #[] 41)) w.heap.size 2 (some ad) n (pcs ps)) := Reads.alloc HR.out (Nat.le_refl _) _
    go_enter Try.func22, Try.ntmps22
    go_wp2_with (at_builtin; refine wpList_append_any _ rfl (.tmp 5) (.tmp 6) _ rfl w.heap.size 41 i0 _ 2 16 Try.underlying24 hi0 hz0 hz1 hz2 rfl (by omega) (.slice (some ⟨w.heap.size, 0, none⟩) 0 0) 0 [] rfl O0.out w.heap.size (some ad) n c (pcs ps) rfl R0.out H1.out (by simp only [maxLen]; omega) (by omega) (by simp) ?_; intro v1 w1 hown1 hg1 hat1)
    go_ret
    simp only [Nat.zero_add, List.nil_append] at hown1
    obtain ⟨A', c', rfl⟩ : ∃ A' c', v1 = .slice A' n c' := by
      rcases hown1.2 with ⟨rfl, rfl⟩ | ⟨g, cap, cur, rfl, _⟩
      · exact ⟨_, _, rfl⟩
      · exact ⟨_, _, rfl⟩
    refine ⟨A', c', rfl, ?_, hown1⟩
    exact ((Below.refl _ _).alloc (Nat.le_refl _) _).grown hg1 (by simp) (fun k hk => by simp [Value.ownBlock] at hk; omega)
end Go.Proofs.Ytbfagfnclgfmhaa
