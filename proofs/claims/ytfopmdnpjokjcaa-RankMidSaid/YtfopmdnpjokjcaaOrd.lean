import Derived.Test.YtfopmdnpjokjcaaStab
import Derived.Test.YtfopmdnpjokjcaaMem
import Derived.Lib.SliceRun
namespace Go.Proofs.Ytfopmdnpjokjcaa
open Go.RowKit Plain

theorem fl_info : (Try.prog.info? 26).map (fun i => (i.zero, i.size, i.bytes)) = some (some (.float .f64 0), 1, 8) := by kernel_rfl

/-- A slice that holds these numbers. -/
def FR (w : World) (A : Option Addr) (n : Nat) (xs : List Nat) : Prop := Reads w w.heap.size 1 A n (xs.map fl)
/-- .. in a block of its own, from base on. -/
def Own (base : Nat) (w : World) (A : Option Addr) (n : Nat) (xs : List Nat) : Prop :=
  xs.length = n ∧ (0 < n → ∃ g tail, A = some ⟨g, 0, none⟩ ∧ base ≤ g ∧ w.heap[g]? = some (.cells (xs.map fl ++ tail).toArray 26 (0, 0)))

theorem FR.len {w : World} {A : Option Addr} {n : Nat} {xs : List Nat} (h : FR w A n xs) : xs.length = n := by
  have := h.1; simpa using this
theorem FR.below {w w' : World} {A : Option Addr} {n : Nat} {xs : List Nat} (h : FR w A n xs) (hb : Below w.heap.size w w') : FR w' A n xs := (Reads.below h hb).more hb.size
theorem FR.cell {w : World} {A : Option Addr} {n : Nat} {xs : List Nat} (h : FR w A n xs) (i : Nat) (hi : i < n) : ∃ ad, A = some ad ∧ w.cell? (ad.add i) = some (fl (nth xs i)) := by
  obtain ⟨ad, u, rfl, _, hx, hc⟩ := Reads.at_ h hi
  refine ⟨ad, rfl, hc.trans ?_⟩
  rw [List.getElem?_map] at hx
  have hl := h.len
  rw [List.getElem?_eq_getElem (by omega)] at hx
  rw [nth_lt (by omega)]; exact hx.symm
theorem Own.reads {base : Nat} {w : World} {A : Option Addr} {n : Nat} {xs : List Nat} (h : Own base w A n xs) : FR w A n xs := by
  refine ⟨by simpa using h.1, fun hn => ?_⟩
  obtain ⟨g, tail, rfl, hb, hh⟩ := h.2 hn
  have hl := h.1
  refine ⟨_, rfl, (Array.getElem?_eq_some_iff.1 hh).1, fun j u hu => ?_⟩
  have e : (⟨g, 0, none⟩ : Addr).add j = ⟨g, j, none⟩ := by unfold Addr.add; split <;> simp_all
  rw [e, cell_of_row w g j _ _ _ hh]
  have hj : j < (xs.map fl).length := by
    rcases Nat.lt_or_ge j (xs.map fl).length with h1 | h1
    · exact h1
    · rw [List.getElem?_eq_none h1] at hu; cases hu
  simp only [List.getElem?_toArray]
  rw [List.getElem?_append_left hj]; exact hu
theorem Own.of_row {base : Nat} {w : World} {v : Value} {n : Nat} {xs : List Nat} (h : w.ownsRow base 26 1 v n (xs.map fl)) : ∃ A c, v = .slice A n c ∧ Own base w A n xs := by
  obtain ⟨h1, h2⟩ := h
  have hl : xs.length = n := by simpa using h1
  rcases h2 with ⟨rfl, rfl⟩ | ⟨g, cap, cur, rfl, hg, hh, _, _, _, ht⟩
  · exact ⟨none, 0, rfl, hl, fun h => by omega⟩
  · refine ⟨_, cap, rfl, hl, fun _ => ⟨g, cur.toList.drop (n * 1), rfl, hg, ?_⟩⟩
    rw [← ht, List.take_append_drop]; exact hh
theorem Own.below {base : Nat} {w w' : World} {A : Option Addr} {n : Nat} {xs : List Nat} (h : Own base w A n xs) (hb : Below w.heap.size w w') : Own base w' A n xs :=
  ⟨h.1, fun hn => by
    obtain ⟨g, tail, hA, hg, hh⟩ := h.2 hn
    exact ⟨g, tail, hA, hg, (hb.block g (Array.getElem?_eq_some_iff.1 hh).1).trans hh⟩⟩
theorem one_fl (xs : List Nat) : ∀ u ∈ xs.map fl, u.oneCell' = true := by
  intro u hu
  obtain ⟨x, _, rfl⟩ := List.mem_map.1 hu
  rfl

def ClonePost (w : World) (n : Nat) (xs : List Nat) (e : Ending) (w' : World) : Prop := ∃ A c, e = .returned (.slice A n c) ∧ Below w.heap.size w w' ∧ Own w.heap.size w' A n xs

theorem clone_any (w : World) (A : Option Addr) (n c : Nat) (xs : List Nat) (hr : FR w A n xs) (hn : n ≤ 1000) :
    Calls Try.prog 29 #[.slice A n c] w (ClonePost w n xs) := by
  obtain ⟨i0, hi0, hz0, hz1, hz2⟩ := info_parts fl_info
  have h1 := one_fl xs
  have HR := hide hr
  have H1 := hide h1
  clear hr h1
  cases A with
  | none =>
    have hnil := fun w => Lib.run_eql_slice_nil (P := Try.prog) w 22 26 none n c 0 0 Try.underlying22
    have h0 : n = 0 := by
      rcases Nat.eq_zero_or_pos n with h | h
      · exact h
      · obtain ⟨ad, h, _⟩ := HR.out.cell 0 h; cases h
    subst h0
    go_enter Try.func29, Try.ntmps29
    go_wp2_with fail
    go_ret
    exact ⟨none, 0, rfl, Below.refl _ _, HR.out.len, fun h => by omega⟩
  | some ad =>
    have hnil := fun w => Lib.run_eql_slice_nil (P := Try.prog) w 22 26 (some ad) n c 0 0 Try.underlying22
    have o0 : (w.alloc (.cells #[] 26)).ownsRow w.heap.size 26 1 (.slice (some ⟨w.heap.size, 0, none⟩) 0 0) 0 [] := ⟨by simp, .inr ⟨w.heap.size, 0, #[], rfl, Nat.le_refl _, heap_alloc_new w _, by omega, by simp [maxLen], rfl, rfl⟩⟩
    have O0 := hide o0
    clear o0
    have R0 : Hid (Reads (w.alloc (.cells #[] 26)) w.heap.size 1 (some ad) n (xs.map fl)) := Reads.alloc HR.out (Nat.le_refl _) _
    go_enter Try.func29, Try.ntmps29
    go_wp2_with (at_builtin; refine wpList_append_any _ rfl (.tmp 5) (.tmp 6) _ rfl w.heap.size 26 i0 _ 1 8 Try.underlying22 hi0 hz0 hz1 hz2 rfl (by omega) (.slice (some ⟨w.heap.size, 0, none⟩) 0 0) 0 [] rfl O0.out w.heap.size (some ad) n c (xs.map fl) rfl R0.out H1.out (by simp only [maxLen]; omega) (by omega) (by simp) ?_; intro v1 w1 hown1 hg1 hat1)
    go_ret
    simp only [Nat.zero_add, List.nil_append] at hown1
    obtain ⟨A', c', rfl, ho⟩ := Own.of_row hown1
    refine ⟨A', c', rfl, ?_, ho⟩
    exact ((Below.refl _ _).alloc (Nat.le_refl _) _).grown hg1 (by simp) (fun k hk => by simp [Value.ownBlock] at hk; omega)
end Go.Proofs.Ytfopmdnpjokjcaa
