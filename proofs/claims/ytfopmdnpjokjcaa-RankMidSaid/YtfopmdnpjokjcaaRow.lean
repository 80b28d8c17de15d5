import Derived.Test.YtfopmdnpjokjcaaMid2
import Derived.Laws.OwnMore
namespace Go.Proofs.Ytfopmdnpjokjcaa
open Go.RowKit Plain

/-! ## The plain side: what stands where in a list -/
def nth (xs : List Nat) (i : Nat) : Nat := xs.getD i 0
def swp (xs : List Nat) (i j : Nat) : List Nat := (xs.set i (nth xs j)).set j (nth xs i)
theorem swp_length (xs : List Nat) (i j : Nat) : (swp xs i j).length = xs.length := by simp [swp]
theorem nth_lt {xs : List Nat} {i : Nat} (h : i < xs.length) : nth xs i = xs[i] := by simp [nth, h]
theorem nth_set (xs : List Nat) (i k v : Nat) (hi : i < xs.length) : nth (xs.set i v) k = if k = i then v else nth xs k := by
  unfold nth
  by_cases h : k = i
  · subst h; rw [if_pos rfl, List.getD_eq_getElem?_getD, List.getElem?_set_self hi]; rfl
  · rw [if_neg h, List.getD_eq_getElem?_getD, List.getElem?_set_ne (fun e => h e.symm), ← List.getD_eq_getElem?_getD]
theorem nth_swp (xs : List Nat) (i j k : Nat) (hi : i < xs.length) (hj : j < xs.length) : nth (swp xs i j) k = if k = j then nth xs i else if k = i then nth xs j else nth xs k := by
  unfold swp
  rw [nth_set _ _ _ _ (by simpa using hj), nth_set _ _ _ _ hi]
theorem perm_swp (xs : List Nat) (i j : Nat) (hi : i < xs.length) (hj : j < xs.length) : (swp xs i j).Perm xs := by
  unfold swp
  rw [nth_lt hi, nth_lt hj]
  exact List.set_set_perm hi hj

/-! ## The row that is sorted -/
def fl (x : Nat) : Value := .float .f64 x
/-- Block g holds these numbers, ahead of whatever is spare; of what was there at w0 nothing else has turned. -/
def SRow (w0 w : World) (g : Nat) (xs : List Nat) : Prop :=
  (∃ tail : List Value, w.heap[g]? = some (.cells (xs.map fl ++ tail).toArray 26 (0, 0))) ∧ w0.grownBy w (some g)

theorem SRow.drew {w0 w : World} {g : Nat} {xs : List Nat} (h : SRow w0 w g xs) : SRow w0 w.drew g xs := ⟨h.1, ⟨h.2.os, h.2.tape, h.2.output, h.2.size, h.2.block⟩⟩
theorem SRow.drewN {w0 w : World} {g : Nat} {xs : List Nat} (h : SRow w0 w g xs) (n : Nat) : SRow w0 (w.drewN n) g xs := ⟨h.1, ⟨h.2.os, h.2.tape, h.2.output, h.2.size, h.2.block⟩⟩
theorem SRow.cell {w0 w : World} {g : Nat} {xs : List Nat} (h : SRow w0 w g xs) (i : Nat) (hi : i < xs.length) : w.cell? ⟨g, i, none⟩ = some (fl (nth xs i)) := by
  obtain ⟨⟨tail, hh⟩, _⟩ := h
  rw [cell_of_row w g i _ _ _ hh]
  simp [List.getElem?_append, hi, nth]
theorem SRow.frozen {w0 w : World} {g : Nat} {xs : List Nat} (h : SRow w0 w g xs) (i : Nat) : w.frozen? ⟨g, i, none⟩ = false := by
  obtain ⟨⟨tail, hh⟩, _⟩ := h
  simp [World.frozen?, hh]
theorem SRow.set_ {w0 w : World} {g : Nat} {xs : List Nat} (h : SRow w0 w g xs) (i x : Nat) (hi : i < xs.length) : SRow w0 (w.setCell ⟨g, i, none⟩ (fl x)) g (xs.set i x) := by
  obtain ⟨⟨tail, hh⟩, hg⟩ := h
  refine ⟨⟨tail, ?_⟩, ?_⟩
  · simp only [World.setCell, Array.getElem?_modify, hh, if_true, Option.map_some]
    simp [List.set_append, hi]
  · exact ⟨hg.os, hg.tape, hg.output, by simpa [World.setCell] using hg.size, fun k hk hne => (Below.heap_setCell w _ _ k (fun e => hne (by rw [e]))).trans (hg.block k hk hne)⟩
theorem SRow.swp_ {w0 w : World} {g : Nat} {xs : List Nat} (h : SRow w0 w g xs) (i j : Nat) (hi : i < xs.length) (hj : j < xs.length) :
    SRow w0 ((w.setCell ⟨g, i, none⟩ (fl (nth xs j))).setCell ⟨g, j, none⟩ (fl (nth xs i))) g (swp xs i j) :=
  (h.set_ i (nth xs j) hi).set_ j (nth xs i) (by simpa using hj)
end Go.Proofs.Ytfopmdnpjokjcaa
