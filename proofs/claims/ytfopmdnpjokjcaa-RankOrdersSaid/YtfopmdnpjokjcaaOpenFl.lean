import Derived.Test.YtfopmdnpjokjcaaWOrders
import Derived.Deep.Slices
import Derived.Laws.Cover2
namespace Go.Proofs.Ytfopmdnpjokjcaa
open Go.RowKit Go.ChangeShapes Go.WideShapes Go.Deep Plain

theorem trod_fl {H : Type} {enc : TypeId × Value → H} {w : World} {base : Nat} {spare : Nat → Bool} {held : Bool} {n : Nat} {v : Value} {y : DataW H × List MemPlace}
    (h : DataW.trod enc Try.prog w base spare held n 26 [v] = some y) : ∃ b, v = fl b ∧ b < 18446744073709551616 := by
  cases n with
  | zero => simp [DataW.trod] at h
  | succ n =>
    simp only [DataW.trod, Try.underlying26] at h
    cases v with
    | float k b =>
      cases k with
      | f64 =>
        by_cases hw : (Lit.float .f64 b).wf = true
        · exact ⟨b, rfl, by simpa [Lit.wf] using hw⟩
        · simp [hw] at h
      | f32 => simp at h
    | _ => simp at h

/-- A slice of numbers that came in, opened. -/
theorem open_fl {H : Type} {enc : TypeId × Value → H} {w : World} {base : Nat} {spare : Nat → Bool} {held : Bool} {A : Option Addr} {n c : Nat} {d : DataW H} {ps : List MemPlace}
    (hd : DataW.Trod enc Try.prog w base spare held 22 (.slice A n c) d ps) : ∃ xs, FR w A n xs ∧ Words xs := by
  obtain ⟨fuel, hf⟩ := hd
  rcases open_slice1 Try.underlying22 (by kernel_rfl) hf with ⟨hcs, _⟩ | ⟨a, len, cap, m, k, V, D, Pl, hcs, _, hl, hm, hmm, _, hc⟩
  · simp [Value.cells] at hcs
    obtain ⟨rfl, rfl, rfl⟩ := hcs
    exact ⟨[], ⟨rfl, fun h => by omega⟩, fun x hx => by simp at hx⟩
  · simp [Value.cells] at hcs
    obtain ⟨rfl, rfl, rfl⟩ := hcs
    have hmn : n ≤ m := by rw [hmm]; split <;> omega
    obtain ⟨B, hB⟩ := choose_lt (α := Nat) (n := n) (p := fun i b => V i = fl b ∧ b < 18446744073709551616) (fun i hi => trod_fl (hc i (by omega)).2)
    refine ⟨(List.range n).map B, ⟨by simp, fun h0 => ⟨a, rfl, ?_, fun j u hu => ?_⟩⟩, fun x hx => ?_⟩
    · exact World.block_lt_of_cell? w a (by have := (hc 0 (by omega)).1; simpa [Addr.add] using this)
    · have hj : j < n := by
        rcases Nat.lt_or_ge j n with h1 | h1
        · exact h1
        · rw [List.getElem?_eq_none (by simp; omega)] at hu; cases hu
      rw [List.map_map, List.getElem?_map, List.getElem?_range hj] at hu
      simp only [Option.map_some, Function.comp] at hu
      rw [(hc j (by omega)).1, (hB j hj).1]; exact hu
    · obtain ⟨i, hi, rfl⟩ := List.mem_map.1 hx
      exact (hB i (List.mem_range.1 hi)).2
end Go.Proofs.Ytfopmdnpjokjcaa
