import Derived.Test.YtbfagfnclgfmhaaWBack
import Derived.Test.YtbfagfnclgfmhaaPlm
import Derived.Maps.OwnOps
import Derived.Maps.Views
import Derived.Deep.Slices
import Derived.OpenShut
namespace Go.Proofs.Ytbfagfnclgfmhaa
set_option linter.unusedVariables false
open Go.RowKit Go.Maps

theorem key22 : Keyed Try.prog 22 := int_keyed Try.underlying22
theorem zero3 (w : World) : (zeroValue 3).run Try.prog w = .ok (.int .i64 0) w := by kernel_rfl

/-- The call's own map: how often each generation below 8 is pinned. -/
def MP (w : World) (B : Nat) (ls : List Pin) (k : Nat) : Prop :=
  ∃ D : DataW Unit, w.ownsMap Try.prog 22 (plainElem Try.prog 3) B k D ∧ IsMap D ∧ ∀ g : Nat, g < 8 → D.atKey (.int .u64 g) (.lit (.int .i64 0)) = .lit (.int .i64 (cnt ls g))
section
variable {w w' : World} {B k g : Nat} {ls qs : List Pin} {q : Int}
theorem MP.made (w : World) : MP (w.alloc (.map #[] 0)) w.heap.size [] 0 :=
  ⟨.map [], World.ownsMap_made _ _ _ _, isMap_empty, fun _ _ => rfl⟩
theorem MP.lt (h : MP w B ls k) : B < w.heap.size := by obtain ⟨D, h, _⟩ := h; exact h.lt
theorem MP.below (h : MP w B ls k) (hb : Below w.heap.size w w') : MP w' B ls k := by
  have hl := h.lt
  obtain ⟨D, ⟨es, clock, hh, F, hs, hD⟩, h2⟩ := h
  exact ⟨D, ⟨es, clock, (hb.block B hl).trans hh, F, hs, hD⟩, h2⟩
theorem MP.mono {k' : Nat} (h : MP w B ls k) (hk : k ≤ k') : MP w B ls k' := by
  obtain ⟨D, h1, h2⟩ := h; exact ⟨D, h1.mono hk, h2⟩
theorem wf_low (hg : g < 8) : (Lit.int .u64 (g : Int)).wf = true := by
  have h1 : IntKind.u64.min = 0 := rfl
  have h2 : IntKind.u64.max = 18446744073709551615 := rfl
  simp only [Lit.wf, h1, h2, Bool.and_eq_true, decide_eq_true_eq]; omega
theorem MP.look (h : MP w B ls k) (z : Int) (hz : z = (g : Int)) (hg : g < 8) (hq : cnt ls g = q) : (Instr.lookup 32 (.map (some B)) (.int .u64 z) false).run Try.prog w = .ok (.int .i64 q) w := by
  subst hz
  obtain ⟨D, hown, _, hD⟩ := h
  obtain ⟨c, hrun, hat, hwc⟩ := hown.lookup_int key22 Try.underlying32 Try.underlying3 (zero3 w) (keyOf_int_mk Try.underlying22 (wf_low hg))
  rw [hD g hg, hq] at hat
  injection hat with hat
  injection hat with _ hat
  rw [hrun, hat]
theorem MP.put (h : MP w B ls k) (z : Int) (hz : z = (g : Int)) (hk : k < 1000) (hg : g < 8) (hw : (Lit.int .i64 q).wf = true) (hc : ∀ j, cnt qs j = if j = g then q else cnt ls j) :
    ∃ w', (Instr.mapUpdate 32 (.map (some B)) (.int .u64 z) (.int .i64 q)).run Try.prog w = .ok () w' ∧ MP w' B qs (k + 1) ∧ w.grownBy w' (some B) := by
  subst hz
  obtain ⟨D, hown, hm, hD⟩ := h
  obtain ⟨w', hrun, h1, h2⟩ := hown.update key22 Try.underlying32 (by unfold maxLen; omega) (keyOf_int_mk Try.underlying22 (wf_low hg)) (plainElem_int Try.underlying3 hw)
  refine ⟨w', hrun, ⟨_, h1, hm.put _ _, fun j hj => ?_⟩, h2⟩
  rw [hc j]
  by_cases e : j = g
  · subst e
    rw [if_pos rfl, atKey_put_same hm (k := .int .u64 (j : Int)) trivial]
  · rw [if_neg e, atKey_put_other (by intro h; injection h with _ h; omega), hD j hj]
end

/-- A slice of octets with a sign. -/
def IR (w : World) (A : Option Addr) (n : Nat) (xs : List Int) : Prop := Reads w w.heap.size 1 A n (xs.map (Value.int .i8)) ∧ ∀ x ∈ xs, -128 ≤ x ∧ x ≤ 127
theorem IR.below {w w' : World} {A : Option Addr} {n : Nat} {xs : List Int} (h : IR w A n xs) (hb : Below w.heap.size w w') : IR w' A n xs := ⟨(Reads.below h.1 hb).more hb.size, h.2⟩
theorem IR.cell {w : World} {A : Option Addr} {n : Nat} {xs : List Int} (h : IR w A n xs) (k : Nat) (hk : k < n) : ∃ ad x, A = some ad ∧ w.cell? (ad.add k) = some (.int .i8 x) ∧ -128 ≤ x ∧ x ≤ 127 := by
  obtain ⟨ad, e, _, hc⟩ := h.1.2 (by omega)
  have hl : k < xs.length := by have := h.1.1; simp at this; omega
  refine ⟨ad, xs[k], e, hc k _ (by rw [List.getElem?_map, List.getElem?_eq_getElem hl]; rfl), h.2 _ (List.getElem_mem hl)⟩
open Go.ChangeShapes Go.WideShapes Go.Deep in
theorem open_i8 {H : Type} {enc : TypeId × Value → H} {w : World} {base : Nat} {spare : Nat → Bool} {held : Bool} {A : Option Addr} {n c : Nat} {d : DataW H} {ps : List MemPlace}
    (hd : DataW.Trod enc Try.prog w base spare held 31 (.slice A n c) d ps) : ∃ xs : List Int, IR w A n xs := by
  obtain ⟨fuel, hf⟩ := hd
  rcases open_slice1 Try.underlying31 (by kernel_rfl) hf with ⟨hcs, _⟩ | ⟨a, len, cap, m, k, V, D, Pl, hcs, _, hl, hm, hmm, _, hc⟩
  · simp [Value.cells] at hcs
    obtain ⟨rfl, rfl, rfl⟩ := hcs
    exact ⟨[], Reads.none_, fun x hx => by simp at hx⟩
  · simp [Value.cells] at hcs
    obtain ⟨rfl, rfl, rfl⟩ := hcs
    have hmn : n ≤ m := by rw [hmm]; split <;> omega
    obtain ⟨B, hB⟩ := choose_lt (α := Int) (n := n) (p := fun i b => V i = .int .i8 b ∧ -128 ≤ b ∧ b ≤ 127) (fun i hi => by
      obtain ⟨x, e, _, hw⟩ := DataW.trod_int Try.underlying33 (hc i (by omega)).2
      simp only [List.cons.injEq, and_true] at e
      have hb := bounds_i8 hw
      exact ⟨x, e, hb.1, hb.2⟩)
    refine ⟨(List.range n).map B, ⟨by simp, fun h0 => ⟨a, rfl, ?_, fun j u hu => ?_⟩⟩, fun x hx => ?_⟩
    · exact World.block_lt_of_cell? w a (by have := (hc 0 (by omega)).1; simpa [Addr.add] using this)
    · have hj : j < n := by
        rcases Nat.lt_or_ge j n with h1 | h1
        · exact h1
        · rw [List.getElem?_eq_none (by simp; omega)] at hu; cases hu
      rw [List.map_map, List.getElem?_map, List.getElem?_range hj] at hu
      simp only [Option.map_some, Function.comp] at hu
      rw [(hc j (by omega)).1, (hB j hj).1]; exact hu
    · obtain ⟨i, hi, rfl⟩ := List.mem_map.1 hx
      exact (hB i (List.mem_range.1 hi)).2
end Go.Proofs.Ytbfagfnclgfmhaa
