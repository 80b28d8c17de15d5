import Derived.Test.YtbfagfnclgfmhaaLst
import Derived.Deep.Slices
import Derived.Deep.Fields
import Derived.ChangeSame
import Derived.OpenShut
namespace Go.Proofs.Ytbfagfnclgfmhaa
open Go.RowKit Go.ChangeShapes Go.WideShapes Go.Deep

section
variable {H : Type} {enc : TypeId × Value → H} {P : Program} {w : World} {base : Nat} {spare : Nat → Bool} {held : Bool}
theorem open_slice_fields {t e : TypeId} {fs : Array Field} {fuel : Nat} {cs : List Value} {x : DataW H × List MemPlace} (ht : P.underlying t = some (.slice e)) (he : P.underlying e = some (.struct fs))
    (hone : oneCellFields P fs = true) (hC : P.cellsOf e = fs.size) (h : DataW.trod enc P w base spare held fuel t cs = some x) :
    (cs = [.slice none 0 0] ∧ x = (.nil, [])) ∨
    ∃ (a : Addr) (len cap m : Nat) (D : Nat → DataW H) (Pl : Nat → List MemPlace), cs = [.slice (some a) len cap] ∧ base ≤ a.block ∧ len ≤ cap ∧ cap ≤ maxLen ∧ m = (if spare a.block then cap else len) ∧
      x = (.slice ((List.range len).map D) ((List.range (m - len)).map fun j => D (len + j)), MemPlace.row a (m * fs.size) ++ (List.range m).flatMap Pl) ∧
      ∀ i, i < m → ∃ (ys : List (DataW H × List MemPlace)) (n : Nat), D i = .agg (ys.map (·.1)) ∧ Pl i = ys.flatMap (·.2) ∧ ys.length = fs.size ∧
        ∀ (j : Nat) (f : Field), fs[j]? = some f → ∃ (v : Value) (y : DataW H × List MemPlace), w.cell? (a.add (i * fs.size + j)) = some v ∧ ys[j]? = some y ∧ DataW.trod enc P w base spare held n f.type [v] = some y := by
  rcases open_slice ht h with h0 | ⟨a, len, cap, m, n, D, Pl, hcs, hb, hl, hm, hmm, hx, hi⟩
  · exact .inl h0
  · refine .inr ⟨a, len, cap, m, D, Pl, hcs, hb, hl, hm, hmm, by rw [hC] at hx; exact hx, fun i him => ?_⟩
    obtain ⟨cs', hc, ht'⟩ := hi i him
    rw [hC] at hc
    obtain ⟨ys, n', hn', hy, hlen, hyl, hf⟩ := DataW.trod_struct he ht'
    obtain ⟨_, hcl, hat⟩ := World.cells?_some hc
    simp only [Prod.mk.injEq] at hy
    refine ⟨ys, n', hy.1, hy.2, hyl, fun j f hj => ?_⟩
    obtain ⟨ho, hk⟩ := hone_of hone j f hj
    have hjl : j < fs.size := (Array.getElem?_eq_some_iff.1 hj).1
    have hcell := hat j hjl
    have hv : cs'[j]? = some (cs'[j]'(by omega)) := List.getElem?_eq_getElem (by omega)
    have h1 := hf j f hj
    rw [ho, hk] at h1
    have hone' : (cs'.drop j).take 1 = [cs'[j]'(by omega)] := by
      rw [List.drop_eq_getElem_cons (by omega)]
      rfl
    rw [hone'] at h1
    have hys : ys[j]? = some (ys[j]'(by omega)) := List.getElem?_eq_getElem (by omega)
    refine ⟨_, _, ?_, hys, h1.trans hys⟩
    rw [← Go.Deep.add_add, hcell, hv]
end

/-- A slice of pins that came in, opened. -/
theorem open_pn {H : Type} {enc : TypeId × Value → H} {w : World} {base : Nat} {spare : Nat → Bool} {held : Bool} {A : Option Addr} {n c : Nat} {d : DataW H} {ps : List MemPlace}
    (hd : DataW.Trod enc Try.prog w base spare held 24 (.slice A n c) d ps) : ∃ xs : List Pin, PR w A n xs := by
  obtain ⟨fuel, hf⟩ := hd
  rcases open_slice_fields Try.underlying24 Try.underlying41 (by kernel_rfl) (by kernel_rfl) hf with ⟨hcs, _⟩ | ⟨a, len, cap, m, D, Pl, hcs, _, hl, hm, hmm, _, hc⟩
  · simp [Value.cells] at hcs
    obtain ⟨rfl, rfl, rfl⟩ := hcs
    exact ⟨[], Reads.none_⟩
  · simp [Value.cells] at hcs
    obtain ⟨rfl, rfl, rfl⟩ := hcs
    have hmn : n ≤ m := by rw [hmm]; split <;> omega
    obtain ⟨B, hB⟩ := choose_lt (α := Pin) (n := n) (p := fun i p => w.cell? (a.add (i * 2)) = some (.int .u64 p.1) ∧ w.cell? (a.add (i * 2 + 1)) = some (.int .i64 p.2)) (fun i hi => by
      obtain ⟨ys, k, _, _, _, hj⟩ := hc i (by omega)
      obtain ⟨v0, y0, hv0, _, ht0⟩ := hj 0 _ rfl
      obtain ⟨v1, y1, hv1, _, ht1⟩ := hj 1 _ rfl
      obtain ⟨n0, e0, _, w0⟩ := DataW.trod_int Try.underlying22 ht0
      obtain ⟨n1, e1, _, w1⟩ := DataW.trod_int Try.underlying3 ht1
      have b0 := bounds_u64 w0
      obtain ⟨g0, rfl⟩ := Int.eq_ofNat_of_zero_le b0.1
      simp only [List.cons.injEq, and_true] at e0 e1
      subst e0 e1
      exact ⟨(g0, n1), hv0, hv1⟩)
    refine ⟨(List.range n).map B, ⟨?_, fun h0 => ⟨a, rfl, ?_, fun j u hu => ?_⟩⟩⟩
    · rw [pcs_length]; simp
    · exact World.block_lt_of_cell? w a (by have := (hB 0 h0).1; simpa [Addr.add] using this)
    · have hx : ∀ i, i < n → nth ((List.range n).map B) i = B i := fun i hi => by rw [nth_lt (by simpa using hi)]; simp
      have hlen : (pcs ((List.range n).map B)).length = n * 2 := by rw [pcs_length]; simp
      have hj : j < n * 2 := by
        rcases Nat.lt_or_ge j (n * 2) with h1 | h1
        · exact h1
        · rw [List.getElem?_eq_none (by omega)] at hu; cases hu
      have hp := pcs_get ((List.range n).map B) (j / 2) (by simp; omega)
      rw [hx _ (by omega)] at hp
      have hb := hB (j / 2) (by omega)
      rcases Nat.mod_two_eq_zero_or_one j with h2 | h2
      · have e : j = j / 2 * 2 := by omega
        rw [e, hp.1] at hu
        rw [e, hb.1]; exact hu
      · have e : j = j / 2 * 2 + 1 := by omega
        rw [e, hp.2] at hu
        rw [e, hb.2]; exact hu
end Go.Proofs.Ytbfagfnclgfmhaa
