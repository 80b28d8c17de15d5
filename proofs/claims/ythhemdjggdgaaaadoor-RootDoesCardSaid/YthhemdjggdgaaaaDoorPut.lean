/- A sector written: what is wet behind it. -/
import Derived.Test.YthhemdjggdgaaaaDoorSync
namespace Go.Proofs.YthhemdjggdgaaaaDoor
open Go.RowKit
set_option linter.unusedVariables false

/-- A sector written. -/
def putW (qs : Wet) (k : Int) (b : Bs) : Wet := qs.filter (fun p => decide (p.1 < k)) ++ (k, b) :: qs.filter (fun p => decide (k < p.1))
def Dk.put (d : Dk) (k : Int) (b : Bs) (l : Int) : Dk := ⟨d.dry, putW d.wet k b, l⟩
theorem putW_split (l r : Wet) (k : Int) (b : Bs) (hl : ∀ p ∈ l, p.1 < k) (hr : ∀ p ∈ r, k < p.1) : putW (l ++ r) k b = l ++ (k, b) :: r := by
  unfold putW
  rw [List.filter_append, List.filter_append, List.filter_eq_self.2 (fun p hp => decide_eq_true (hl p hp)), List.filter_eq_self.2 (fun p hp => decide_eq_true (hr p hp)),
    List.filter_eq_nil_iff.2 (fun p hp => by have := hr p hp; simp; omega), List.filter_eq_nil_iff.2 (fun p hp => by have := hl p hp; simp; omega)]
  simp
theorem putW_same (l r : Wet) (k : Int) (b c : Bs) (hl : ∀ p ∈ l, p.1 < k) (hr : ∀ p ∈ r, k < p.1) : putW (l ++ (k, c) :: r) k b = l ++ (k, b) :: r := by
  unfold putW
  rw [List.filter_append, List.filter_append, List.filter_cons, List.filter_cons, List.filter_eq_self.2 (fun p hp => decide_eq_true (hl p hp)), List.filter_eq_self.2 (fun p hp => decide_eq_true (hr p hp)),
    List.filter_eq_nil_iff.2 (fun p hp => by have := hr p hp; simp; omega), List.filter_eq_nil_iff.2 (fun p hp => by have := hl p hp; simp; omega)]
  simp
theorem mem_take_qn {qs : Wet} {i : Nat} {p : Int × Bs} (h : p ∈ qs.take i) : ∃ j, j < i ∧ j < qs.length ∧ qn qs j = p := by
  obtain ⟨j, hj, rfl⟩ := List.mem_iff_getElem.1 h
  rw [List.length_take] at hj
  exact ⟨j, by omega, by omega, by rw [qn_lt (by omega), List.getElem_take]⟩
theorem mem_drop_qn {qs : Wet} {i : Nat} {p : Int × Bs} (h : p ∈ qs.drop i) : ∃ j, i ≤ j ∧ j < qs.length ∧ qn qs j = p := by
  obtain ⟨j, hj, rfl⟩ := List.mem_iff_getElem.1 h
  rw [List.length_drop] at hj
  exact ⟨i + j, by omega, by omega, by rw [qn_lt (by omega), List.getElem_drop]⟩
theorem putW_ins {qs : Wet} {k : Int} {i : Nat} (b : Bs) (h1 : ∀ j, j < i → j < qs.length → (qn qs j).1 < k) (h2 : ∀ j, i ≤ j → j < qs.length → k < (qn qs j).1) : putW qs k b = qs.take i ++ (k, b) :: qs.drop i := by
  have := putW_split (qs.take i) (qs.drop i) k b (fun p hp => by obtain ⟨j, a, c, rfl⟩ := mem_take_qn hp; exact h1 j a c) (fun p hp => by obtain ⟨j, a, c, rfl⟩ := mem_drop_qn hp; exact h2 j a c)
  rwa [List.take_append_drop] at this
theorem putW_set {qs : Wet} {k : Int} {i : Nat} (b : Bs) (hi : i < qs.length) (he : (qn qs i).1 = k) (h1 : ∀ j, j < i → j < qs.length → (qn qs j).1 < k) (h2 : ∀ j, i + 1 ≤ j → j < qs.length → k < (qn qs j).1) : putW qs k b = qs.set i (k, b) := by
  have e : qs = qs.take i ++ (k, (qn qs i).2) :: qs.drop (i + 1) := by
    have : (k, (qn qs i).2) = qs[i] := by rw [← qn_lt hi, ← he]
    rw [this, List.getElem_cons_drop, List.take_append_drop]
  have := putW_same (qs.take i) (qs.drop (i + 1)) k b (qn qs i).2 (fun p hp => by obtain ⟨j, a, c, rfl⟩ := mem_take_qn hp; exact h1 j a c) (fun p hp => by obtain ⟨j, a, c, rfl⟩ := mem_drop_qn hp; exact h2 j a c)
  rw [← e] at this
  rw [this, List.set_eq_take_append_cons_drop, if_pos hi]
/-- A page's place, in what is wet. -/
theorem at_set {d : Dk} {w : World} {base : Nat} {ps : List Pg} {k : Int} {i : Nat} (b : Bs) (hg : Good d) (hp : PO base w ps d.wet) (ha : At ps k i) (ht : there ps k i = true) : i < ps.length ∧ putW d.wet k b = d.wet.set i (k, b) := by
  obtain ⟨h1, h2⟩ := there_yes ht
  refine ⟨h1, putW_set b (by rw [← hp.1]; exact h1) (by rw [← (hp.2 i h1).1]; exact h2) (fun j hj hl => ?_) (fun j hj hl => ?_)⟩
  · rw [← (hp.2 j (by rw [hp.1]; exact hl)).1]; exact ha.2.1 j hj
  · have h3 := hg.lt i j (by omega) hl
    rw [← (hp.2 i h1).1, h2] at h3
    exact h3
theorem at_ins {d : Dk} {w : World} {base : Nat} {ps : List Pg} {k : Int} {i : Nat} (b : Bs) (hg : Good d) (hp : PO base w ps d.wet) (ha : At ps k i) (ht : there ps k i = false) : putW d.wet k b = d.wet.take i ++ (k, b) :: d.wet.drop i := by
  refine putW_ins b (fun j hj hl => ?_) (fun j hj hl => ?_)
  · rw [← (hp.2 j (by rw [hp.1]; exact hl)).1]; exact ha.2.1 j hj
  · have hl' : j < ps.length := by rw [hp.1]; exact hl
    rw [← (hp.2 j hl').1]
    have h1 := ha.2.2 j hj hl'
    by_cases e : i = j
    · subst e
      unfold there at ht
      rw [decide_eq_true hl', Bool.true_and, beq_eq_false_iff_ne] at ht
      omega
    · have h2 := ha.2.2 i (Nat.le_refl _) (by omega)
      have h3 := hg.lt i j (by omega) hl
      rw [← (hp.2 i (by omega)).1, ← (hp.2 j hl').1] at h3
      omega
end Go.Proofs.YthhemdjggdgaaaaDoor
