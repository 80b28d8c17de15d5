import Derived.Test.YtbfagfnclgfmhaaFind
namespace Go.Proofs.Ytbfagfnclgfmhaa

/-- How often a generation is pinned. -/
def cnt (ps : List Pin) (g : Nat) : Int := ((ps.find? (fun p => p.1 == g)).map (·.2)).getD 0
/-- Pins with a generation so often. -/
def wth (ps : List Pin) (g : Nat) (n : Int) : List Pin := ps.filter (fun p => decide (p.1 < g)) ++ (if 0 < n then [(g, n)] else []) ++ ps.filter (fun p => decide (g < p.1))
def manyS (ps : List Pin) (g : Nat) : Int × Int := if okk ps g then (cnt ps g, 0) else (0, 1)
def openS (ps : List Pin) (g : Nat) : List Pin × Int :=
  if okk ps g then (if cnt ps g = 64 ∨ (cnt ps g = 0 ∧ ps.length = 64) then ([], 6) else (wth ps g (cnt ps g + 1), 0)) else ([], 1)
def closeS (ps : List Pin) (g : Nat) : List Pin × Int := if okk ps g then (if cnt ps g = 0 then ([], 4) else (wth ps g (cnt ps g - 1), 0)) else ([], 1)
def leastS (ps : List Pin) : Nat × Int := if good ps then (if ps.length = 0 then (0, 4) else ((nth ps 0).1, 0)) else (0, 1)

/-- What a list of pins is, in words. -/
structure Good (ps : List Pin) : Prop where
  len : ps.length ≤ 64
  gen : ∀ i, i < ps.length → (nth ps i).1 ≤ 1099511627776
  one : ∀ i, i < ps.length → 1 ≤ (nth ps i).2
  max : ∀ i, i < ps.length → (nth ps i).2 ≤ 64
  up : ∀ i, i + 1 < ps.length → (nth ps i).1 < (nth ps (i + 1)).1

theorem odd_false {p : Pin} : odd p = false ↔ p.1 ≤ 1099511627776 ∧ 1 ≤ p.2 ∧ p.2 ≤ 64 := by
  unfold odd; simp only [Bool.or_eq_false_iff, decide_eq_false_iff_not]; omega
theorem any_odd {ps : List Pin} : ps.any odd = false ↔ ∀ i, i < ps.length → odd (nth ps i) = false := by
  constructor
  · intro h i hi
    cases ho : odd (nth ps i) with
    | false => rfl
    | true => rw [any_true hi ho] at h; cases h
  · exact any_false
theorem good_iff {ps : List Pin} : good ps = true ↔ Good ps := by
  unfold good
  simp only [Bool.and_eq_true, decide_eq_true_eq, Bool.not_eq_true', any_odd, odd_false]
  unfold risen twins
  simp only [decide_eq_true_eq, decide_eq_false_iff_not, not_exists, not_and]
  constructor
  · rintro ⟨⟨⟨h1, h2⟩, h3⟩, h4⟩
    exact ⟨h1, fun i hi => (h2 i hi).1, fun i hi => (h2 i hi).2.1, fun i hi => (h2 i hi).2.2, fun i hi => by
      have := h3 i (by omega); have := h4 i (by omega); omega⟩
  · rintro ⟨h1, h2, h3, h4, h5⟩
    exact ⟨⟨⟨h1, fun i hi => ⟨h2 i hi, h3 i hi, h4 i hi⟩⟩, fun i hi => by have := h5 i (by omega); omega⟩, fun i hi => by have := h5 i (by omega); omega⟩
theorem okk_iff {ps : List Pin} {g : Nat} : okk ps g = true ↔ Good ps ∧ g ≤ 1099511627776 := by
  unfold okk; simp only [Bool.and_eq_true, decide_eq_true_eq, good_iff]

theorem Good.lt {ps : List Pin} (h : Good ps) : ∀ i j, i < j → j < ps.length → (nth ps i).1 < (nth ps j).1 := by
  intro i j hij hj
  induction j with
  | zero => omega
  | succ j ih =>
    by_cases e : i = j
    · subst e; exact h.up i hj
    · have := ih (by omega) (by omega); have := h.up j hj; omega

theorem nth_mem {ps : List Pin} {p : Pin} (h : p ∈ ps) : ∃ i, i < ps.length ∧ nth ps i = p := by
  obtain ⟨i, hi, rfl⟩ := List.mem_iff_getElem.1 h
  exact ⟨i, hi, nth_lt hi⟩
theorem filter_take {ps : List Pin} {f : Pin → Bool} {i : Nat} (h1 : ∀ t, t < i → t < ps.length → f (nth ps t) = true) (h2 : ∀ t, i ≤ t → t < ps.length → f (nth ps t) = false) : ps.filter f = ps.take i := by
  conv => lhs; rw [← List.take_append_drop i ps, List.filter_append]
  rw [List.filter_eq_self.2, List.filter_eq_nil_iff.2, List.append_nil]
  · intro p hp
    obtain ⟨k, hk, rfl⟩ := List.mem_iff_getElem.1 hp
    rw [List.length_drop] at hk
    rw [List.getElem_drop]
    have := h2 (i + k) (by omega) (by omega)
    rw [nth_lt (by omega)] at this; rw [this]; decide
  · intro p hp
    obtain ⟨k, hk, rfl⟩ := List.mem_iff_getElem.1 hp
    rw [List.length_take] at hk
    rw [List.getElem_take]
    have := h1 k (by omega) (by omega)
    rwa [nth_lt (by omega)] at this
theorem filter_drop {ps : List Pin} {f : Pin → Bool} {i : Nat} (h1 : ∀ t, t < i → t < ps.length → f (nth ps t) = false) (h2 : ∀ t, i ≤ t → t < ps.length → f (nth ps t) = true) : ps.filter f = ps.drop i := by
  conv => lhs; rw [← List.take_append_drop i ps, List.filter_append]
  rw [List.filter_eq_nil_iff.2, List.filter_eq_self.2, List.nil_append]
  · intro p hp
    obtain ⟨k, hk, rfl⟩ := List.mem_iff_getElem.1 hp
    rw [List.length_drop] at hk
    rw [List.getElem_drop]
    have := h2 (i + k) (by omega) (by omega)
    rwa [nth_lt (by omega)] at this
  · intro p hp
    obtain ⟨k, hk, rfl⟩ := List.mem_iff_getElem.1 hp
    rw [List.length_take] at hk
    rw [List.getElem_take]
    have := h1 k (by omega) (by omega)
    rw [nth_lt (by omega)] at this; rw [this]; decide

section
variable {ps : List Pin} {g i : Nat}
theorem there_iff : there ps g i = true ↔ i < ps.length ∧ (nth ps i).1 = g := by
  unfold there; simp
theorem cnt_at (h : Good ps) (hi : i < ps.length) : cnt ps (nth ps i).1 = (nth ps i).2 := by
  unfold cnt
  have hf : ps.find? (fun p => p.1 == (nth ps i).1) = some (nth ps i) := by
    rw [List.find?_eq_some_iff_getElem]
    refine ⟨by simp, i, hi, (nth_lt hi).symm, fun j hj => ?_⟩
    have := h.lt j i hj hi
    rw [nth_lt (by omega : j < ps.length)] at this
    simp only [Bool.not_eq_eq_eq_not, Bool.not_true, beq_eq_false_iff_ne]
    omega
  rw [hf]; rfl
theorem cnt_none (h : ∀ i, i < ps.length → (nth ps i).1 ≠ g) : cnt ps g = 0 := by
  unfold cnt
  rw [List.find?_eq_none.2]
  · rfl
  · intro p hp
    obtain ⟨i, hi, rfl⟩ := nth_mem hp
    simpa using h i hi
theorem cnt_there (h : Good ps) (ht : there ps g i = true) : cnt ps g = (nth ps i).2 := by
  obtain ⟨hi, rfl⟩ := there_iff.1 ht
  exact cnt_at h hi
theorem cnt_not (h : Good ps) (ha : At ps g i) (ht : there ps g i = false) : cnt ps g = 0 := by
  refine cnt_none (fun t htl he => ?_)
  have h1 := ha.2.1
  have h2 := ha.2.2
  by_cases hti : t < i
  · have := h1 t hti; omega
  · by_cases e : t = i
    · subst e
      rw [there_iff.2 ⟨htl, he⟩] at ht; cases ht
    · have := h.lt i t (by omega) htl
      have := h2 i (Nat.le_refl _) (by omega)
      omega
theorem wth_there (h : Good ps) (ha : At ps g i) (ht : there ps g i = true) (n : Int) : wth ps g n = ps.take i ++ (if 0 < n then [(g, n)] else []) ++ ps.drop (i + 1) := by
  obtain ⟨hi, he⟩ := there_iff.1 ht
  unfold wth
  rw [filter_take (i := i) (fun t h1 _ => decide_eq_true (ha.2.1 t h1)) (fun t h1 h2 => decide_eq_false (by have := ha.2.2 t h1 h2; omega)),
    filter_drop (i := i + 1) (fun t h1 h2 => decide_eq_false (by
      by_cases e : t = i
      · subst e; omega
      · have := ha.2.1 t (by omega); omega)) (fun t h1 h2 => decide_eq_true (by have := h.lt i t (by omega) h2; omega))]
theorem wth_not (h : Good ps) (ha : At ps g i) (ht : there ps g i = false) (n : Int) : wth ps g n = ps.take i ++ (if 0 < n then [(g, n)] else []) ++ ps.drop i := by
  unfold wth
  rw [filter_take (i := i) (fun t h1 _ => decide_eq_true (ha.2.1 t h1)) (fun t h1 h2 => decide_eq_false (by have := ha.2.2 t h1 h2; omega)),
    filter_drop (i := i) (fun t h1 h2 => decide_eq_false (by have := ha.2.1 t h1; omega)) (fun t h1 h2 => decide_eq_true (by
      have := ha.2.2 t h1 h2
      by_cases e : (nth ps t).1 = g
      · have hti : there ps g i = true := by
          refine there_iff.2 ⟨by omega, ?_⟩
          by_cases eti : t = i
          · subst eti; exact e
          · have := h.lt i t (by omega) h2
            have := ha.2.2 i (Nat.le_refl _) (by omega)
            omega
        rw [hti] at ht; cases ht
      · omega))]
end
end Go.Proofs.Ytbfagfnclgfmhaa
