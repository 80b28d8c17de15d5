import Derived.Test.YtbfagfnclgfmhaaPlo
namespace Go.Proofs.Ytbfagfnclgfmhaa

def kindsN (ls : List Pin) : Nat → Nat
  | 0 => 0
  | j + 1 => kindsN ls j + (if 0 < cnt ls j then 1 else 0)
def leastN (ls : List Pin) : Nat → Nat
  | 0 => 99
  | j + 1 => if 0 < cnt ls j then min (leastN ls j) j else leastN ls j
theorem kinds_le (ls : List Pin) (j : Nat) : kindsN ls j ≤ j := by
  induction j with
  | zero => exact Nat.le_refl 0
  | succ j ih => unfold kindsN; split <;> omega
theorem least_le (ls : List Pin) (j : Nat) : leastN ls j ≤ 99 := by
  induction j with
  | zero => exact Nat.le_refl _
  | succ j ih => unfold leastN; split <;> omega
theorem kinds_filter {ls : List Pin} (h : Good ls) (j : Nat) : kindsN ls j = (ls.filter (fun p => decide (p.1 < j))).length := by
  have f := fine_iff.1 h
  induction j with
  | zero => unfold kindsN; rw [List.filter_eq_nil_iff.2 (fun p _ => by simp)]; rfl
  | succ j ih =>
    have h1 := len_one (fun p hp => (f.each p hp).2.1) f.up j
    have hr := cnt_range h j
    have e : (ls.filter (fun p => decide (p.1 < j + 1))).length = (ls.filter (fun p => decide (p.1 < j))).length + (ls.filter (fun p => p.1 == j)).length := by
      clear h1 f ih h hr
      induction ls with
      | nil => rfl
      | cons p ls ih =>
        simp only [List.filter_cons]
        rcases Nat.lt_trichotomy p.1 j with h | h | h
        · rw [if_pos (by simp; omega), if_pos (by simpa using h), if_neg (by simp; omega)]; simp only [List.length_cons]; omega
        · rw [if_pos (by simp; omega), if_neg (by simp; omega), if_pos (by simpa using h)]; simp only [List.length_cons]; omega
        · rw [if_neg (by simp; omega), if_neg (by simp; omega), if_neg (by simp; omega)]; exact ih
    unfold kindsN
    rw [e, ih, h1]
    split <;> split <;> omega
theorem gens_low {ls : List Pin} (h : Good ls) (hl : ∀ g, 8 ≤ g → cnt ls g = 0) (i : Nat) (hi : i < ls.length) : (nth ls i).1 < 8 := by
  rcases Nat.lt_or_ge (nth ls i).1 8 with h1 | h1
  · exact h1
  · have := hl _ h1
    rw [cnt_at h hi] at this
    have := h.one i hi
    omega
theorem kinds_len {ls : List Pin} (h : Good ls) (hl : ∀ g, 8 ≤ g → cnt ls g = 0) : kindsN ls 8 = ls.length := by
  rw [kinds_filter h, List.filter_eq_self.2]
  intro p hp
  obtain ⟨i, hi, rfl⟩ := nth_mem hp
  exact decide_eq_true (gens_low h hl i hi)
theorem least_spec (ls : List Pin) (j : Nat) : (∀ g, g < j → 0 < cnt ls g → leastN ls j ≤ g) ∧ (leastN ls j = 99 ∨ (leastN ls j < j ∧ 0 < cnt ls (leastN ls j))) := by
  induction j with
  | zero => exact ⟨fun g hg => by omega, .inl rfl⟩
  | succ j ih =>
    unfold leastN
    by_cases h : 0 < cnt ls j
    · rw [if_pos h]
      refine ⟨fun g hg hc => ?_, ?_⟩
      · by_cases e : g = j
        · omega
        · have := ih.1 g (by omega) hc; omega
      · by_cases e : leastN ls j ≤ j
        · rw [Nat.min_eq_left e]
          rcases ih.2 with h1 | h1
          · exact .inl h1
          · exact .inr ⟨by omega, h1.2⟩
        · rw [Nat.min_eq_right (by omega)]; exact .inr ⟨by omega, h⟩
    · rw [if_neg h]
      refine ⟨fun g hg hc => ih.1 g (by
        by_cases e : g = j
        · subst e; exact absurd hc h
        · omega) hc, ?_⟩
      rcases ih.2 with h1 | h1
      · exact .inl h1
      · exact .inr ⟨by omega, h1.2⟩
theorem least_first {ls : List Pin} (h : Good ls) (hl : ∀ g, 8 ≤ g → cnt ls g = 0) (hn : 0 < ls.length) : (nth ls 0).1 = leastN ls 8 := by
  have h8 := gens_low h hl 0 hn
  have hc := cnt_at h hn
  have h1 := h.one 0 hn
  obtain ⟨s1, s2⟩ := least_spec ls 8
  have := s1 _ h8 (by omega)
  rcases s2 with e | ⟨e1, e2⟩
  · omega
  · have hm : ∃ i, i < ls.length ∧ (nth ls i).1 = leastN ls 8 := by
      rcases Classical.em (∃ i, i < ls.length ∧ (nth ls i).1 = leastN ls 8) with h | h
      · exact h
      · have := cnt_none (ps := ls) (g := leastN ls 8) (fun i hi e => h ⟨i, hi, e⟩)
        omega
    obtain ⟨i, hi, he⟩ := hm
    by_cases e : i = 0
    · subst e; exact he
    · have := h.lt 0 i (by omega) hi; omega

/-- Behind k openings and closings of generations below 8. -/
structure Inv (ls : List Pin) (k : Nat) : Prop where
  good : Good ls
  low : ∀ g, 8 ≤ g → cnt ls g = 0
  few : ∀ g, cnt ls g ≤ k
theorem Inv.len {ls : List Pin} {k : Nat} (h : Inv ls k) : ls.length ≤ 8 := by
  rw [← kinds_len h.good h.low]; exact kinds_le ls 8
theorem inv_nil : Inv [] 0 := ⟨good_nil, fun _ _ => rfl, fun _ => by rw [cnt_nil]; exact Int.le_refl _⟩
theorem Inv.open {ls : List Pin} {k : Nat} (h : Inv ls k) (hk : k < 60) {g : Nat} (hg : g < 8) : ∃ qs, openS ls g = (qs, 0) ∧ Inv qs (k + 1) ∧ ∀ j, cnt qs j = if j = g then cnt ls g + 1 else cnt ls j := by
  have hf := h.few g
  have hl := h.len
  have hn : ¬ (cnt ls g = 64 ∨ (cnt ls g = 0 ∧ ls.length = 64)) := by omega
  have ho := open_ok h.good (by omega) hn
  refine ⟨_, open_wth h.good (by omega) hn, ⟨ho.good', fun j hj => ?_, fun j => ?_⟩, ho.at_⟩
  · rw [ho.at_ j, if_neg (by omega)]; exact h.low j hj
  · rw [ho.at_ j]
    have := h.few j
    split <;> simp <;> omega
theorem Inv.close {ls : List Pin} {k : Nat} (h : Inv ls k) {g : Nat} (hg : g < 8) (hc : ¬ cnt ls g = 0) : ∃ qs, closeS ls g = (qs, 0) ∧ Inv qs (k + 1) ∧ ∀ j, cnt qs j = if j = g then cnt ls g - 1 else cnt ls j := by
  have ho := close_ok h.good (by omega) hc
  refine ⟨_, close_wth h.good (by omega) hc, ⟨ho.good', fun j hj => ?_, fun j => ?_⟩, ho.at_⟩
  · rw [ho.at_ j, if_neg (by omega)]; exact h.low j hj
  · rw [ho.at_ j]
    have := h.few j; have := h.few g
    split <;> simp <;> omega
theorem Inv.more {ls : List Pin} {k : Nat} (h : Inv ls k) : Inv ls (k + 1) := ⟨h.good, h.low, fun g => by have := h.few g; simp; omega⟩
end Go.Proofs.Ytbfagfnclgfmhaa
