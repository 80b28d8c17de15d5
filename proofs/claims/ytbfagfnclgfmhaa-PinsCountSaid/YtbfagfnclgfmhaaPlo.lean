import Derived.Test.YtbfagfnclgfmhaaPlc
namespace Go.Proofs.Ytbfagfnclgfmhaa

section
variable {ps xa xb : List Pin} {a b : Nat}
theorem open_opened (h : Opened ps a xa) (hl : ps.length ≤ 61) : ∀ b, b ≤ 1099511627776 → (b = a → cnt ps a < 63) → (b ≠ a → cnt ps b < 64) → openS xa b = (wth xa b (cnt xa b + 1), 0) ∧ Opened xa b (wth xa b (cnt xa b + 1)) := by
  intro b hb h1 h2
  have hc := h.at_ b
  have hle := h.len
  have hf : ¬ (cnt xa b = 64 ∨ (cnt xa b = 0 ∧ xa.length = 64)) := by
    by_cases hab : b = a
    · rw [if_pos hab] at hc
      have := h1 hab
      have := cnt_range h.good a
      omega
    · rw [if_neg hab] at hc
      have := h2 hab
      split at hle <;> omega
  exact ⟨open_wth h.good' hb hf, open_ok h.good' hb hf⟩
theorem order_open (h : Opened ps a xa) (k : Opened ps b xb) (hl : ps.length ≤ 60) : openS xa b = openS xb a := by
  by_cases hab : a = b
  · subst hab
    rw [good_ext h.good' k.good' (fun g => by rw [h.at_ g, k.at_ g])]
  · obtain ⟨h1, h2⟩ := open_opened h (by omega) b k.gen (fun e => absurd e.symm hab) (fun _ => k.low)
    obtain ⟨k1, k2⟩ := open_opened k (by omega) a h.gen (fun e => absurd e hab) (fun _ => h.low)
    rw [h1, k1]
    congr 1
    refine good_ext h2.good' k2.good' (fun g => ?_)
    have hba : ¬ b = a := fun e => hab e.symm
    rw [h2.at_ g, k2.at_ g, h.at_ g, k.at_ g, h.at_ b, k.at_ a, if_neg hba, if_neg hab]
    by_cases e1 : g = a
    · subst e1; simp [hab]
    · by_cases e2 : g = b
      · subst e2; simp [hba]
      · simp [e1, e2]
theorem order_close (h : Closed ps a xa) (k : Closed ps b xb) : closeS xa b = closeS xb a ∧ (a ≠ b → (closeS xa b).2 = 0) := by
  by_cases hab : a = b
  · subst hab
    exact ⟨by rw [good_ext h.good' k.good' (fun g => by rw [h.at_ g, k.at_ g])], fun e => absurd rfl e⟩
  · have hb : ¬ cnt xa b = 0 := by rw [h.at_ b, if_neg (fun e => hab e.symm)]; have := k.some; omega
    have ha : ¬ cnt xb a = 0 := by rw [k.at_ a, if_neg hab]; have := h.some; omega
    have h2 := close_ok h.good' k.gen hb
    have k2 := close_ok k.good' h.gen ha
    rw [close_wth h.good' k.gen hb, close_wth k.good' h.gen ha]
    refine ⟨?_, fun _ => rfl⟩
    congr 1
    refine good_ext h2.good' k2.good' (fun g => ?_)
    have hba : ¬ b = a := fun e => hab e.symm
    rw [h2.at_ g, k2.at_ g, h.at_ g, k.at_ g, h.at_ b, k.at_ a, if_neg hba, if_neg hab]
    by_cases e1 : g = a
    · subst e1; simp [hab]
    · by_cases e2 : g = b
      · subst e2; simp [hba]
      · simp [e1, e2]
end
end Go.Proofs.Ytbfagfnclgfmhaa
