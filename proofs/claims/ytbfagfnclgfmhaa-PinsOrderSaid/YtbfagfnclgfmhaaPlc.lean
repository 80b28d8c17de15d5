import Derived.Test.YtbfagfnclgfmhaaPlb
namespace Go.Proofs.Ytbfagfnclgfmhaa

theorem fine_one : openS [] 5 = ([(5, 1)], 0) := by decide +kernel
theorem fine_two : openS [(5, 1)] 5 = ([(5, 2)], 0) := by decide +kernel
theorem fine_three : closeS [(5, 2)] 5 = ([(5, 1)], 0) := by decide +kernel
theorem fine_four : manyS [(5, 1)] 5 = (1, 0) := by decide +kernel

theorem good_nil : Good [] := ⟨by simp, fun i hi => by simp at hi, fun i hi => by simp at hi, fun i hi => by simp at hi, fun i hi => by simp at hi⟩

section
variable {ps : List Pin} {g : Nat}
theorem okk_true (h : Good ps) (hg : g ≤ 1099511627776) : okk ps g = true := okk_iff.2 ⟨h, hg⟩
theorem okk_not (h : ¬ (Good ps ∧ g ≤ 1099511627776)) : okk ps g = false := by
  cases hk : okk ps g with
  | false => rfl
  | true => exact absurd (okk_iff.1 hk) h
theorem open_bad (h : ¬ (Good ps ∧ g ≤ 1099511627776)) : openS ps g = ([], 1) := by unfold openS; rw [okk_not h]; rfl
theorem close_bad (h : ¬ (Good ps ∧ g ≤ 1099511627776)) : closeS ps g = ([], 1) := by unfold closeS; rw [okk_not h]; rfl
theorem many_bad (h : ¬ (Good ps ∧ g ≤ 1099511627776)) : manyS ps g = (0, 1) := by unfold manyS; rw [okk_not h]; rfl
theorem many_ok (h : Good ps) (hg : g ≤ 1099511627776) : manyS ps g = (cnt ps g, 0) := by unfold manyS; rw [okk_true h hg]; rfl
theorem open_full (h : Good ps) (hg : g ≤ 1099511627776) (hf : cnt ps g = 64 ∨ (cnt ps g = 0 ∧ ps.length = 64)) : openS ps g = ([], 6) := by
  unfold openS; rw [okk_true h hg, if_pos rfl, if_pos hf]
theorem open_wth (h : Good ps) (hg : g ≤ 1099511627776) (hf : ¬ (cnt ps g = 64 ∨ (cnt ps g = 0 ∧ ps.length = 64))) : openS ps g = (wth ps g (cnt ps g + 1), 0) := by
  unfold openS; rw [okk_true h hg, if_pos rfl, if_neg hf]
theorem close_none (h : Good ps) (hg : g ≤ 1099511627776) (hf : cnt ps g = 0) : closeS ps g = ([], 4) := by
  unfold closeS; rw [okk_true h hg, if_pos rfl, if_pos hf]
theorem close_wth (h : Good ps) (hg : g ≤ 1099511627776) (hf : ¬ cnt ps g = 0) : closeS ps g = (wth ps g (cnt ps g - 1), 0) := by
  unfold closeS; rw [okk_true h hg, if_pos rfl, if_neg hf]

/-- One opened. -/
structure Opened (ps : List Pin) (g : Nat) (qs : List Pin) : Prop where
  good : Good ps
  gen : g ≤ 1099511627776
  low : cnt ps g < 64
  good' : Good qs
  at_ : ∀ k, cnt qs k = if k = g then cnt ps g + 1 else cnt ps k
  len : qs.length = ps.length + (if cnt ps g = 0 then 1 else 0)
structure Closed (ps : List Pin) (g : Nat) (qs : List Pin) : Prop where
  good : Good ps
  gen : g ≤ 1099511627776
  some : 0 < cnt ps g
  good' : Good qs
  at_ : ∀ k, cnt qs k = if k = g then cnt ps g - 1 else cnt ps k
  len : qs.length + (if cnt ps g = 1 then 1 else 0) = ps.length

theorem open_ok (h : Good ps) (hg : g ≤ 1099511627776) (hf : ¬ (cnt ps g = 64 ∨ (cnt ps g = 0 ∧ ps.length = 64))) : Opened ps g (wth ps g (cnt ps g + 1)) := by
  have hr := cnt_range h g
  have hl := len_wth h g (cnt ps g + 1)
  rw [if_pos (by omega : 0 < cnt ps g + 1)] at hl
  have hL := h.len
  have hl2 : (wth ps g (cnt ps g + 1)).length = ps.length + (if cnt ps g = 0 then 1 else 0) := by split at hl <;> split <;> omega
  exact ⟨h, hg, by omega, good_wth h hg (by omega) (by rw [hl2]; split <;> omega), fun k => cnt_wth ps g (by omega) k, hl2⟩
theorem close_ok (h : Good ps) (hg : g ≤ 1099511627776) (hf : ¬ cnt ps g = 0) : Closed ps g (wth ps g (cnt ps g - 1)) := by
  have hr := cnt_range h g
  have hl := len_wth h g (cnt ps g - 1)
  rw [if_neg hf] at hl
  have hL := h.len
  have hl2 : (wth ps g (cnt ps g - 1)).length + (if cnt ps g = 1 then 1 else 0) = ps.length := by split at hl <;> split <;> omega
  exact ⟨h, hg, by omega, good_wth h hg (by omega) (by split at hl2 <;> omega), fun k => cnt_wth ps g (by omega) k, hl2⟩

/-- What an opening comes to. -/
theorem open_cases (ps : List Pin) (g : Nat) : ((openS ps g).1 = [] ∧ ((openS ps g).2 = 1 ∨ (openS ps g).2 = 6)) ∨ ((openS ps g).2 = 0 ∧ Opened ps g (openS ps g).1) := by
  by_cases h : Good ps ∧ g ≤ 1099511627776
  · by_cases hf : cnt ps g = 64 ∨ (cnt ps g = 0 ∧ ps.length = 64)
    · rw [open_full h.1 h.2 hf]; exact .inl ⟨rfl, .inr rfl⟩
    · rw [open_wth h.1 h.2 hf]; exact .inr ⟨rfl, open_ok h.1 h.2 hf⟩
  · rw [open_bad h]; exact .inl ⟨rfl, .inl rfl⟩
theorem close_cases (ps : List Pin) (g : Nat) : ((closeS ps g).1 = [] ∧ ((closeS ps g).2 = 1 ∨ (closeS ps g).2 = 4)) ∨ ((closeS ps g).2 = 0 ∧ Closed ps g (closeS ps g).1) := by
  by_cases h : Good ps ∧ g ≤ 1099511627776
  · by_cases hf : cnt ps g = 0
    · rw [close_none h.1 h.2 hf]; exact .inl ⟨rfl, .inr rfl⟩
    · rw [close_wth h.1 h.2 hf]; exact .inr ⟨rfl, close_ok h.1 h.2 hf⟩
  · rw [close_bad h]; exact .inl ⟨rfl, .inl rfl⟩
theorem openS_len (ps : List Pin) (g : Nat) : (openS ps g).1.length ≤ 1000 := by
  rcases open_cases ps g with ⟨h, _⟩ | ⟨_, h⟩
  · rw [h]; simp
  · have := h.good'.len; omega
theorem closeS_len (ps : List Pin) (g : Nat) : (closeS ps g).1.length ≤ 1000 := by
  rcases close_cases ps g with ⟨h, _⟩ | ⟨_, h⟩
  · rw [h]; simp
  · have := h.good'.len; omega

/-- Opened, and closed: as it was. -/
theorem back {qs : List Pin} (h : Opened ps g qs) : closeS qs g = (ps, 0) := by
  have hc := h.at_ g
  rw [if_pos rfl] at hc
  have hr := cnt_range h.good g
  have hne : ¬ cnt qs g = 0 := by omega
  have hw := close_ok h.good' h.gen hne
  rw [close_wth h.good' h.gen hne]
  rw [good_ext hw.good' h.good (fun k => by
    rw [hw.at_ k]
    by_cases hk : k = g
    · rw [if_pos hk, hc, hk]; omega
    · rw [if_neg hk, h.at_ k, if_neg hk])]
end
end Go.Proofs.Ytbfagfnclgfmhaa
