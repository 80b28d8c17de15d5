import Derived.Test.YtbfagfnclgfmhaaPlc
namespace Go.Proofs.Ytbfagfnclgfmhaa

/-- One, so often. -/
def oneL (g k : Nat) : List Pin := if k = 0 then [] else [(g, (k : Int))]
/-- So many, once each. -/
def rep (g k : Nat) : List Pin := (List.range k).map (fun i => (g + i, (1 : Int)))
theorem rep_len (g k : Nat) : (rep g k).length = k := by unfold rep; simp
theorem rep_succ (g k : Nat) : rep g (k + 1) = rep g k ++ [(g + k, 1)] := by unfold rep; rw [List.range_succ, List.map_append]; rfl
theorem rep_mem {g k : Nat} {p : Pin} (h : p ∈ rep g k) : g ≤ p.1 ∧ p.1 < g + k ∧ p.2 = 1 := by
  unfold rep at h
  obtain ⟨i, hi, rfl⟩ := List.mem_map.1 h
  have := List.mem_range.1 hi
  exact ⟨by simp, by simp; omega, rfl⟩
theorem good_one {g k : Nat} (hg : g ≤ 1073741824) (hk : k ≤ 64) : Good (oneL g k) := by
  rw [fine_iff]
  unfold oneL
  by_cases h : k = 0
  · rw [if_pos h]; exact ⟨by simp, fun p hp => by simp at hp, List.Pairwise.nil⟩
  · rw [if_neg h]
    exact ⟨by simp, fun p hp => by simp at hp; subst hp; refine ⟨?_, ?_, ?_⟩ <;> simp <;> omega, by simp⟩
theorem good_rep {g k : Nat} (hg : g ≤ 1073741824) (hk : k ≤ 64) : Good (rep g k) := by
  rw [fine_iff]
  refine ⟨by rw [rep_len]; exact hk, fun p hp => ?_, ?_⟩
  · have := rep_mem hp; omega
  · unfold rep
    rw [List.pairwise_map]
    exact (List.pairwise_lt_range (n := k)).imp fun h => by simp; omega
theorem cnt_oneL (g k : Nat) : cnt (oneL g k) g = k := by
  unfold oneL
  by_cases h : k = 0
  · rw [if_pos h, h]; rfl
  · rw [if_neg h, cnt_cons, if_pos rfl]
theorem one_less {g k : Nat} (hg : g ≤ 1073741824) (hk : k < 64) : openS (oneL g k) g = (oneL g (k + 1), 0) := by
  have hl : (oneL g k).length ≤ 1 := by unfold oneL; split <;> simp
  rw [open_wth (good_one hg (by omega)) (by omega) (by rw [cnt_oneL]; omega), cnt_oneL]
  congr 1
  have e : oneL g (k + 1) = [(g, (k : Int) + 1)] := by unfold oneL; rw [if_neg (by omega)]; simp
  rw [e]
  unfold wth oneL
  have h0 : (0 : Int) < (k : Int) + 1 := by omega
  by_cases h : k = 0
  · subst h; simp
  · simp [h, h0]
theorem one_full {g : Nat} (hg : g ≤ 1073741824) : openS (oneL g 64) g = ([], 6) :=
  open_full (good_one hg (by omega)) (by omega) (.inl (cnt_oneL g 64))
theorem cnt_rep {g k j : Nat} (h : k ≤ j) : cnt (rep g k) (g + j) = 0 := by
  refine cnt_none (fun i hi he => ?_)
  have := rep_mem (by rw [nth_lt hi]; exact List.getElem_mem hi : nth (rep g k) i ∈ rep g k)
  omega
theorem rep_less {g k : Nat} (hg : g ≤ 1073741824) (hk : k < 64) : openS (rep g k) (g + k) = (rep g (k + 1), 0) := by
  have hc := cnt_rep (g := g) (Nat.le_refl k)
  rw [open_wth (good_rep hg (by omega)) (by omega) (by rw [hc, rep_len]; omega), hc, rep_succ]
  congr 1
  unfold wth
  rw [if_pos (by omega), List.filter_eq_self.2 (fun p hp => by have := rep_mem hp; simp; omega), List.filter_eq_nil_iff.2 (fun p hp => by have := rep_mem hp; simp; omega)]
  simp
theorem rep_full {g j : Nat} (hg : g ≤ 1073741824) (hj : 64 ≤ j) (hj2 : j ≤ 80) : openS (rep g 64) (g + j) = ([], 6) :=
  open_full (good_rep hg (by omega)) (by omega) (.inr ⟨cnt_rep hj, rep_len g 64⟩)
theorem many_one {g k : Nat} (hg : g ≤ 1073741824) (hk : k ≤ 64) : manyS (oneL g k) g = ((k : Int), 0) := by
  rw [many_ok (good_one hg hk) (by omega), cnt_oneL]
end Go.Proofs.Ytbfagfnclgfmhaa
