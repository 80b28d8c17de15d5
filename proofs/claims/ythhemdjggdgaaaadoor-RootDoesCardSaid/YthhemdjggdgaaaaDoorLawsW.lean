/- A sector written: plain laws. -/
import Derived.Test.YthhemdjggdgaaaaDoorLaws
namespace Go.Proofs.YthhemdjggdgaaaaDoor
set_option linter.unusedVariables false

theorem Good.asc {d : Dk} (h : Good d) : d.wet.Pairwise (fun p q => p.1 < q.1) := by
  rw [List.pairwise_iff_getElem]
  intro i j hi hj hij
  have := h.lt i j hij hj
  rw [qn_lt hi, qn_lt hj] at this
  exact this
theorem Good.mem {d : Dk} (h : Good d) : ∀ p ∈ d.wet, 0 ≤ p.1 ∧ p.1 < d.n ∧ p.2.length = 32 := by
  intro p hp
  obtain ⟨i, hi, rfl⟩ := qn_mem hp
  exact ⟨h.at0 i hi, h.at1 i hi, h.len i hi⟩
theorem qn_in {qs : Wet} {i : Nat} (h : i < qs.length) : qn qs i ∈ qs := by rw [qn_lt h]; exact List.getElem_mem h
theorem Good.of {d : Dk} (h1 : 1 ≤ d.n) (h2 : d.n ≤ 8192) (h3 : d.dry.length = 32 * d.n) (h4 : -1 ≤ d.left) (h5 : d.left ≤ 1073741824) (h6 : ∀ p ∈ d.wet, 0 ≤ p.1 ∧ p.1 < d.n ∧ p.2.length = 32) (h7 : d.wet.Pairwise (fun p q => p.1 < q.1)) : Good d :=
  ⟨h1, h2, h3, h4, h5, fun i hi => (h6 _ (qn_in hi)).1, fun i hi => (h6 _ (qn_in hi)).2.1, fun i hi => (h6 _ (qn_in hi)).2.2, fun i hi => by
    rw [List.pairwise_iff_getElem] at h7
    rw [qn_lt (by omega : i < d.wet.length), qn_lt hi]
    exact h7 i (i + 1) (by omega) hi (by omega)⟩
theorem putW_asc {qs : Wet} (s : Int) (b : Bs) (h : qs.Pairwise (fun p q => p.1 < q.1)) : (putW qs s b).Pairwise (fun p q => p.1 < q.1) := by
  unfold putW
  rw [List.pairwise_append]
  refine ⟨h.filter _, ?_, ?_⟩
  · rw [List.pairwise_cons]
    refine ⟨fun q hq => ?_, h.filter _⟩
    have := (List.mem_filter.1 hq).2
    simpa using this
  · intro p hp q hq
    have h1 := (List.mem_filter.1 hp).2
    have h1 : p.1 < s := by simpa using h1
    rcases List.mem_cons.1 hq with rfl | hq
    · exact h1
    · have h2 := (List.mem_filter.1 hq).2
      have h2 : s < q.1 := by simpa using h2
      omega
theorem putW_mem {qs : Wet} {s : Int} {b : Bs} {p : Int × Bs} (h : p ∈ putW qs s b) : p ∈ qs ∨ p = (s, b) := by
  unfold putW at h
  rcases List.mem_append.1 h with h | h
  · exact .inl (List.mem_filter.1 h).1
  · rcases List.mem_cons.1 h with h | h
    · exact .inr h
    · exact .inl (List.mem_filter.1 h).1
theorem Good.put {d : Dk} {s : Int} {bs : Bs} {l : Int} (h : Is d s) (hb : bs.length = 32) (h1 : -1 ≤ l) (h2 : l ≤ 1073741824) : Good (d.put s bs l) := by
  refine Good.of h.1.one h.1.max h.1.whole h1 h2 (fun p hp => ?_) (putW_asc s bs h.1.asc)
  rcases putW_mem hp with hp | rfl
  · exact h.1.mem p hp
  · exact ⟨h.2.1, h.2.2, hb⟩
theorem Is.put {d : Dk} {s o : Int} {bs : Bs} {l : Int} (h : Is d s) (hb : bs.length = 32) (h1 : -1 ≤ l) (h2 : l ≤ 1073741824) (ho : 0 ≤ o) (ho1 : o < d.n) : Is (d.put s bs l) o := ⟨Good.put h hb h1 h2, ho, ho1⟩
theorem find_filter {α : Type} (l : List α) (f g : α → Bool) : (l.filter f).find? g = l.find? (fun a => f a && g a) := by
  induction l with
  | nil => rfl
  | cons a l ih =>
    cases hf : f a with
    | true => rw [List.filter_cons_of_pos hf, List.find?_cons, List.find?_cons, ih, hf, Bool.true_and]
    | false => rw [List.filter_cons_of_neg (by simp [hf]), List.find?_cons, ih, hf, Bool.false_and]
theorem find_put_same (qs : Wet) (s : Int) (b : Bs) : (putW qs s b).find? (fun p => p.1 == s) = some (s, b) := by
  unfold putW
  rw [List.find?_append, find_filter]
  have e : qs.find? (fun a => decide (a.1 < s) && a.1 == s) = none := by
    rw [List.find?_eq_none]
    intro p hp
    simp only [Bool.and_eq_true, decide_eq_true_eq, beq_iff_eq, not_and]
    omega
  rw [e]
  simp
theorem find_put_other (qs : Wet) {s o : Int} (b : Bs) (h : o ≠ s) : (putW qs s b).find? (fun p => p.1 == o) = qs.find? (fun p => p.1 == o) := by
  unfold putW
  rw [List.find?_append, List.find?_cons_of_neg (by simpa using fun h' => h h'.symm), find_filter, find_filter]
  rcases Int.lt_or_gt_of_ne h with h1 | h1
  · have e1 : (fun a : Int × Bs => decide (a.1 < s) && a.1 == o) = fun a => a.1 == o := by
      funext a
      by_cases ha : a.1 = o
      · simp [ha, h1]
      · simp [ha]
    have e2 : qs.find? (fun a : Int × Bs => decide (s < a.1) && a.1 == o) = none := by
      rw [List.find?_eq_none]
      intro p hp
      simp only [Bool.and_eq_true, decide_eq_true_eq, beq_iff_eq, not_and]
      omega
    rw [e1, e2, Option.or_none]
  · have e1 : (fun a : Int × Bs => decide (s < a.1) && a.1 == o) = fun a => a.1 == o := by
      funext a
      by_cases ha : a.1 = o
      · simp [ha, h1]
      · simp [ha]
    have e2 : qs.find? (fun a : Int × Bs => decide (a.1 < s) && a.1 == o) = none := by
      rw [List.find?_eq_none]
      intro p hp
      simp only [Bool.and_eq_true, decide_eq_true_eq, beq_iff_eq, not_and]
      omega
    rw [e1, e2, Option.none_or]
theorem readB_put_same (d : Dk) (s : Int) (bs : Bs) (l : Int) : readB (d.put s bs l) s = bs := by
  unfold readB Dk.put
  rw [find_put_same]; rfl
theorem readB_put_other (d : Dk) {s o : Int} (bs : Bs) (l : Int) (h : o ≠ s) : readB (d.put s bs l) o = readB d o := by
  unfold readB Dk.put
  rw [find_put_other _ _ h]
theorem putW_twice (qs : Wet) (s : Int) (a b : Bs) : putW (putW qs s a) s b = putW qs s b := by
  have e1 : (putW qs s a).filter (fun p => decide (p.1 < s)) = qs.filter (fun p => decide (p.1 < s)) := by
    unfold putW
    rw [List.filter_append, List.filter_cons_of_neg (by simp), List.filter_filter, List.filter_filter]
    have : (qs.filter fun a => decide (a.1 < s) && decide (s < a.1)) = [] := by
      rw [List.filter_eq_nil_iff]; intro p hp; simp; omega
    rw [this, List.append_nil]
    congr 1; funext a; simp
  have e2 : (putW qs s a).filter (fun p => decide (s < p.1)) = qs.filter (fun p => decide (s < p.1)) := by
    unfold putW
    rw [List.filter_append, List.filter_cons_of_neg (by simp), List.filter_filter, List.filter_filter]
    have : (qs.filter fun a => decide (s < a.1) && decide (a.1 < s)) = [] := by
      rw [List.filter_eq_nil_iff]; intro p hp; simp; omega
    rw [this, List.nil_append]
    congr 1; funext a; simp
  rw [show putW (putW qs s a) s b = (putW qs s a).filter (fun p => decide (p.1 < s)) ++ (s, b) :: (putW qs s a).filter (fun p => decide (s < p.1)) from rfl, e1, e2]; rfl
theorem putW_swap_lt (qs : Wet) {s t : Int} (a b : Bs) (h : s < t) : putW (putW qs s a) t b = putW (putW qs t b) s a := by
  have f1 : (putW qs s a).filter (fun p => decide (p.1 < t)) = qs.filter (fun p => decide (p.1 < s)) ++ (s, a) :: qs.filter (fun p => decide (p.1 < t) && decide (s < p.1)) := by
    unfold putW
    rw [List.filter_append, List.filter_cons_of_pos (by simpa using h), List.filter_filter, List.filter_filter]
    congr 1
    congr 1; funext p
    by_cases hp : p.1 < s
    · simp [hp, Int.lt_trans hp h]
    · simp [hp]
  have f2 : (putW qs s a).filter (fun p => decide (t < p.1)) = qs.filter (fun p => decide (t < p.1)) := by
    unfold putW
    rw [List.filter_append, List.filter_cons_of_neg (by simp; omega), List.filter_filter, List.filter_filter]
    have : (qs.filter fun p => decide (t < p.1) && decide (p.1 < s)) = [] := by
      rw [List.filter_eq_nil_iff]; intro p hp; simp; omega
    rw [this, List.nil_append]
    congr 1; funext p
    by_cases hp : t < p.1
    · simp [hp, Int.lt_trans h hp]
    · simp [hp]
  have f3 : (putW qs t b).filter (fun p => decide (p.1 < s)) = qs.filter (fun p => decide (p.1 < s)) := by
    unfold putW
    rw [List.filter_append, List.filter_cons_of_neg (by simp; omega), List.filter_filter, List.filter_filter]
    have : (qs.filter fun p => decide (p.1 < s) && decide (t < p.1)) = [] := by
      rw [List.filter_eq_nil_iff]; intro p hp; simp; omega
    rw [this, List.append_nil]
    congr 1; funext p
    by_cases hp : p.1 < s
    · simp [hp, Int.lt_trans hp h]
    · simp [hp]
  have f4 : (putW qs t b).filter (fun p => decide (s < p.1)) = qs.filter (fun p => decide (p.1 < t) && decide (s < p.1)) ++ (t, b) :: qs.filter (fun p => decide (t < p.1)) := by
    unfold putW
    rw [List.filter_append, List.filter_cons_of_pos (by simpa using h), List.filter_filter, List.filter_filter]
    congr 1
    · congr 1; funext p; rw [Bool.and_comm]
    · congr 1
      congr 1; funext p
      by_cases hp : t < p.1
      · simp [hp, Int.lt_trans h hp]
      · simp [hp]
  rw [show putW (putW qs s a) t b = (putW qs s a).filter (fun p => decide (p.1 < t)) ++ (t, b) :: (putW qs s a).filter (fun p => decide (t < p.1)) from rfl,
    show putW (putW qs t b) s a = (putW qs t b).filter (fun p => decide (p.1 < s)) ++ (s, a) :: (putW qs t b).filter (fun p => decide (s < p.1)) from rfl, f1, f2, f3, f4]
  simp
theorem putW_swap (qs : Wet) {s t : Int} (a b : Bs) (h : s ≠ t) : putW (putW qs s a) t b = putW (putW qs t b) s a := by
  rcases Int.lt_or_gt_of_ne h with h1 | h1
  · exact putW_swap_lt qs a b h1
  · exact (putW_swap_lt qs b a h1).symm
/-- No more pages than sectors. -/
theorem Good.wet_n {d : Dk} (h : Good d) : d.wet.length ≤ d.n := by
  have hi : ∀ i, i < d.wet.length → (i : Int) ≤ (qn d.wet i).1 := by
    intro i
    induction i with
    | zero => intro hi; exact h.at0 0 hi
    | succ i ih => intro hi; have h1 := ih (by omega); have h2 := h.up i hi; omega
  rcases Nat.eq_zero_or_pos d.wet.length with h0 | h0
  · omega
  · have h1 := hi (d.wet.length - 1) (by omega)
    have h2 := h.at1 (d.wet.length - 1) (by omega)
    omega
end Go.Proofs.YthhemdjggdgaaaaDoor
