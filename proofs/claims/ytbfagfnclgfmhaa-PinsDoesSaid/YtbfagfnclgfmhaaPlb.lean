import Derived.Test.YtbfagfnclgfmhaaPl
namespace Go.Proofs.Ytbfagfnclgfmhaa

/-- Pins as lists go: they rise, and each may be. -/
structure Fine (ps : List Pin) : Prop where
  len : ps.length ≤ 64
  each : ∀ p ∈ ps, p.1 ≤ 1099511627776 ∧ 1 ≤ p.2 ∧ p.2 ≤ 64
  up : ps.Pairwise (fun a b => a.1 < b.1)

theorem fine_iff {ps : List Pin} : Good ps ↔ Fine ps := by
  constructor
  · intro h
    refine ⟨h.len, fun p hp => ?_, ?_⟩
    · obtain ⟨i, hi, rfl⟩ := nth_mem hp
      exact ⟨h.gen i hi, h.one i hi, h.max i hi⟩
    · rw [List.pairwise_iff_getElem]
      intro i j hi hj hij
      have := h.lt i j hij hj
      rwa [nth_lt hi, nth_lt hj] at this
  · intro h
    have hm : ∀ i, i < ps.length → nth ps i ∈ ps := fun i hi => by rw [nth_lt hi]; exact List.getElem_mem hi
    refine ⟨h.len, fun i hi => (h.each _ (hm i hi)).1, fun i hi => (h.each _ (hm i hi)).2.1, fun i hi => (h.each _ (hm i hi)).2.2, fun i hi => ?_⟩
    have := List.pairwise_iff_getElem.1 h.up i (i + 1) (by omega) hi (by omega)
    rwa [nth_lt (by omega), nth_lt hi]

theorem cnt_nil (g : Nat) : cnt [] g = 0 := rfl
theorem cnt_cons (p : Pin) (ps : List Pin) (g : Nat) : cnt (p :: ps) g = if p.1 = g then p.2 else cnt ps g := by
  unfold cnt
  rw [List.find?_cons]
  by_cases h : p.1 = g
  · rw [if_pos h]; simp [h]
  · rw [if_neg h]
    have : (p.1 == g) = false := by simpa using h
    rw [this]
theorem cnt_ahead {ps : List Pin} {g : Nat} (h : ∀ p ∈ ps, g < p.1) : cnt ps g = 0 := by
  refine cnt_none (fun i hi => ?_)
  have := h _ (by rw [nth_lt hi]; exact List.getElem_mem hi : nth ps i ∈ ps)
  omega

theorem cnt_range {ps : List Pin} (h : Good ps) (g : Nat) : 0 ≤ cnt ps g ∧ cnt ps g ≤ 64 := by
  have h := fine_iff.1 h
  unfold cnt
  cases hf : ps.find? (fun p => p.1 == g) with
  | none => simp
  | some p =>
    have := h.each p (List.mem_of_find?_eq_some hf)
    simp; omega
theorem cnt_big {ps : List Pin} (h : Good ps) {g : Nat} (hg : 1099511627776 < g) : cnt ps g = 0 :=
  cnt_none fun i hi => by have := h.gen i hi; omega

theorem pins_ext : ∀ {ps qs : List Pin}, (∀ p ∈ ps, 1 ≤ p.2) → ps.Pairwise (fun a b => a.1 < b.1) → (∀ p ∈ qs, 1 ≤ p.2) → qs.Pairwise (fun a b => a.1 < b.1) → (∀ g, cnt ps g = cnt qs g) → ps = qs
  | [], [], _, _, _, _, _ => rfl
  | [], q :: qs, _, _, h, _, hc => by
    have := hc q.1
    rw [cnt_nil, cnt_cons, if_pos rfl] at this
    have := h q (by simp)
    omega
  | p :: ps, [], h, _, _, _, hc => by
    have := hc p.1
    rw [cnt_nil, cnt_cons, if_pos rfl] at this
    have := h p (by simp)
    omega
  | p :: ps, q :: qs, hp, hpp, hq, hqq, hc => by
    rw [List.pairwise_cons] at hpp hqq
    have h1 : p.1 = q.1 := by
      rcases Nat.lt_trichotomy p.1 q.1 with h | h | h
      · have e := hc p.1
        rw [cnt_cons, if_pos rfl, cnt_ahead (ps := q :: qs) (fun r hr => by
          rcases List.mem_cons.1 hr with rfl | hr
          · exact h
          · have := hqq.1 r hr; omega)] at e
        have := hp p (by simp); omega
      · exact h
      · have e := hc q.1
        rw [cnt_cons (p := q), if_pos rfl, cnt_ahead (ps := p :: ps) (fun r hr => by
          rcases List.mem_cons.1 hr with rfl | hr
          · exact h
          · have := hpp.1 r hr; omega)] at e
        have := hq q (by simp); omega
    have h2 : p.2 = q.2 := by
      have e := hc p.1
      rwa [cnt_cons, if_pos rfl, cnt_cons, if_pos h1.symm] at e
    have h3 : ps = qs := pins_ext (fun r hr => hp r (by simp [hr])) hpp.2 (fun r hr => hq r (by simp [hr])) hqq.2 (fun g => by
      have e := hc g
      rw [cnt_cons, cnt_cons] at e
      by_cases hg : p.1 = g
      · rw [cnt_ahead (fun r hr => by have := hpp.1 r hr; omega), cnt_ahead (fun r hr => by have := hqq.1 r hr; omega)]
      · rwa [if_neg hg, if_neg (by omega)] at e)
    rw [h3]; congr 1; exact Prod.ext h1 h2
theorem good_ext {ps qs : List Pin} (hp : Good ps) (hq : Good qs) (hc : ∀ g, cnt ps g = cnt qs g) : ps = qs :=
  pins_ext (fun p h => ((fine_iff.1 hp).each p h).2.1) (fine_iff.1 hp).up (fun p h => ((fine_iff.1 hq).each p h).2.1) (fine_iff.1 hq).up hc

theorem cnt_wth (ps : List Pin) (g : Nat) {m : Int} (hm : 0 ≤ m) (k : Nat) : cnt (wth ps g m) k = if k = g then m else cnt ps k := by
  unfold cnt wth
  rw [List.find?_append, List.find?_append, List.find?_filter, List.find?_filter]
  by_cases h0 : 0 < m
  · rw [if_pos h0]
    by_cases h : k = g
    · subst h
      have e1 : ps.find? (fun a => decide (decide (a.1 < k) = true ∧ (a.1 == k) = true)) = none := by
        rw [List.find?_eq_none]; intro p _; simp; omega
      rw [e1]; simp
    · rw [if_neg h]
      have e2 : List.find? (fun p : Pin => p.1 == k) [(g, m)] = none := by
        rw [List.find?_eq_none]; intro p hp; simp at hp; subst hp; simp; omega
      rw [e2]
      by_cases hk : k < g
      · have e1 : (fun a : Pin => decide (decide (a.1 < g) = true ∧ (a.1 == k) = true)) = (fun a => a.1 == k) := by
          funext a; rw [Bool.eq_iff_iff]; simp; omega
        have e3 : ps.find? (fun a => decide (decide (g < a.1) = true ∧ (a.1 == k) = true)) = none := by
          rw [List.find?_eq_none]; intro p _; simp; omega
        rw [e1, e3]; simp
      · have e1 : (fun a : Pin => decide (decide (g < a.1) = true ∧ (a.1 == k) = true)) = (fun a => a.1 == k) := by
          funext a; rw [Bool.eq_iff_iff]; simp; omega
        have e3 : ps.find? (fun a => decide (decide (a.1 < g) = true ∧ (a.1 == k) = true)) = none := by
          rw [List.find?_eq_none]; intro p _; simp; omega
        rw [e1, e3]; simp
  · rw [if_neg h0]
    obtain rfl : m = 0 := by omega
    by_cases h : k = g
    · subst h
      have e1 : ps.find? (fun a => decide (decide (a.1 < k) = true ∧ (a.1 == k) = true)) = none := by
        rw [List.find?_eq_none]; intro p _; simp; omega
      have e3 : ps.find? (fun a => decide (decide (k < a.1) = true ∧ (a.1 == k) = true)) = none := by
        rw [List.find?_eq_none]; intro p _; simp; omega
      rw [e1, e3]; simp
    · rw [if_neg h]
      by_cases hk : k < g
      · have e1 : (fun a : Pin => decide (decide (a.1 < g) = true ∧ (a.1 == k) = true)) = (fun a => a.1 == k) := by
          funext a; rw [Bool.eq_iff_iff]; simp; omega
        have e3 : ps.find? (fun a => decide (decide (g < a.1) = true ∧ (a.1 == k) = true)) = none := by
          rw [List.find?_eq_none]; intro p _; simp; omega
        rw [e1, e3]; simp
      · have e1 : (fun a : Pin => decide (decide (g < a.1) = true ∧ (a.1 == k) = true)) = (fun a => a.1 == k) := by
          funext a; rw [Bool.eq_iff_iff]; simp; omega
        have e3 : ps.find? (fun a => decide (decide (a.1 < g) = true ∧ (a.1 == k) = true)) = none := by
          rw [List.find?_eq_none]; intro p _; simp; omega
        rw [e1, e3]; simp

theorem len_three (ps : List Pin) (g : Nat) : ps.length = (ps.filter (fun p => decide (p.1 < g))).length + (ps.filter (fun p => p.1 == g)).length + (ps.filter (fun p => decide (g < p.1))).length := by
  induction ps with
  | nil => rfl
  | cons p ps ih =>
    simp only [List.filter_cons, List.length_cons]
    rcases Nat.lt_trichotomy p.1 g with h | h | h
    · have a : decide (p.1 < g) = true := decide_eq_true h
      have b : (p.1 == g) = false := beq_eq_false_iff_ne.2 (by omega)
      have c : decide (g < p.1) = false := decide_eq_false (by omega)
      simp [a, b, c]; omega
    · have a : decide (p.1 < g) = false := decide_eq_false (by omega)
      have b : (p.1 == g) = true := beq_iff_eq.2 h
      have c : decide (g < p.1) = false := decide_eq_false (by omega)
      simp [a, b, c]; omega
    · have a : decide (p.1 < g) = false := decide_eq_false (by omega)
      have b : (p.1 == g) = false := beq_eq_false_iff_ne.2 (by omega)
      have c : decide (g < p.1) = true := decide_eq_true h
      simp [a, b, c]; omega
theorem len_one {ps : List Pin} (h1 : ∀ p ∈ ps, 1 ≤ p.2) (hp : ps.Pairwise (fun a b => a.1 < b.1)) (g : Nat) : (ps.filter (fun p => p.1 == g)).length = if cnt ps g = 0 then 0 else 1 := by
  induction ps with
  | nil => rfl
  | cons p ps ih =>
    rw [List.pairwise_cons] at hp
    rw [cnt_cons, List.filter_cons]
    have ih := ih (fun q hq => h1 q (by simp [hq])) hp.2
    by_cases h : p.1 = g
    · rw [if_pos (beq_iff_eq.2 h), if_pos h]
      have := h1 p (by simp)
      rw [if_neg (by omega)]
      have e : cnt ps g = 0 := cnt_ahead (fun r hr => by have := hp.1 r hr; omega)
      rw [e, if_pos rfl] at ih
      simp [ih]
    · rw [if_neg (by simpa using h), if_neg h, ih]
theorem len_wth {ps : List Pin} (h : Good ps) (g : Nat) (m : Int) : (wth ps g m).length + (if cnt ps g = 0 then 0 else 1) = ps.length + (if 0 < m then 1 else 0) := by
  have f := fine_iff.1 h
  have h3 := len_three ps g
  rw [len_one (fun p hp => (f.each p hp).2.1) f.up g] at h3
  unfold wth
  simp only [List.length_append]
  by_cases hm : 0 < m
  · rw [if_pos hm, if_pos hm]; simp; omega
  · rw [if_neg hm, if_neg hm]; simp; omega
theorem good_wth {ps : List Pin} (h : Good ps) {g : Nat} (hg : g ≤ 1099511627776) {m : Int} (hm : m ≤ 64) (hl : (wth ps g m).length ≤ 64) : Good (wth ps g m) := by
  have f := fine_iff.1 h
  refine fine_iff.2 ⟨hl, fun p hp => ?_, ?_⟩
  · unfold wth at hp
    simp only [List.mem_append, List.mem_filter] at hp
    rcases hp with (⟨hp, _⟩ | hp) | ⟨hp, _⟩
    · exact f.each p hp
    · split at hp
      · simp at hp; subst hp; exact ⟨hg, by simp; omega, by simpa using hm⟩
      · cases hp
    · exact f.each p hp
  · unfold wth
    rw [List.pairwise_append, List.pairwise_append]
    refine ⟨⟨f.up.filter _, ?_, fun a ha b hb => ?_⟩, f.up.filter _, fun a ha b hb => ?_⟩
    · split <;> simp
    · split at hb
      · simp at hb; subst hb; simpa using (List.mem_filter.1 ha).2
      · cases hb
    · have hb := (List.mem_filter.1 hb).2
      simp at hb
      rcases List.mem_append.1 ha with ha | ha
      · have := (List.mem_filter.1 ha).2
        simp at this; omega
      · split at ha
        · simp at ha; subst ha; exact hb
        · cases ha
end Go.Proofs.Ytbfagfnclgfmhaa
