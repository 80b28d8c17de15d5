import Derived.Test.YtfopmdnpjokjcaaSymR
namespace Go.Proofs.Ytfopmdnpjokjcaa
open Go.RowKit Plain

theorem list_ext {xs ys : List Nat} (hl : ys.length = xs.length) (h : ∀ q, q < xs.length → nth ys q = nth xs q) : ys = xs := by
  apply List.ext_getElem hl
  intro i h1 h2
  have := h i h2
  rwa [nth_lt h1, nth_lt h2] at this

theorem nth_take (xs : List Nat) (n q : Nat) (h : q < n) : nth (xs.take n) q = nth xs q := by
  unfold nth; rw [List.getD_eq_getElem?_getD, List.getElem?_take_of_lt h, ← List.getD_eq_getElem?_getD]
theorem nth_drop (xs : List Nat) (n q : Nat) : nth (xs.drop n) q = nth xs (n + q) := by
  unfold nth; rw [List.getD_eq_getElem?_getD, List.getElem?_drop, ← List.getD_eq_getElem?_getD]

/-- What stands within the stretch stood within it. -/
theorem InR.mem {a b : Nat} {xs ys : List Nat} (h : InR a b xs ys) (hab : a ≤ b) (hb : b ≤ xs.length) {q : Nat} (hq : a ≤ q) (hq' : q < b) : ∃ p, a ≤ p ∧ p < b ∧ nth ys q = nth xs p := by
  obtain ⟨h1, h2, h3⟩ := h
  have split : ∀ zs : List Nat, zs = zs.take a ++ ((zs.drop a).take (b - a) ++ zs.drop b) := fun zs => by
    have e : zs.drop b = (zs.drop a).drop (b - a) := by rw [List.drop_drop]; congr 1; omega
    rw [e, List.take_append_drop, List.take_append_drop]
  have eA : ys.take a = xs.take a := list_ext (by simp only [List.length_take]; omega) (fun q hq => by
    simp only [List.length_take] at hq
    rw [nth_take _ _ _ (by omega), nth_take _ _ _ (by omega)]; exact h3 q (by omega))
  have eB : ys.drop b = xs.drop b := list_ext (by simp only [List.length_drop]; omega) (fun q hq => by
    rw [nth_drop, nth_drop]; exact h3 _ (by omega))
  have hp := h2
  rw [split ys, split xs, eA, eB] at hp
  have hp2 := (List.perm_append_right_iff _).1 ((List.perm_append_left_iff _).1 hp)
  have hmem : nth ys q ∈ (ys.drop a).take (b - a) := by
    have e : nth ys q = ((ys.drop a).take (b - a))[q - a]'(by simp only [List.length_take, List.length_drop]; omega) := by
      rw [← nth_lt, nth_take _ _ _ (by omega), nth_drop]; congr 1; omega
    rw [e]; exact List.getElem_mem _
  obtain ⟨i, hi, he⟩ := List.getElem_of_mem (hp2.mem_iff.1 hmem)
  simp only [List.length_take, List.length_drop] at hi
  refine ⟨a + i, by omega, by omega, ?_⟩
  rw [← he, ← nth_lt, nth_take _ _ _ (by omega), nth_drop]

/-- None ahead of mid is above one behind it. -/
def Cross (a mid b : Nat) (xs : List Nat) : Prop := ∀ q t, a ≤ q → q < mid → mid ≤ t → t < b → K xs q ≤ K xs t
theorem Cross.left {a mid b : Nat} {xs ys : List Nat} (h : Cross a mid b xs) (k : InR a mid xs ys) (h1 : a ≤ mid) (h2 : mid ≤ xs.length) : Cross a mid b ys := by
  intro q t hq hq' ht ht'
  obtain ⟨p, hp, hp', e⟩ := k.mem h1 h2 hq hq'
  unfold K; rw [e, k.2.2 t (by omega)]
  exact h p t hp hp' ht ht'
theorem Cross.right {a mid b : Nat} {xs ys : List Nat} (h : Cross a mid b xs) (k : InR mid b xs ys) (h1 : mid ≤ b) (h2 : b ≤ xs.length) : Cross a mid b ys := by
  intro q t hq hq' ht ht'
  obtain ⟨p, hp, hp', e⟩ := k.mem h1 h2 ht ht'
  unfold K; rw [e, k.2.2 q (by omega)]
  exact h q p hq hq' hp hp'
theorem Up.join {a mid b : Nat} {xs : List Nat} (h : Up a mid xs) (k : Up mid b xs) (c : Cross a mid b xs) : Up a b xs := by
  intro p q hp hpq hq
  by_cases h1 : q < mid
  · exact h p q hp hpq h1
  · by_cases h2 : p < mid
    · exact c p q hp h2 (by omega) hq
    · exact k p q (by omega) hpq hq
theorem Up.same {a b : Nat} {xs ys : List Nat} (h : Up a b xs) (e : ∀ q, a ≤ q → q < b → nth ys q = nth xs q) : Up a b ys := by
  intro p q hp hpq hq
  rw [e p hp (by omega), e q (by omega) hq]
  exact h p q hp hpq hq

/-- The end of a merge: either half put in order. -/
theorem merge_end {a mid b : Nat} {zs z2 z3 : List Nat} (hc : Cross a mid b zs) (h1 : a ≤ mid) (h2 : mid ≤ b) (h3 : b ≤ zs.length) (i2 : InR a mid zs z2) (u2 : Up a mid z2) (i3 : InR mid b z2 z3) (u3 : Up mid b z3) :
    InR a b zs z3 ∧ Up a b z3 := by
  refine ⟨(i2.wide (Nat.le_refl _) h2).trans (i3.wide h1 (Nat.le_refl _)), ?_⟩
  have l2 : z2.length = zs.length := i2.1
  exact Up.join (u2.same fun q _ hq => i3.2.2 q (by omega)) u3 ((hc.left i2 h1 (by omega)).right i3 h2 (by omega))

/-- What the search for the place to turn about has found. -/
def BsG (lo s r hi n : Nat) (xs : List Nat) : Prop := (∀ c, lo ≤ c → c < s → K xs c ≤ K xs (n - 1 - c)) ∧ ∀ c, r ≤ c → c < hi → K xs (n - 1 - c) < K xs c

/-- Between which two the place to turn about is sought. -/
def Lim (a m b mid lo hi : Nat) : Prop := (mid < m ∧ lo + b = mid + m ∧ hi = mid) ∨ (m ≤ mid ∧ lo = a ∧ hi = m)

theorem rot_back {s m e mid b : Nat} {xs zs : List Nat} (hz : ∀ q, nth zs q = rotF xs s m e q) (hs : s ≤ m) (he : m ≤ e) (hmid : s + (e - m) = mid) :
    (∀ q, q < s → nth zs q = nth xs q) ∧ (∀ q, s ≤ q → q < mid → nth zs q = nth xs (m + (q - s))) ∧ (∀ q, mid ≤ q → q < e → nth zs q = nth xs (s + (q - mid))) ∧ ∀ q, e ≤ q → nth zs q = nth xs q := by
  refine ⟨fun q hq => ?_, fun q h1 h2 => ?_, fun q h1 h2 => ?_, fun q hq => ?_⟩
  · rw [hz]; unfold rotF; rw [if_pos (.inl hq)]
  · rw [hz]; unfold rotF; rw [if_neg (by omega), if_pos (by omega)]
  · rw [hz]; unfold rotF; rw [if_neg (by omega), if_neg (by omega)]; congr 1; omega
  · rw [hz]; unfold rotF; rw [if_pos (.inr hq)]

theorem merge_mid {a m b mid lo hi s e : Nat} {xs zs : List Nat} (hl : Lim a m b mid lo hi) (ham : a < m) (hmb : m < b) (hmid : mid = (a + b) / 2) (hlo : lo ≤ s) (hhi : s ≤ hi) (he : e + s = mid + m)
    (hB : BsG lo s s hi (mid + m) xs) (h1 : Up a m xs) (h2 : Up m b xs) (hz : ∀ q, nth zs q = rotF xs s m e q) :
    (a ≤ s ∧ s ≤ m ∧ m ≤ e ∧ e ≤ b ∧ s ≤ mid ∧ mid ≤ e) ∧ Up a s zs ∧ Up s mid zs ∧ Up mid e zs ∧ Up e b zs ∧ Cross a mid b zs := by
  have hb : a ≤ s ∧ s ≤ m ∧ m ≤ e ∧ e ≤ b ∧ s ≤ mid ∧ mid ≤ e := by
    rcases hl with ⟨c1, c2, c3⟩ | ⟨c1, c2, c3⟩ <;> omega
  obtain ⟨b1, b2, b3, b4, b5, b6⟩ := hb
  obtain ⟨r1, r2, r3, r4⟩ := rot_back (b := b) hz b2 b3 (show s + (e - m) = mid by omega)
  refine ⟨⟨b1, b2, b3, b4, b5, b6⟩, ?_, ?_, ?_, ?_, ?_⟩
  · exact Up.same (fun p q hp hpq hq => h1 p q hp hpq (by omega)) fun q _ hq => r1 q hq
  · intro p q hp hpq hq
    rw [r2 p hp (by omega), r2 q (by omega) hq]
    exact h2 _ _ (by omega) (by omega) (by omega)
  · intro p q hp hpq hq
    rw [r3 p hp (by omega), r3 q (by omega) hq]
    exact h1 _ _ (by omega) (by omega) (by omega)
  · exact Up.same (fun p q hp hpq hq => h2 p q (by omega) hpq hq) fun q hq _ => r4 q hq
  · -- each ahead of mid, each behind it
    have X1 : ∀ u v, a ≤ u → u < s → e ≤ v → v < b → K xs u ≤ K xs v := by
      intro u v hu hu' hv hv'
      have hls : lo < s := by rcases hl with ⟨c1, c2, c3⟩ | ⟨c1, c2, c3⟩ <;> omega
      have h3 := hB.1 (s - 1) (by omega) (by omega)
      rw [show mid + m - 1 - (s - 1) = e by omega] at h3
      exact Nat.le_trans (h1.le hu (by omega) (by omega)) (Nat.le_trans h3 (h2.le b3 hv hv'))
    have X2 : ∀ u v, m ≤ u → u < e → s ≤ v → v < m → K xs u ≤ K xs v := by
      intro u v hu hu' hv hv'
      have hls : s < hi := by rcases hl with ⟨c1, c2, c3⟩ | ⟨c1, c2, c3⟩ <;> omega
      have h3 := hB.2 s (Nat.le_refl _) hls
      rw [show mid + m - 1 - s = e - 1 by omega] at h3
      exact Nat.le_trans (h2.le hu (by omega) (by omega)) (Nat.le_trans (Nat.le_of_lt h3) (h1.le b1 hv hv'))
    intro q t hq hq' ht ht'
    unfold K
    by_cases c1 : q < s
    · rw [r1 q c1]
      by_cases c2 : t < e
      · rw [r3 t ht c2]; exact h1.le hq (by omega) (by omega)
      · rw [r4 t (by omega)]; exact X1 q t hq c1 (by omega) ht'
    · rw [r2 q (by omega) hq']
      by_cases c2 : t < e
      · rw [r3 t ht c2]; exact X2 _ _ (by omega) (by omega) (by omega) (by omega)
      · rw [r4 t (by omega)]; exact h2.le (by omega) (by omega) ht'

theorem rot_in {s m e a b : Nat} {xs zs : List Nat} (hz : ∀ q, nth zs q = rotF xs s m e q) (hl : zs.length = xs.length) (hp : zs.Perm xs) (h1 : a ≤ s) (h2 : e ≤ b) : InR a b xs zs :=
  ⟨hl, hp, fun q hq => by rw [hz]; unfold rotF; rw [if_pos (by omega)]⟩
/-- Nothing to turn about. -/
theorem rot_none {s m e : Nat} (xs : List Nat) (hs : s ≤ m) (he : m ≤ e) (h : ¬(s < m ∧ m < e)) : ∀ q, nth xs q = rotF xs s m e q := by
  intro q; unfold rotF
  split
  · rfl
  · split
    · congr 1; omega
    · congr 1; omega
theorem BsG.up {lo s r hi n a m b c : Nat} {xs : List Nat} (h : BsG lo s r hi n xs) (h1 : Up a m xs) (h2 : Up m b xs) (hlo : a ≤ lo) (hc : s ≤ c) (hcm : c < m) (hnl : n - 1 - lo < b) (hnc : m ≤ n - 1 - c) (hk : K xs c ≤ K xs (n - 1 - c)) : BsG lo (c + 1) r hi n xs :=
  ⟨fun q h3 h4 => Nat.le_trans (h1.le (by omega) (by omega) hcm) (Nat.le_trans hk (h2.le hnc (by omega) (by omega))), h.2⟩
theorem BsG.down {lo s r hi n a m b c : Nat} {xs : List Nat} (h : BsG lo s r hi n xs) (h1 : Up a m xs) (h2 : Up m b xs) (hac : a ≤ c) (hr : c < r) (hhi : hi ≤ m) (hnh : ∀ q, q < hi → m ≤ n - 1 - q) (hnb : n - 1 - c < b) (hk : K xs (n - 1 - c) < K xs c) : BsG lo s c hi n xs :=
  ⟨h.1, fun q h3 h4 => Nat.lt_of_le_of_lt (h2.le (hnh q h4) (by omega) hnb) (Nat.lt_of_lt_of_le hk (h1.le hac h3 (by omega)))⟩
end Go.Proofs.Ytfopmdnpjokjcaa
