import Derived.Test.YtfopmdnpjokjcaaPlain
namespace Go.Proofs.Ytfopmdnpjokjcaa.Plain
open Ieee

theorem mag_rung (e k : Nat) (hk : k ≤ 9007199254740992) (h : e = 0 ∨ 4503599627370496 ≤ k) : mag (e * 4503599627370496 + k) = k * 2 ^ e := by
  unfold mag
  by_cases h1 : k < 4503599627370496
  · obtain rfl : e = 0 := by omega
    rw [if_pos (by omega)]; simp
  · rw [if_neg (by omega)]
    by_cases h2 : k = 9007199254740992
    · subst h2
      have e1 : (e * 4503599627370496 + 9007199254740992) % 4503599627370496 = 0 := by omega
      have e2 : (e * 4503599627370496 + 9007199254740992) / 4503599627370496 - 1 = e + 1 := by omega
      rw [e1, e2, Nat.pow_succ]
      generalize 2 ^ e = z
      omega
    · have e1 : (e * 4503599627370496 + k) % 4503599627370496 = k - 4503599627370496 := by omega
      have e2 : (e * 4503599627370496 + k) / 4503599627370496 - 1 = e := by omega
      rw [e1, e2, show 4503599627370496 + (k - 4503599627370496) = k by omega]

theorem mag_dvd (r e : Nat) (h : 4503599627370496 * 2 ^ e ≤ mag r) : ∃ t, mag r = t * 2 ^ e := by
  unfold mag at h ⊢
  have hp := Nat.two_pow_pos e
  by_cases h1 : r < 4503599627370496
  · rw [if_pos h1] at h
    have : 4503599627370496 * 1 ≤ 4503599627370496 * 2 ^ e := Nat.mul_le_mul_left _ hp
    omega
  · rw [if_neg h1] at h ⊢
    generalize hq : r / 4503599627370496 - 1 = q at h ⊢
    have hm : 4503599627370496 + r % 4503599627370496 < 9007199254740992 := by omega
    generalize 4503599627370496 + r % 4503599627370496 = t at h hm ⊢
    have hle : e ≤ q := by
      rcases Nat.lt_or_ge q e with hlt | hge
      · exfalso
        obtain ⟨d, rfl⟩ : ∃ d, e = q + 1 + d := ⟨e - q - 1, by omega⟩
        have h2 : 9007199254740992 * 2 ^ q ≤ 4503599627370496 * 2 ^ (q + 1 + d) := by
          rw [Nat.pow_add, Nat.pow_succ]
          have := Nat.two_pow_pos d
          have h3 : 2 ^ q * 2 * 1 ≤ 2 ^ q * 2 * 2 ^ d := Nat.mul_le_mul_left _ this
          omega
        have h4 : t * 2 ^ q < 9007199254740992 * 2 ^ q := Nat.mul_lt_mul_of_pos_right hm (Nat.two_pow_pos q)
        omega
      · exact hge
    obtain ⟨d, rfl⟩ : ∃ d, q = d + e := ⟨q - e, by omega⟩
    exact ⟨t * 2 ^ d, by rw [Nat.pow_add, Nat.mul_assoc]⟩

/-- What is cut off is rounded away, and a whole number stays as it is. -/
theorem cut_between (neg : Bool) (n drop : Nat) : (n / 2 ^ drop ≤ Toward.even.cut neg n drop) ∧ (Toward.even.cut neg n drop ≤ n / 2 ^ drop + 1) ∧ (n % 2 ^ drop = 0 → Toward.even.cut neg n drop = n / 2 ^ drop) := by
  unfold Toward.cut
  simp only [Nat.shiftLeft_eq, Nat.one_mul]
  by_cases hd : drop ≤ n.log2 + 2
  · rw [Nat.min_eq_left hd]
    have hp := Nat.two_pow_pos drop
    refine ⟨by omega, ?_, ?_⟩
    · have : ∀ b : Bool, b.toNat ≤ 1 := fun b => by cases b <;> decide
      have := this (decide (2 ^ drop < 2 * (n % 2 ^ drop)) || (2 ^ drop == 2 * (n % 2 ^ drop) && n / 2 ^ drop % 2 == 1))
      omega
    · intro h0
      rw [h0]
      have h1 : decide (2 ^ drop < 2 * 0) = false := decide_eq_false (by omega)
      have h2 : (2 ^ drop == 2 * 0) = false := beq_eq_false_iff_ne.2 (by omega)
      rw [h1, h2]; rfl
  · rw [Nat.min_eq_right (by omega)]
    have hl : n < 2 ^ (n.log2 + 1) := Nat.lt_log2_self
    have hs : 2 ^ (n.log2 + 2) = 2 * 2 ^ (n.log2 + 1) := by rw [show n.log2 + 2 = (n.log2 + 1) + 1 from rfl, Nat.pow_succ, Nat.mul_comm]
    have hle : 2 ^ (n.log2 + 2) ≤ 2 ^ drop := Nat.pow_le_pow_right (by omega) (by omega)
    have e1 : n / 2 ^ (n.log2 + 2) = 0 := Nat.div_eq_of_lt (by omega)
    have e2 : n % 2 ^ (n.log2 + 2) = n := Nat.mod_eq_of_lt (by omega)
    have e3 : n / 2 ^ drop = 0 := Nat.div_eq_of_lt (by omega)
    rw [e1, e2, e3]
    have h1 : decide (2 ^ (n.log2 + 2) < 2 * n) = false := decide_eq_false (by omega)
    have h2 : (2 ^ (n.log2 + 2) == 2 * n) = false := beq_eq_false_iff_ne.2 (by omega)
    rw [h1, h2]
    simp

theorem mag_le {r s : Nat} (h : r ≤ s) : mag r ≤ mag s := by
  rcases Nat.lt_or_eq_of_le h with h1 | h1
  · exact Nat.le_of_lt (mag_lt h1)
  · rw [h1]; exact Nat.le_refl _

/-- The nearest word: no word lies between it and the number. -/
theorem nearest_between (neg : Bool) (m : Nat) (place : Int) (hm : m ≠ 0) :
    ∃ R, double.nearest neg m place = double.word neg R ∧ R ≤ 9218868437227405312 ∧ ∀ K p : Nat, (p : Int) = place + 1074 + K →
      (∀ z, z ≤ 9218868437227405312 → mag z * 2 ^ K ≤ m * 2 ^ p → mag z ≤ mag R) ∧ (∀ z, m * 2 ^ p ≤ mag z * 2 ^ K → mag R ≤ mag z) := by
  unfold Format.nearest
  rw [if_neg hm]
  simp only [d_binade, d_inf, d_least, show double.fractionBits = 52 from rfl]
  generalize hlast : max (place + (m.log2 : Int) - (52 : Nat)) (-1074) = last
  obtain ⟨e, he⟩ : ∃ e : Nat, (e : Int) = last + 1074 := ⟨(last + 1074).toNat, by omega⟩
  have he' : (last - -1074).toNat = e := by omega
  rw [he']
  generalize hkept : Toward.even.cut neg (m <<< (place - last).toNat) (last - place).toNat = kept
  have hlog1 : 2 ^ m.log2 ≤ m := Nat.log2_self_le hm
  have hlog2 : m < 2 ^ (m.log2 + 1) := Nat.lt_log2_self
  -- a whole number of units at the last place: on one side of the number, on that side of what is kept
  have A : ∀ t K p : Nat, (p : Int) = place + 1074 + K → t * 2 ^ (e + K) ≤ m * 2 ^ p → t ≤ kept := by
    intro t K p hp h
    by_cases hc : last ≤ place
    · obtain ⟨d, hd⟩ : ∃ d : Nat, (place - last).toNat = d := ⟨_, rfl⟩
      have hk : kept = m * 2 ^ d := by
        rw [← hkept, hd, show (last - place).toNat = 0 by omega, Nat.shiftLeft_eq]
        have := (cut_between neg (m * 2 ^ d) 0).2.2 (by simp [Nat.mod_one])
        simpa using this
      have hpe : p = d + (e + K) := by omega
      rw [hpe, Nat.pow_add 2 d, ← Nat.mul_assoc, ← hk] at h
      exact Nat.le_of_mul_le_mul_right h (Nat.two_pow_pos _)
    · obtain ⟨d, hd⟩ : ∃ d : Nat, (last - place).toNat = d := ⟨_, rfl⟩
      have hk : m / 2 ^ d ≤ kept := by
        rw [← hkept, hd, show (place - last).toNat = 0 by omega]
        exact (cut_between neg (m <<< 0) d).1
      have hpe : e + K = d + p := by omega
      rw [hpe, Nat.pow_add 2 d, ← Nat.mul_assoc] at h
      have h1 : t * 2 ^ d ≤ m := Nat.le_of_mul_le_mul_right h (Nat.two_pow_pos _)
      have h2 : t ≤ m / 2 ^ d := (Nat.le_div_iff_mul_le (Nat.two_pow_pos d)).2 h1
      omega
  have B : ∀ t K p : Nat, (p : Int) = place + 1074 + K → m * 2 ^ p ≤ t * 2 ^ (e + K) → kept ≤ t := by
    intro t K p hp h
    by_cases hc : last ≤ place
    · obtain ⟨d, hd⟩ : ∃ d : Nat, (place - last).toNat = d := ⟨_, rfl⟩
      have hk : kept = m * 2 ^ d := by
        rw [← hkept, hd, show (last - place).toNat = 0 by omega, Nat.shiftLeft_eq]
        have := (cut_between neg (m * 2 ^ d) 0).2.2 (by simp [Nat.mod_one])
        simpa using this
      have hpe : p = d + (e + K) := by omega
      rw [hpe, Nat.pow_add 2 d, ← Nat.mul_assoc, ← hk] at h
      exact Nat.le_of_mul_le_mul_right h (Nat.two_pow_pos _)
    · obtain ⟨d, hd⟩ : ∃ d : Nat, (last - place).toNat = d := ⟨_, rfl⟩
      have hk := cut_between neg (m <<< 0) d
      rw [show (place - last).toNat = 0 by omega, hd] at hkept
      rw [hkept] at hk
      simp only [Nat.shiftLeft_zero] at hk
      have hpe : e + K = d + p := by omega
      rw [hpe, Nat.pow_add 2 d, ← Nat.mul_assoc] at h
      have h1 : m ≤ t * 2 ^ d := Nat.le_of_mul_le_mul_right h (Nat.two_pow_pos _)
      have hdm := Nat.div_add_mod m (2 ^ d)
      have hpd := Nat.two_pow_pos d
      by_cases h0 : m % 2 ^ d = 0
      · rw [hk.2.2 h0]
        exact Nat.div_le_of_le_mul (by rw [Nat.mul_comm]; exact h1)
      · have h3 : m / 2 ^ d < t := by
          rw [Nat.div_lt_iff_lt_mul hpd]
          rcases Nat.lt_or_eq_of_le h1 with h4 | h4
          · exact h4
          · exfalso; rw [h4] at h0; exact h0 (Nat.mul_mod_left _ _)
        omega
  have two53 : (9007199254740992 : Nat) = 2 ^ 53 := by decide
  have two52 : (4503599627370496 : Nat) = 2 ^ 52 := by decide
  have up : ∀ K p : Nat, (p : Int) = place + 1074 + K → m * 2 ^ p ≤ 9007199254740992 * 2 ^ (e + K) := by
    intro K p hp
    have h1 : m * 2 ^ p ≤ 2 ^ (m.log2 + 1) * 2 ^ p := Nat.mul_le_mul_right _ (Nat.le_of_lt hlog2)
    refine Nat.le_trans h1 ?_
    rw [two53, ← Nat.pow_add, ← Nat.pow_add]
    exact Nat.pow_le_pow_right (by omega) (by omega)
  have low : e ≠ 0 → ∀ K p : Nat, (p : Int) = place + 1074 + K → 4503599627370496 * 2 ^ (e + K) ≤ m * 2 ^ p := by
    intro hne K p hp
    have h1 : 2 ^ m.log2 * 2 ^ p ≤ m * 2 ^ p := Nat.mul_le_mul_right _ hlog1
    refine Nat.le_trans ?_ h1
    rw [two52, ← Nat.pow_add, ← Nat.pow_add]
    exact Nat.pow_le_pow_right (by omega) (by omega)
  obtain ⟨K0, p0, hp0⟩ : ∃ K p : Nat, (p : Int) = place + 1074 + K := ⟨(-(place + 1074)).toNat, (place + 1074 + (-(place + 1074)).toNat).toNat, by omega⟩
  have C1 : kept ≤ 9007199254740992 := B _ K0 p0 hp0 (up K0 p0 hp0)
  have C2 : e = 0 ∨ 4503599627370496 ≤ kept := by
    by_cases h : e = 0
    · exact .inl h
    · exact .inr (A _ K0 p0 hp0 (low h K0 p0 hp0))
  have hR := mag_rung e kept C1 C2
  refine ⟨min (e * 4503599627370496 + kept) 9218868437227405312, rfl, Nat.min_le_right _ _, fun K p hp => ⟨?_, ?_⟩⟩
  · intro z hz h
    have key : mag z ≤ mag (e * 4503599627370496 + kept) := by
      rw [hR]
      by_cases hd : 4503599627370496 * 2 ^ e ≤ mag z
      · obtain ⟨t, ht⟩ := mag_dvd z e hd
        rw [ht] at h ⊢
        exact Nat.mul_le_mul_right _ (A t K p hp (by rw [Nat.pow_add, ← Nat.mul_assoc]; exact h))
      · rcases C2 with h0 | h0
        · subst h0
          have := A (mag z) K p hp (by simpa using h)
          simpa using this
        · have := Nat.mul_le_mul_right (2 ^ e) h0
          omega
    rcases Nat.le_total (e * 4503599627370496 + kept) 9218868437227405312 with hc | hc
    · rw [Nat.min_eq_left hc]; exact key
    · rw [Nat.min_eq_right hc]; exact mag_le hz
  · intro z h
    refine Nat.le_trans (mag_le (Nat.min_le_left _ _)) ?_
    rw [hR]
    by_cases hd : 4503599627370496 * 2 ^ e ≤ mag z
    · obtain ⟨t, ht⟩ := mag_dvd z e hd
      rw [ht] at h ⊢
      exact Nat.mul_le_mul_right _ (B t K p hp (by rw [Nat.pow_add, ← Nat.mul_assoc]; exact h))
    · by_cases h0 : e = 0
      · subst h0
        have := B (mag z) K p hp (by simpa using h)
        simpa using this
      · exfalso
        have h1 := low h0 K p hp
        have h2 : mag z * 2 ^ K < 4503599627370496 * 2 ^ e * 2 ^ K := Nat.mul_lt_mul_of_pos_right (by omega) (Nat.two_pow_pos K)
        rw [Nat.mul_assoc, ← Nat.pow_add] at h2
        omega

end Go.Proofs.Ytfopmdnpjokjcaa.Plain
