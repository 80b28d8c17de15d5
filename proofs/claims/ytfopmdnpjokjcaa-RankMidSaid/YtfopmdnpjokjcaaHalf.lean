import Derived.Test.YtfopmdnpjokjcaaFloat
namespace Go.Proofs.Ytfopmdnpjokjcaa.Plain
open Ieee

theorem word_rung (neg : Bool) (R : Nat) (h : R < 9223372036854775808) : double.word neg R % 9223372036854775808 = R := by
  unfold Format.word; rw [d_sign]; cases neg <;> simp <;> omega
theorem word_sgn (neg : Bool) (R : Nat) (h : R < 9223372036854775808) : sgn (double.word neg R) = neg := by
  unfold Format.word sgn; rw [d_sign]; cases neg <;> simp <;> omega
theorem word_lt' (neg : Bool) (R : Nat) (h : R < 9223372036854775808) : double.word neg R < 18446744073709551616 := by
  unfold Format.word; rw [d_sign]; cases neg <;> simp <;> omega
theorem word_val (neg : Bool) (R : Nat) (h : R < 9223372036854775808) : val (double.word neg R) = if neg then -(mag R : Int) else (mag R : Int) := by
  unfold val; rw [word_sgn neg R h, word_rung neg R h]
theorem word_notNaN (neg : Bool) (R : Nat) (h : R ≤ 9218868437227405312) : isNaN (double.word neg R) = false := by
  unfold isNaN; rw [word_rung neg R (by omega)]; exact decide_eq_false (by omega)
theorem word_self (x : Nat) (h : x < 18446744073709551616) : double.word (sgn x) (x % 9223372036854775808) = x := by
  rw [sgn_lt x h]; unfold Format.word; rw [d_sign]
  by_cases hx : 9223372036854775808 ≤ x
  · rw [decide_eq_true hx]; simp; omega
  · rw [decide_eq_false hx]; simp; omega

def two : Nat := 4611686018427387904
theorem read_two : double.read two = .number false 4503599627370496 (-51) := by decide

theorem mant_lt (x : Nat) (h : x % 9223372036854775808 < 9218868437227405312) :
    ∃ m e, double.read x = .number (sgn x) m (-1074 + (e : Nat)) ∧ m * 2 ^ e = mag (x % 9223372036854775808) ∧ m < 9007199254740992 := by
  rw [read_eq]
  by_cases h1 : x % 9223372036854775808 < 4503599627370496
  · rw [if_pos h1]
    exact ⟨_, 0, rfl, by rw [mag, if_pos h1]; simp, by omega⟩
  · rw [if_neg h1, if_pos h]
    exact ⟨_, _, rfl, by rw [mag, if_neg h1], by omega⟩

theorem half_nan (x : Nat) (h : isNaN x = true) : double.div x two = none := by
  obtain ⟨t, hr⟩ := read_nan x (of_decide_eq_true h)
  unfold Format.div; rw [hr]; rfl

theorem half_inf (x : Nat) (hx : x < 18446744073709551616) (h : x % 9223372036854775808 = 9218868437227405312) : double.div x two = some x := by
  unfold Format.div; rw [read_inf x h, read_two]
  simp only [Datum.quotient, Option.map_some, Format.write, d_inf, Bool.xor_false]
  rw [← h, word_self x hx]

theorem half_fin (x : Nat) (h : x % 9223372036854775808 < 9218868437227405312) :
    ∃ R, double.div x two = some (double.word (sgn x) R) ∧ R ≤ x % 9223372036854775808 ∧ (x % 9223372036854775808 = 0 ∨ 9007199254740992 ≤ x % 9223372036854775808 → 2 * mag R = mag (x % 9223372036854775808)) := by
  obtain ⟨m, e, hr, hm, hl⟩ := mant_lt x h
  generalize hrr : x % 9223372036854775808 = r at *
  unfold Format.div
  rw [hr, read_two, show double.fractionBits + 2 = 54 from rfl]
  simp only [Datum.quotient]
  rw [if_neg (by omega)]
  simp only [Option.map_some, Format.write, Bool.xor_false]
  have hlog : m.log2 ≤ 52 := by
    by_cases h0 : m = 0
    · subst h0; decide
    · have h1 : m.log2 < 53 := (Nat.log2_lt h0).2 (by rw [show (2 : Nat) ^ 53 = 9007199254740992 from by decide]; exact hl)
      omega
  rw [show (4503599627370496 : Nat).log2 = 52 from by decide]
  obtain ⟨d, hd⟩ : ∃ d, 54 + 52 - m.log2 = d + 52 := ⟨54 - m.log2, by omega⟩
  rw [hd]
  have e1 : m <<< (d + 52) / 4503599627370496 = m * 2 ^ d := by
    rw [Nat.shiftLeft_eq, Nat.pow_add, ← Nat.mul_assoc, show (2 : Nat) ^ 52 = 4503599627370496 from by decide]
    exact Nat.mul_div_cancel _ (by omega)
  have e2 : m <<< (d + 52) % 4503599627370496 = 0 := by
    rw [Nat.shiftLeft_eq, Nat.pow_add, ← Nat.mul_assoc, show (2 : Nat) ^ 52 = 4503599627370496 from by decide]
    exact Nat.mul_mod_left _ _
  rw [e1, e2]
  simp only [show ((0 : Nat) != 0) = false from rfl, Bool.toNat_false, Nat.add_zero]
  by_cases h0 : m = 0
  · subst h0
    have hr0 : r = 0 := by
      rcases Nat.eq_zero_or_pos r with h1 | h1
      · exact h1
      · have := mag_lt h1; simp at hm; omega
    refine ⟨0, ?_, by omega, fun _ => by rw [hr0]; decide⟩
    unfold Format.nearest
    simp
  · have hne : 2 * (m * 2 ^ d) ≠ 0 := by
      have := Nat.two_pow_pos d
      have : m * 2 ^ d ≠ 0 := Nat.mul_ne_zero h0 (by omega)
      omega
    obtain ⟨R, hR, hRi, hb⟩ := nearest_between (sgn x) (2 * (m * 2 ^ d)) (-1074 + (e : Int) - -51 - ((d + 52 : Nat) : Int) - 1) hne
    refine ⟨R, by rw [hR], ?_, ?_⟩
    · have h2 := (hb (d + 52) (e + 50) (by omega)).2 r (by
        have : 2 * (m * 2 ^ d) * 2 ^ (e + 50) = mag r * 2 ^ (d + 51) := by
          rw [← hm, show d + 51 = d + (1 + 50) by omega, Nat.pow_add 2 e, Nat.pow_add 2 d, Nat.pow_add 2 1]
          simp only [Nat.pow_one, Nat.mul_assoc, Nat.mul_comm, Nat.mul_left_comm]
        rw [this]
        exact Nat.mul_le_mul_left _ (Nat.pow_le_pow_right (by omega) (by omega)))
      rcases Nat.lt_or_ge r R with h3 | h3
      · have := mag_lt h3; omega
      · exact h3
    · intro hx
      have hz : ∃ z, z ≤ 9218868437227405312 ∧ 2 * mag z = mag r := by
        rcases hx with hx | hx
        · exact ⟨0, by omega, by rw [hx]; decide⟩
        · refine ⟨r - 4503599627370496, by omega, ?_⟩
          unfold mag
          rw [if_neg (by omega), if_neg (by omega)]
          have e3 : (r - 4503599627370496) % 4503599627370496 = r % 4503599627370496 := by omega
          have e4 : r / 4503599627370496 - 1 = ((r - 4503599627370496) / 4503599627370496 - 1) + 1 := by omega
          rw [e3, e4, Nat.pow_succ]
          generalize 2 ^ ((r - 4503599627370496) / 4503599627370496 - 1) = q
          rw [Nat.mul_comm q 2]
          exact (Nat.mul_left_comm _ _ _)
      obtain ⟨z, hz1, hz2⟩ := hz
      have key : 2 * (m * 2 ^ d) * 2 ^ (e + 50) = mag z * 2 ^ (d + 52) := by
        have : 2 * (m * 2 ^ d) * 2 ^ (e + 50) = mag r * 2 ^ (d + 51) := by
          rw [← hm, show d + 51 = d + (1 + 50) by omega, Nat.pow_add 2 e, Nat.pow_add 2 d, Nat.pow_add 2 1]
          simp only [Nat.pow_one, Nat.mul_assoc, Nat.mul_comm, Nat.mul_left_comm]
        rw [this, ← hz2, show d + 52 = (d + 51) + 1 by omega, @Nat.pow_succ 2 (d + 51)]
        generalize 2 ^ (d + 51) = q
        rw [Nat.mul_comm 2, Nat.mul_assoc, Nat.mul_comm 2 q]
      have h3 := (hb (d + 52) (e + 50) (by omega)).1 z hz1 (by rw [key]; exact Nat.le_refl _)
      have h4 := (hb (d + 52) (e + 50) (by omega)).2 z (by rw [key]; exact Nat.le_refl _)
      omega

theorem val_fin (x : Nat) : val x = if sgn x then -(mag (x % 9223372036854775808) : Int) else (mag (x % 9223372036854775808) : Int) := rfl

/-- A sum of two finite words: no word lies between it and what they make. -/
theorem sum_fin (x y : Nat) (hx : x % 9223372036854775808 < 9218868437227405312) (hy : y % 9223372036854775808 < 9218868437227405312) :
    ∃ s R, double.add x y = some (double.word s R) ∧ R ≤ 9218868437227405312 ∧
      ∀ z, isNaN z = false → (val z ≤ val x + val y → val z ≤ val (double.word s R)) ∧ (val x + val y ≤ val z → val (double.word s R) ≤ val z) := by
  obtain ⟨m, e, hr, hm⟩ := read_fin x hx
  obtain ⟨n, k, hs, hn⟩ := read_fin y hy
  unfold Format.add
  rw [hr, hs]
  simp only [Datum.sum, Option.map_some]
  have e1 : ((-1074 + (e : Int)) - min (-1074 + (e : Int)) (-1074 + (k : Int))).toNat = e - min e k := by omega
  have e2 : ((-1074 + (k : Int)) - min (-1074 + (e : Int)) (-1074 + (k : Int))).toNat = k - min e k := by omega
  have e3 : min (-1074 + (e : Int)) (-1074 + (k : Int)) = -1074 + ((min e k : Nat) : Int) := by omega
  rw [e1, e2, e3]
  have hV : (signed (sgn x) m (e - min e k) + signed (sgn y) n (k - min e k)) * 2 ^ (min e k) = val x + val y := by
    rw [Int.add_mul, ← signed_scale, ← signed_scale, Nat.sub_add_cancel (by omega), Nat.sub_add_cancel (by omega), signed_val x m e hm, signed_val y n k hn]
  generalize signed (sgn x) m (e - min e k) + signed (sgn y) n (k - min e k) = total at *
  generalize val x + val y = V at *
  generalize min e k = p at *
  have h2p : (0 : Int) < 2 ^ p := by exact_mod_cast Nat.two_pow_pos p
  by_cases h0 : total = 0
  · rw [if_pos h0]
    subst h0
    refine ⟨sgn x && sgn y, 0, ?_, by omega, fun z _ => ?_⟩
    · simp [Format.write, Format.nearest]
    · have hv0 : V = 0 := by rw [← hV]; simp
      have : val (double.word (sgn x && sgn y) 0) = 0 := by
        rw [word_val _ _ (by omega)]; cases (sgn x && sgn y) <;> rfl
      rw [this, hv0]
      exact ⟨id, id⟩
  · rw [if_neg h0]
    obtain ⟨R, hR, hRi, hb⟩ := nearest_between (decide (total < 0)) total.natAbs (-1074 + ((p : Nat) : Int)) (by omega)
    have hb := hb 0 p (by omega)
    simp only [Nat.pow_zero, Nat.mul_one] at hb
    refine ⟨decide (total < 0), R, by simp only [Format.write]; rw [hR], hRi, fun z hz => ?_⟩
    have hz' : z % 9223372036854775808 ≤ 9218868437227405312 := by
      have := of_decide_eq_false hz; omega
    rw [word_val _ _ (by omega), val_fin z]
    have hab : ((total.natAbs * 2 ^ p : Nat) : Int) = (total.natAbs : Int) * 2 ^ p := by
      rw [Int.natCast_mul, Int.natCast_pow]; rfl
    have hb1 := hb.1 (z % 9223372036854775808) hz'
    have hb2 := hb.2 (z % 9223372036854775808)
    generalize mag (z % 9223372036854775808) = Z at *
    generalize mag R = M at *
    by_cases hneg : total < 0
    · have hA : (total.natAbs : Int) = -total := by omega
      rw [hA, Int.neg_mul, hV] at hab
      have hVn : V < 0 := by rw [← hV]; exact Int.mul_neg_of_neg_of_pos hneg h2p
      rw [decide_eq_true hneg]
      generalize total.natAbs * 2 ^ p = Q at *
      cases sgn z
      · simp only [Bool.false_eq_true, if_false, if_true]
        exact ⟨fun h => by omega, fun h => by omega⟩
      · simp only [if_true]
        exact ⟨fun h => by have := hb2 (by omega); omega, fun h => by have := hb1 (by omega); omega⟩
    · have hA : (total.natAbs : Int) = total := by omega
      rw [hA, hV] at hab
      have hVp : 0 < V := by rw [← hV]; exact Int.mul_pos (by omega) h2p
      rw [decide_eq_false hneg]
      generalize total.natAbs * 2 ^ p = Q at *
      cases sgn z
      · simp only [Bool.false_eq_true, if_false]
        exact ⟨fun h => by have := hb1 (by omega); omega, fun h => by have := hb2 (by omega); omega⟩
      · simp only [Bool.false_eq_true, if_false, if_true]
        exact ⟨fun h => by omega, fun h => by omega⟩

end Go.Proofs.Ytfopmdnpjokjcaa.Plain
