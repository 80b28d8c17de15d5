import Ieee.Arith
namespace Go.Proofs.Ytfopmdnpjokjcaa.Plain
open Ieee

/-- The magnitude of a rung, in units of the least place; infinity's is above all. -/
def mag (r : Nat) : Nat := if r < 4503599627370496 then r else (4503599627370496 + r % 4503599627370496) * 2 ^ (r / 4503599627370496 - 1)

theorem mag_step (r : Nat) : mag r < mag (r + 1) := by
  unfold mag
  by_cases h1 : r + 1 < 4503599627370496
  · rw [if_pos (by omega), if_pos h1]; omega
  · rw [if_neg h1]
    by_cases h0 : r < 4503599627370496
    · obtain rfl : r = 4503599627370495 := by omega
      decide
    · rw [if_neg h0]
      have hq : 1 ≤ r / 4503599627370496 := by omega
      generalize hqq : r / 4503599627370496 = q at *
      by_cases ht : r % 4503599627370496 + 1 < 4503599627370496
      · have e1 : (r + 1) / 4503599627370496 = q := by omega
        have e2 : (r + 1) % 4503599627370496 = r % 4503599627370496 + 1 := by omega
        rw [e1, e2]
        exact Nat.mul_lt_mul_of_pos_right (by omega) (Nat.two_pow_pos _)
      · have e1 : (r + 1) / 4503599627370496 = (q - 1) + 1 + 1 := by omega
        have e2 : (r + 1) % 4503599627370496 = 0 := by omega
        have e3 : r % 4503599627370496 = 4503599627370495 := by omega
        rw [e1, e2, e3, Nat.add_sub_cancel, Nat.pow_succ]
        have := Nat.two_pow_pos (q - 1)
        generalize 2 ^ (q - 1) = z at *
        omega

theorem mag_add (r d : Nat) : mag r < mag (r + d + 1) := by
  induction d with
  | zero => exact mag_step r
  | succ d ih => exact Nat.lt_trans ih (mag_step _)

theorem mag_lt {r s : Nat} (h : r < s) : mag r < mag s := by
  obtain ⟨d, rfl⟩ := Nat.exists_eq_add_of_lt h
  exact mag_add r d

theorem mag_lt_iff {r s : Nat} : mag r < mag s ↔ r < s := by
  constructor
  · intro h
    rcases Nat.lt_trichotomy r s with h1 | h1 | h1
    · exact h1
    · subst h1; omega
    · have := mag_lt h1; omega
  · exact mag_lt

theorem mag_inj {r s : Nat} (h : mag r = mag s) : r = s := by
  rcases Nat.lt_trichotomy r s with h1 | h1 | h1
  · have := mag_lt h1; omega
  · exact h1
  · have := mag_lt h1; omega

def isNaN (x : Nat) : Bool := decide (9218868437227405312 < x % 9223372036854775808)
def sgn (x : Nat) : Bool := x / 9223372036854775808 % 2 == 1
def val (x : Nat) : Int := if sgn x then -(mag (x % 9223372036854775808) : Int) else (mag (x % 9223372036854775808) : Int)

theorem d_binade : double.binade = 4503599627370496 := by decide
theorem d_inf : double.infRung = 9218868437227405312 := by decide
theorem d_sign : double.signWeight = 9223372036854775808 := by decide
theorem d_least : double.leastPlace = -1074 := by decide

/-- A word, read. -/
theorem read_eq (x : Nat) : double.read x =
    if x % 9223372036854775808 < 4503599627370496 then .number (sgn x) (x % 9223372036854775808) (-1074)
    else if x % 9223372036854775808 < 9218868437227405312 then .number (sgn x) (4503599627370496 + x % 9223372036854775808 % 4503599627370496) (-1074 + (x % 9223372036854775808 / 4503599627370496 - 1 : Nat))
    else if x % 9223372036854775808 = 9218868437227405312 then .infinity (sgn x)
    else .nan (sgn x) (x % 9223372036854775808 - 9218868437227405312) := by
  simp only [Format.read, d_binade, d_inf, d_sign, d_least, sgn]

/-- A finite word is a number whose size in units of the least place is 'mag'. -/
theorem read_fin (x : Nat) (h : x % 9223372036854775808 < 9218868437227405312) :
    ∃ m e, double.read x = .number (sgn x) m (-1074 + (e : Nat)) ∧ m * 2 ^ e = mag (x % 9223372036854775808) := by
  rw [read_eq]
  by_cases h1 : x % 9223372036854775808 < 4503599627370496
  · rw [if_pos h1]
    exact ⟨_, 0, rfl, by rw [mag, if_pos h1]; simp⟩
  · rw [if_neg h1, if_pos h]
    exact ⟨_, _, rfl, by rw [mag, if_neg h1]⟩

theorem read_inf (x : Nat) (h : x % 9223372036854775808 = 9218868437227405312) : double.read x = .infinity (sgn x) := by
  rw [read_eq, if_neg (by omega), if_neg (by omega), if_pos h]

theorem read_nan (x : Nat) (h : 9218868437227405312 < x % 9223372036854775808) : ∃ t, double.read x = .nan (sgn x) t := by
  rw [read_eq, if_neg (by omega), if_neg (by omega), if_neg (by omega)]
  exact ⟨_, rfl⟩

theorem compare_scale (a b : Int) (k : Nat) : compare (a * 2 ^ k) (b * 2 ^ k) = compare a b := by
  have hp : (0 : Int) < 2 ^ k := by exact_mod_cast Nat.two_pow_pos k
  rcases Int.lt_trichotomy a b with h | h | h
  · rw [Int.compare_eq_lt.2 h, Int.compare_eq_lt.2 (Int.mul_lt_mul_of_pos_right h hp)]
  · subst h; simp
  · rw [Int.compare_eq_gt.2 h, Int.compare_eq_gt.2 (Int.mul_lt_mul_of_pos_right h hp)]

theorem signed_scale (s : Bool) (m u k : Nat) : signed s m (u + k) = signed s m u * 2 ^ k := by
  unfold signed
  cases s <;> simp [Nat.shiftLeft_eq, Nat.pow_add, Int.mul_assoc, Int.neg_mul]

theorem signed_val (x m e : Nat) (h : m * 2 ^ e = mag (x % 9223372036854775808)) : signed (sgn x) m e = val x := by
  unfold signed val
  rw [Nat.shiftLeft_eq, h]

/-- The order of two words: none with what is no number; else that of what they stand for. -/
theorem order_eq (x y : Nat) : double.order x y = if isNaN x || isNaN y then none else some (compare (val x) (val y)) := by
  unfold Format.order
  by_cases hx : 9218868437227405312 < x % 9223372036854775808
  · obtain ⟨t, hr⟩ := read_nan x hx
    rw [hr]
    simp [isNaN, hx, Datum.order]
  by_cases hy : 9218868437227405312 < y % 9223372036854775808
  · obtain ⟨t, hr⟩ := read_nan y hy
    rw [hr]
    simp [isNaN, hy]
    cases double.read x <;> rfl
  have h : (isNaN x || isNaN y) = false := by simp [isNaN, hx, hy]
  rw [h]
  simp only [Bool.false_eq_true, if_false]
  by_cases ix : x % 9223372036854775808 = 9218868437227405312 <;> by_cases iy : y % 9223372036854775808 = 9218868437227405312
  · rw [read_inf x ix, read_inf y iy]
    simp only [Datum.order, val, ix, iy]
    have hp : 0 < mag 9218868437227405312 := by
      have := mag_lt (r := 0) (s := 9218868437227405312) (by omega); omega
    generalize mag 9218868437227405312 = M at *
    cases sgn x <;> cases sgn y <;> simp
    · exact Int.compare_eq_gt.2 (by omega) |>.symm
    · exact Int.compare_eq_lt.2 (by omega) |>.symm
  · obtain ⟨m, e, hr, hm⟩ := read_fin y (by omega)
    rw [read_inf x ix, hr]
    have hl := mag_lt (r := y % 9223372036854775808) (s := x % 9223372036854775808) (by omega)
    simp only [Datum.order, val]
    generalize mag (y % 9223372036854775808) = M at *
    generalize mag (x % 9223372036854775808) = N at *
    cases sgn x <;> cases sgn y <;> simp
    · exact Int.compare_eq_gt.2 (by omega) |>.symm
    · exact Int.compare_eq_gt.2 (by omega) |>.symm
    · exact Int.compare_eq_lt.2 (by omega) |>.symm
    · exact Int.compare_eq_lt.2 (by omega) |>.symm
  · obtain ⟨m, e, hr, hm⟩ := read_fin x (by omega)
    rw [read_inf y iy, hr]
    have hl := mag_lt (r := x % 9223372036854775808) (s := y % 9223372036854775808) (by omega)
    simp only [Datum.order, val]
    generalize mag (y % 9223372036854775808) = M at *
    generalize mag (x % 9223372036854775808) = N at *
    cases sgn x <;> cases sgn y <;> simp
    · exact Int.compare_eq_lt.2 (by omega) |>.symm
    · exact Int.compare_eq_gt.2 (by omega) |>.symm
    · exact Int.compare_eq_lt.2 (by omega) |>.symm
    · exact Int.compare_eq_gt.2 (by omega) |>.symm
  · obtain ⟨m, e, hr, hm⟩ := read_fin x (by omega)
    obtain ⟨n, k, hs, hn⟩ := read_fin y (by omega)
    rw [hr, hs]
    refine congrArg some ?_
    have e1 : ((-1074 + (e : Int)) - min (-1074 + (e : Int)) (-1074 + (k : Int))).toNat = e - min e k := by omega
    have e2 : ((-1074 + (k : Int)) - min (-1074 + (e : Int)) (-1074 + (k : Int))).toNat = k - min e k := by omega
    rw [e1, e2, ← compare_scale _ _ (min e k), ← signed_scale, ← signed_scale, Nat.sub_add_cancel (by omega), Nat.sub_add_cancel (by omega), signed_val x m e hm, signed_val y n k hn]

def keyN (x : Nat) : Nat := if isNaN x then 18446744073709551615 else if 9223372036854775808 ≤ x then 18446744073709551615 - x else x + 9223372036854775808

theorem keyN_lt (x : Nat) (h : x < 18446744073709551616) : keyN x < 18446744073709551616 := by
  unfold keyN; split
  · omega
  · split <;> omega

theorem sgn_lt (x : Nat) (h : x < 18446744073709551616) : sgn x = decide (9223372036854775808 ≤ x) := by
  unfold sgn
  by_cases hx : 9223372036854775808 ≤ x
  · rw [decide_eq_true hx]; simp; omega
  · rw [decide_eq_false hx]; simp; omega

/-- Below one another as numbers: as keys, too. -/
theorem key_lt_of_val {x y : Nat} (hx : x < 18446744073709551616) (hy : y < 18446744073709551616) (nx : isNaN x = false) (ny : isNaN y = false) (h : val x < val y) : keyN x < keyN y := by
  unfold val at h
  rw [sgn_lt x hx, sgn_lt y hy] at h
  unfold keyN
  rw [nx, ny]
  simp only [Bool.false_eq_true, if_false]
  unfold isNaN at nx ny
  have nx' := of_decide_eq_false nx
  have ny' := of_decide_eq_false ny
  by_cases sx : 9223372036854775808 ≤ x <;> by_cases sy : 9223372036854775808 ≤ y
  · rw [if_pos sx, if_pos sy]
    simp only [sx, sy, decide_true, if_true] at h
    have := (mag_lt_iff (r := y % 9223372036854775808) (s := x % 9223372036854775808)).1 (by omega)
    omega
  · rw [if_pos sx, if_neg sy]; omega
  · rw [decide_eq_false sx, decide_eq_true sy] at h
    simp at h
    omega
  · rw [if_neg sx, if_neg sy]
    rw [decide_eq_false sx, decide_eq_false sy] at h
    simp at h
    have := (mag_lt_iff (r := x % 9223372036854775808) (s := y % 9223372036854775808)).1 h
    omega

/-- The same number: the same word, or two zeros. -/
theorem val_eq {x y : Nat} (hx : x < 18446744073709551616) (hy : y < 18446744073709551616) (h : val x = val y) : x = y ∨ x % 9223372036854775808 = 0 ∧ y % 9223372036854775808 = 0 := by
  unfold val at h
  rw [sgn_lt x hx, sgn_lt y hy] at h
  have z : ∀ r, mag r = 0 → r = 0 := fun r h0 => by
    rcases Nat.eq_zero_or_pos r with h1 | h1
    · exact h1
    · have := mag_lt h1; omega
  by_cases sx : 9223372036854775808 ≤ x <;> by_cases sy : 9223372036854775808 ≤ y
  · simp only [sx, sy, decide_true, if_true] at h
    have := mag_inj (r := x % 9223372036854775808) (s := y % 9223372036854775808) (by omega)
    omega
  · rw [decide_eq_true sx, decide_eq_false sy] at h
    simp only [if_true, Bool.false_eq_true, if_false] at h
    exact .inr ⟨z _ (by omega), z _ (by omega)⟩
  · rw [decide_eq_false sx, decide_eq_true sy] at h
    simp only [if_true, Bool.false_eq_true, if_false] at h
    exact .inr ⟨z _ (by omega), z _ (by omega)⟩
  · rw [decide_eq_false sx, decide_eq_false sy] at h
    simp only [Bool.false_eq_true, if_false] at h
    have := mag_inj (r := x % 9223372036854775808) (s := y % 9223372036854775808) (by omega)
    omega

end Go.Proofs.Ytfopmdnpjokjcaa.Plain
