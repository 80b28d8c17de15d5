import Derived.Test.YtfopmdnpjokjcaaMid2
import Derived.Test.YtfopmdnpjokjcaaOf2
import Derived.Test.YtfopmdnpjokjcaaWEdges
namespace Go.Proofs.Ytfopmdnpjokjcaa
open Go.RowKit Plain

theorem sum_comm (x y : Ieee.Datum) : x.sum y = y.sum x := by
  match x, y with
  | .nan .., .nan .. => rfl
  | .nan .., .infinity _ => rfl
  | .nan .., .number .. => rfl
  | .infinity _, .nan .. => rfl
  | .number .., .nan .. => rfl
  | .infinity s, .infinity t => cases s <;> cases t <;> rfl
  | .infinity _, .number .. => rfl
  | .number .., .infinity _ => rfl
  | .number s m e, .number t n k =>
    simp only [Ieee.Datum.sum]
    rw [Int.min_comm e k, Int.add_comm, Bool.and_comm]
theorem add_comm' (x y : Nat) : Ieee.double.add x y = Ieee.double.add y x := by
  unfold Ieee.Format.add; rw [sum_comm]
theorem midN_comm (a b : Nat) : midN a b = midN b a := by
  unfold midN
  cases Ieee.double.div a two <;> cases Ieee.double.div b two <;> simp [add_comm']

theorem andNot_sign (x : Nat) (hx : x < 18446744073709551616) : bits .andNot .u64 (x : Int) 9223372036854775808 = ((x % 9223372036854775808 : Nat) : Int) := by
  have h1 := u64_andNot_nat x 9223372036854775808 hx (by omega)
  have h2 : x &&& (18446744073709551615 - 9223372036854775808) = x % 9223372036854775808 := Nat.and_two_pow_sub_one_eq_mod x 63
  rw [h2] at h1
  exact h1

theorem abs_any (x : Nat) (hx : x < 18446744073709551616) (w : World) :
    Calls Try.prog 27 #[.float .f64 x] w fun e w' => e = .returned (.float .f64 (x % 9223372036854775808)) ∧ w = w' := by
  have h := andNot_sign x hx
  go_enter Try.func27, Try.ntmps27
  go_wp2
  go_ret
  exact ⟨rfl, rfl⟩

theorem isInf_any (x : Nat) (hx : x < 18446744073709551616) (w : World) :
    Calls Try.prog 26 #[.float .f64 x, .int .i64 0] w fun e w' => e = .returned (.bool (isInf x)) ∧ w = w' := by
  have h := gt_max (x % 9223372036854775808) (by omega)
  have h1 : isInf (x % 9223372036854775808) = isInf x := by unfold isInf; rw [Nat.mod_mod]
  have h2 : sgn (x % 9223372036854775808) = false := by
    unfold sgn; rw [beq_eq_false_iff_ne]; omega
  rw [h1, h2, Bool.not_false, Bool.and_true] at h
  have HX := hide hx
  clear hx h1 h2
  go_enter Try.func26, Try.ntmps26
  go_wp2_with (go_at_call 27; refine (abs_any _ HX.out _).mono ?_; rintro e w' ⟨rfl, rfl⟩)
  go_ret
  exact ⟨rfl, rfl⟩

theorem val_max {a b : Nat} (na : isNaN a = false) (nb : isNaN b = false) : ∃ m, isNaN m = false ∧ val m = max (val a) (val b) ∧ ∀ (w : World) (ts : Array TypeId) (t : TypeId), (Builtin.max_ ts t #[.float .f64 a, .float .f64 b]).run Try.prog w = .ok (.float .f64 m) w := by
  have ho : FloatKind.f64.format.order a b = some (compare (val a) (val b)) := by
    show Ieee.double.order a b = _
    rw [order_eq, na, nb]; rfl
  rcases Int.lt_trichotomy (val a) (val b) with h | h | h
  · rw [Int.compare_eq_lt.2 h] at ho
    exact ⟨b, nb, by omega, fun w ts t => by simp [Builtin.max_, Builtin.max2, ho]⟩
  · rw [Int.compare_eq_eq.2 h] at ho
    by_cases hs : (FloatKind.f64.decode a).neg = true
    · exact ⟨b, nb, by omega, fun w ts t => by simp [Builtin.max_, Builtin.max2, ho, hs]⟩
    · exact ⟨a, na, by omega, fun w ts t => by simp [Builtin.max_, Builtin.max2, ho, hs]⟩
  · rw [Int.compare_eq_gt.2 h] at ho
    exact ⟨a, na, by omega, fun w ts t => by simp [Builtin.max_, Builtin.max2, ho]⟩
theorem val_min {a b : Nat} (na : isNaN a = false) (nb : isNaN b = false) : ∃ m, isNaN m = false ∧ val m = min (val a) (val b) ∧ ∀ (w : World) (ts : Array TypeId) (t : TypeId), (Builtin.min_ ts t #[.float .f64 a, .float .f64 b]).run Try.prog w = .ok (.float .f64 m) w := by
  have ho : FloatKind.f64.format.order a b = some (compare (val a) (val b)) := by
    show Ieee.double.order a b = _
    rw [order_eq, na, nb]; rfl
  rcases Int.lt_trichotomy (val a) (val b) with h | h | h
  · rw [Int.compare_eq_lt.2 h] at ho
    exact ⟨a, na, by omega, fun w ts t => by simp [Builtin.min_, Builtin.min2, ho]⟩
  · rw [Int.compare_eq_eq.2 h] at ho
    by_cases hs : (FloatKind.f64.decode a).neg = true
    · exact ⟨a, na, by omega, fun w ts t => by simp [Builtin.min_, Builtin.min2, ho, hs]⟩
    · exact ⟨b, nb, by omega, fun w ts t => by simp [Builtin.min_, Builtin.min2, ho, hs]⟩
  · rw [Int.compare_eq_gt.2 h] at ho
    exact ⟨b, nb, by omega, fun w ts t => by simp [Builtin.min_, Builtin.min2, ho]⟩
theorem order_le {a b : Nat} (na : isNaN a = false) (nb : isNaN b = false) (h : val a ≤ val b) : (FloatKind.f64.format.order a b == some .lt || FloatKind.f64.format.order a b == some .eq) = true := by
  have ho : FloatKind.f64.format.order a b = some (compare (val a) (val b)) := by
    show Ieee.double.order a b = _
    rw [order_eq, na, nb]; rfl
  rw [ho]
  rcases Int.lt_or_eq_of_le h with h | h
  · rw [Int.compare_eq_lt.2 h]; rfl
  · rw [Int.compare_eq_eq.2 h]; rfl

theorem half_val {a : Nat} (na : isNaN a = false) (ia : isInf a = false) (h : a % 9223372036854775808 = 0 ∨ 103582791429521408 ≤ a % 9223372036854775808) :
    ∀ x, Ieee.double.div a two = some x → 2 * val x = val a := by
  intro x hx
  obtain ⟨R, hR, hle, he⟩ := half_fin a (fin_rung na ia)
  rw [hR] at hx
  have hf := fin_rung na ia
  injection hx with hx
  have := he (by omega)
  rw [← hx, word_val _ _ (by omega), val_fin a]
  cases sgn a <;> simp <;> omega

theorem mid_between {a b r : Nat} (ha : a < 18446744073709551616) (hb : b < 18446744073709551616) (na : isNaN a = false) (nb : isNaN b = false) (hi : ¬ (isInf a = true ∧ isInf b = true))
    (ca : a % 9223372036854775808 = 0 ∨ 103582791429521408 ≤ a % 9223372036854775808) (cb : b % 9223372036854775808 = 0 ∨ 103582791429521408 ≤ b % 9223372036854775808)
    (hr : ∀ m, midN a b = some m → r = m) : isNaN r = false ∧ min (val a) (val b) ≤ val r ∧ val r ≤ max (val a) (val b) := by
  cases ia : isInf a
  · cases ib : isInf b
    · obtain ⟨x, y, z, h1, h2, h3, h4, h5, h6⟩ := midN_fins na ia nb ib
      have e1 := half_val na ia ca x h1
      have e2 := half_val nb ib cb y h2
      have := hr z h4
      subst this
      refine ⟨h5, ?_, ?_⟩
      · by_cases hc : val a ≤ val b
        · have := (h6 a na).1 (by omega); omega
        · have := (h6 b nb).1 (by omega); omega
      · by_cases hc : val a ≤ val b
        · have := (h6 b nb).2 (by omega); omega
        · have := (h6 a na).2 (by omega); omega
    · have := hr b (midN_inf_right hb na ia ib)
      subst this
      exact ⟨nb, by omega, by omega⟩
  · cases ib : isInf b
    · have := hr a (midN_inf_left ha ia nb ib)
      subst this
      exact ⟨na, by omega, by omega⟩
    · exact absurd ⟨ia, ib⟩ hi

/-- What the law asks about a number that is not none: it is 0, or it is below the least, or its half is a number. -/
theorem small {a : Nat} (na : isNaN a = false) :
    (FloatKind.f64.format.order a 0 != some .eq) = false ∧ a % 9223372036854775808 = 0 ∨
    (FloatKind.f64.format.order a 0 != some .eq) = true ∧ (FloatKind.f64.format.order (a % 9223372036854775808) 103582791429521408 == some .lt) = true ∨
    (FloatKind.f64.format.order a 0 != some .eq) = true ∧ (FloatKind.f64.format.order (a % 9223372036854775808) 103582791429521408 == some .lt) = false ∧ 103582791429521408 ≤ a % 9223372036854775808 := by
  have n0 : isNaN 0 = false := by decide
  have nl : isNaN 103582791429521408 = false := by decide
  have nm : isNaN (a % 9223372036854775808) = false := by unfold isNaN at na ⊢; rw [Nat.mod_mod]; exact na
  have o1 : FloatKind.f64.format.order a 0 = some (compare (val a) (val 0)) := by
    show Ieee.double.order a _ = _
    rw [order_eq, na, n0]; rfl
  have o2 : FloatKind.f64.format.order (a % 9223372036854775808) 103582791429521408 = some (compare (val (a % 9223372036854775808)) (val 103582791429521408)) := by
    show Ieee.double.order _ _ = _
    rw [order_eq, nm, nl]; rfl
  have v0 : val 0 = 0 := by decide
  have vl : val 103582791429521408 = (mag 103582791429521408 : Int) := by decide
  have sm : sgn (a % 9223372036854775808) = false := by unfold sgn; rw [beq_eq_false_iff_ne]; omega
  have vm : val (a % 9223372036854775808) = (mag (a % 9223372036854775808) : Int) := by
    rw [val_fin, sm, Nat.mod_mod]; rfl
  have va := val_fin a
  have m0 : mag 0 = 0 := by decide
  rw [o1, o2, v0, vl, vm]
  by_cases h0 : a % 9223372036854775808 = 0
  · left
    rw [h0, m0] at va
    have : val a = 0 := by rw [va]; split <;> rfl
    rw [this]
    exact ⟨by decide, h0⟩
  · have hp : 0 < mag (a % 9223372036854775808) := by
      have := mag_lt (r := 0) (s := a % 9223372036854775808) (by omega); omega
    have hne : val a ≠ 0 := by rw [va]; split <;> omega
    have hc : (some (compare (val a) 0) != some Ordering.eq) = true := by
      rw [bne_iff_ne]; intro h; injection h with h; exact hne (Int.compare_eq_eq.1 h)
    by_cases hl : a % 9223372036854775808 < 103582791429521408
    · right; left
      refine ⟨hc, ?_⟩
      have := mag_lt hl
      rw [Int.compare_eq_lt.2 (by omega)]; rfl
    · right; right
      refine ⟨hc, ?_, by omega⟩
      have := mag_le (r := 103582791429521408) (s := a % 9223372036854775808) (by omega)
      rw [beq_eq_false_iff_ne]; intro h; injection h with h
      have := Int.compare_eq_lt.1 h; omega
end Go.Proofs.Ytfopmdnpjokjcaa
