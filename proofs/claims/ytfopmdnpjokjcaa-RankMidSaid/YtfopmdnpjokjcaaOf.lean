import Derived.Test.YtfopmdnpjokjcaaKey
namespace Go.Proofs.Ytfopmdnpjokjcaa
open Go.RowKit Plain

theorem ret_f64 {a b : Nat} (h : a = b) : Ending.returned (.float .f64 a) = .returned (.float .f64 b) := by rw [h]
theorem ret_u64 {a b : Int} (h : a = b) : Ending.returned (.int .u64 a) = .returned (.int .u64 b) := by rw [h]

theorem nan_any (w : World) : Calls Try.prog 18 #[] w fun e w' => e = .returned (.float .f64 9221120237041090561) ∧ w = w' := by
  go_enter Try.func18, Try.ntmps18
  go_wp2
  go_ret
  exact ⟨rfl, rfl⟩

theorem inf_any (w : World) : Calls Try.prog 28 #[.int .i64 1] w fun e w' => e = .returned (.float .f64 9218868437227405312) ∧ w = w' := by
  go_enter Try.func28, Try.ntmps28
  go_wp2
  go_ret
  exact ⟨rfl, rfl⟩

theorem rnone_any (x : Nat) (w : World) :
    Calls Try.prog 36 #[.float .f64 x] w fun e w' => e = .returned (.bool (isNaN x)) ∧ w = w' := by
  have hs := order_self x
  go_enter Try.func36, Try.ntmps36
  go_wp2
  go_ret
  exact ⟨rfl, rfl⟩

/-- Whether a word is an infinity, or below it: by its size alone. -/
def isInf (x : Nat) : Bool := decide (x % 9223372036854775808 = 9218868437227405312)

theorem gt_max (x : Nat) (hx : x < 18446744073709551616) : (FloatKind.f64.format.order x 9218868437227405311 == some .gt) = (isInf x && !sgn x) := by
  show (Ieee.double.order x 9218868437227405311 == some .gt) = _
  rw [order_eq]
  have hy : isNaN 9218868437227405311 = false := by decide
  rw [hy, Bool.or_false]
  cases hn : isNaN x
  · simp only [Bool.false_eq_true, if_false]
    unfold isNaN at hn
    have hn' := of_decide_eq_false hn
    have hv : val 9218868437227405311 = (mag 9218868437227405311 : Int) := by
      unfold val; rw [show sgn 9218868437227405311 = false by decide]; rfl
    unfold isInf
    cases hs : sgn x
    · have hvx : val x = (mag (x % 9223372036854775808) : Int) := by unfold val; rw [hs]; rfl
      rw [hv, hvx]
      by_cases hi : x % 9223372036854775808 = 9218868437227405312
      · have := mag_lt (r := 9218868437227405311) (s := x % 9223372036854775808) (by omega)
        rw [Int.compare_eq_gt.2 (by omega), decide_eq_true hi]; rfl
      · have : ¬ mag 9218868437227405311 < mag (x % 9223372036854775808) := fun h => by
          have := mag_lt_iff.1 h; omega
        rw [decide_eq_false hi]
        cases hc : compare (mag (x % 9223372036854775808) : Int) (mag 9218868437227405311 : Int)
        · rfl
        · rfl
        · have := Int.compare_eq_gt.1 hc; omega
    · have hvx : val x = -(mag (x % 9223372036854775808) : Int) := by unfold val; rw [hs]; rfl
      rw [hv, hvx, Bool.not_true, Bool.and_false]
      have := mag_lt (r := 0) (s := 9218868437227405311) (by omega)
      rw [Int.compare_eq_lt.2 (by omega)]; rfl
  · simp only [if_true]
    unfold isNaN at hn
    have hn' := of_decide_eq_true hn
    unfold isInf
    rw [decide_eq_false (by omega)]; rfl

theorem lt_min (x : Nat) (hx : x < 18446744073709551616) : (FloatKind.f64.format.order x 18442240474082181119 == some .lt) = (isInf x && sgn x) := by
  show (Ieee.double.order x 18442240474082181119 == some .lt) = _
  rw [order_eq]
  have hy : isNaN 18442240474082181119 = false := by decide
  rw [hy, Bool.or_false]
  cases hn : isNaN x
  · simp only [Bool.false_eq_true, if_false]
    unfold isNaN at hn
    have hn' := of_decide_eq_false hn
    have hv : val 18442240474082181119 = -(mag 9218868437227405311 : Int) := by
      unfold val; rw [show sgn 18442240474082181119 = true by decide]; rfl
    unfold isInf
    cases hs : sgn x
    · have hvx : val x = (mag (x % 9223372036854775808) : Int) := by unfold val; rw [hs]; rfl
      rw [hv, hvx, Bool.and_false]
      have := mag_lt (r := 0) (s := 9218868437227405311) (by omega)
      rw [Int.compare_eq_gt.2 (by omega)]; rfl
    · have hvx : val x = -(mag (x % 9223372036854775808) : Int) := by unfold val; rw [hs]; rfl
      rw [hv, hvx]
      by_cases hi : x % 9223372036854775808 = 9218868437227405312
      · have := mag_lt (r := 9218868437227405311) (s := x % 9223372036854775808) (by omega)
        rw [Int.compare_eq_lt.2 (by omega), decide_eq_true hi]; rfl
      · have : ¬ mag 9218868437227405311 < mag (x % 9223372036854775808) := fun h => by
          have := mag_lt_iff.1 h; omega
        rw [decide_eq_false hi]
        cases hc : compare (-(mag (x % 9223372036854775808) : Int)) (-(mag 9218868437227405311 : Int))
        · have := Int.compare_eq_lt.1 hc; omega
        · rfl
        · rfl
  · simp only [if_true]
    unfold isNaN at hn
    have hn' := of_decide_eq_true hn
    unfold isInf
    rw [decide_eq_false (by omega)]; rfl

theorem endless_any (x : Nat) (hx : x < 18446744073709551616) (w : World) :
    Calls Try.prog 37 #[.float .f64 x] w fun e w' => e = .returned (.bool (isInf x)) ∧ w = w' := by
  have h1 := gt_max x hx
  have h2 := lt_min x hx
  cases hi : isInf x <;> cases hs : sgn x
  all_goals
    rw [hi, hs] at h1 h2
    simp only [Bool.and_true, Bool.and_false, Bool.not_true, Bool.not_false] at h1 h2
    go_enter Try.func37, Try.ntmps37
    go_wp2
    go_ret
    exact ⟨rfl, rfl⟩

theorem rkey_any (x : Nat) (hx : x < 18446744073709551616) (w : World) :
    Calls Try.prog 21 #[.float .f64 x] w fun e w' => e = .returned (.int .u64 (keyN x)) ∧ w = w' := by
  cases hn : isNaN x
  · by_cases h3 : 9223372036854775808 ≤ x
    · have hk : Hid ((keyN x : Int) = 18446744073709551615 - x) := by
        unfold keyN Hid; rw [hn]; simp only [Bool.false_eq_true, if_false]; rw [if_pos h3]; omega
      have hl : decide ((x : Int) < 9223372036854775808) = false := decide_eq_false (by omega)
      clear h3
      go_enter Try.func21, Try.ntmps21
      go_wp2_with (first | (go_at_call 36; refine (rnone_any _ _).mono ?_; rintro e w' ⟨rfl, rfl⟩))
      go_ret
      exact ⟨ret_u64 (by rw [hk.out]), rfl⟩
    · have hk : Hid ((keyN x : Int) = x + 9223372036854775808) := by
        unfold keyN Hid; rw [hn]; simp only [Bool.false_eq_true, if_false]; rw [if_neg h3]; omega
      have hl : (x : Int) < 9223372036854775808 := by omega
      clear h3
      go_enter Try.func21, Try.ntmps21
      go_wp2_with (first | (go_at_call 36; refine (rnone_any _ _).mono ?_; rintro e w' ⟨rfl, rfl⟩))
      go_ret
      exact ⟨ret_u64 (by rw [hk.out]), rfl⟩
  · have HK : Hid ((keyN x : Int) = 18446744073709551615) := by unfold keyN Hid; rw [hn]; rfl
    go_enter Try.func21, Try.ntmps21
    go_wp2_with (first | (go_at_call 36; refine (rnone_any _ _).mono ?_; rintro e w' ⟨rfl, rfl⟩))
    go_ret
    exact ⟨ret_u64 (by rw [HK.out]), rfl⟩

theorem rsame_any (x y : Nat) (hx : x < 18446744073709551616) (hy : y < 18446744073709551616) (w : World) :
    Calls Try.prog 22 #[.float .f64 x, .float .f64 y] w fun e w' => e = .returned (.bool ((keyN x : Int) == (keyN y : Int))) ∧ w = w' := by
  go_enter Try.func22, Try.ntmps22
  go_wp2_with fail
  refine (rkey_any x hx _).mono ?_; rintro e w' ⟨rfl, rfl⟩
  go_wp2_with fail
  refine (rkey_any y hy _).mono ?_; rintro e w' ⟨rfl, rfl⟩
  go_wp2_with fail
  go_ret
  exact ⟨rfl, rfl⟩

theorem rcmp_any (x y : Nat) (hx : x < 18446744073709551616) (hy : y < 18446744073709551616) (w : World) :
    Calls Try.prog 23 #[.float .f64 x, .float .f64 y] w fun e w' => e = .returned (.int .i64 (cmpInt (keyN x) (keyN y))) ∧ w = w' := by
  go_enter Try.func23, Try.ntmps23
  go_wp2_with fail
  refine (rkey_any x hx _).mono ?_; rintro e w' ⟨rfl, rfl⟩
  go_wp2_with fail
  refine (rkey_any y hy _).mono ?_; rintro e w' ⟨rfl, rfl⟩
  by_cases hlt : (keyN x : Int) < (keyN y : Int)
  · go_wp2_with fail
    go_ret
    exact ⟨ret_i64 (cmpInt_lt ‹_›).symm, rfl⟩
  · go_wp2_with fail
    refine (rkey_any x hx _).mono ?_; rintro e w' ⟨rfl, rfl⟩
    go_wp2_with fail
    refine (rkey_any y hy _).mono ?_; rintro e w' ⟨rfl, rfl⟩
    by_cases hgt : (keyN y : Int) < (keyN x : Int)
    · go_wp2_with fail
      go_ret
      exact ⟨ret_i64 (cmpInt_gt ‹_›).symm, rfl⟩
    · have he : Hid ((keyN x : Int) = (keyN y : Int)) := by show _ = _; omega
      go_wp2_with fail
      go_ret
      exact ⟨ret_i64 (by rw [he.out, cmpInt_eq]), rfl⟩
end Go.Proofs.Ytfopmdnpjokjcaa
