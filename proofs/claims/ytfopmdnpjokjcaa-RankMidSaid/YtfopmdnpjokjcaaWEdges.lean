import Derived.Test.YtfopmdnpjokjcaaWBack
namespace Go.Proofs.Ytfopmdnpjokjcaa
open Go.RowKit Plain

theorem copysign_neg (w : World) : Calls Try.prog 17 #[.float .f64 0, .float .f64 13830554455654793216] w fun e w' => e = .returned (.float .f64 9223372036854775808) ∧ w = w' := by
  have h1 : bits .andNot .u64 0 9223372036854775808 = 0 := by decide +kernel
  have h2 : bits .and .u64 13830554455654793216 9223372036854775808 = 9223372036854775808 := by decide +kernel
  have h3 : bits .or .u64 0 9223372036854775808 = 9223372036854775808 := by decide +kernel
  go_enter Try.func17, Try.ntmps17
  go_wp2
  go_ret
  exact ⟨rfl, rfl⟩

/-- What Go's comparisons of two numbers say, and what their keys do. -/
def ord (a b : Nat) : Option Ordering := Ieee.double.order a b
theorem ord_key {a b : Nat} (ha : a < 18446744073709551616) (hb : b < 18446744073709551616) :
    (ord a b = some .lt → keyN a < keyN b) ∧ (ord a b = some .gt → keyN b < keyN a) ∧ (ord a b = some .eq → keyN a = keyN b ∨ a % 9223372036854775808 = 0) ∧ (ord a b = none → isNaN a = true ∨ isNaN b = true) := by
  unfold ord
  rw [order_eq]
  cases na : isNaN a
  · cases nb : isNaN b
    · simp only [Bool.or_self, Bool.false_eq_true, if_false, Option.some.injEq]
      refine ⟨fun h => key_lt_of_val ha hb na nb (Int.compare_eq_lt.1 h), fun h => key_lt_of_val hb ha nb na (Int.compare_eq_gt.1 h), fun h => ?_, fun h => by cases h⟩
      rcases val_eq ha hb (Int.compare_eq_eq.1 h) with h1 | h1
      · exact .inl (by rw [h1])
      · exact .inr h1.1
    · simp
  · simp

theorem zero_eq {a : Nat} (ha : a < 18446744073709551616) (h : a % 9223372036854775808 = 0) : (FloatKind.f64.format.order a 0 == some .eq) = true := by
  have : a = 0 ∨ a = 9223372036854775808 := by omega
  rcases this with h | h
  · subst h; exact order_same (by decide)
  · subst h
    show (Ieee.double.order _ 0 == some .eq) = true
    rw [order_eq, show isNaN 9223372036854775808 = false from by decide, show isNaN 0 = false from by decide]
    simp only [Bool.or_self, Bool.false_eq_true, if_false]
    have e : val 9223372036854775808 = val 0 := by decide
    rw [e]; simp

set_option maxHeartbeats 2000000 in
theorem edgesW (w : World) (a b : Nat) (ha : a < 18446744073709551616) (hb : b < 18446744073709551616) :
    Calls Try.prog 6 #[.float .f64 a, .float .f64 b] w fun e w' => e = .returned (.bool true) ∧ Below w.heap.size w w' := by
  have HA := hide ha
  have HB := hide hb
  have hk := ord_key ha hb
  have z1 : (keyN 9223372036854775808 : Int) = 9223372036854775807 := by decide
  have z2 : (keyN 0 : Int) = 9223372036854775808 := by decide
  have z3 : cmpInt 9223372036854775807 9223372036854775808 = -1 := by decide
  have z4 : (keyN 9221120237041090561 : Int) = 18446744073709551615 := by decide
  have s1 := order_self a
  have s2 := order_self b
  have hza : a % 9223372036854775808 = 0 → (FloatKind.f64.format.order a 0 == some .eq) = true := zero_eq ha
  have hna : isNaN a = true → keyN a = 18446744073709551615 := key_nan
  have hnb : isNaN b = false → keyN b < 18446744073709551615 := fun h => by
    have := key_notNone hb h; have := keyN_lt b hb; omega
  have hnb' : isNaN b = true → keyN b = 18446744073709551615 := key_nan
  have hor : isNaN a = true → ord a b = none := fun h => by unfold ord; rw [order_eq, h]; rfl
  have hfo : FloatKind.f64.format.order a b = ord a b := rfl
  clear ha hb
  obtain ⟨ka, hka⟩ : ∃ k, keyN a = k := ⟨_, rfl⟩
  obtain ⟨kb, hkb⟩ : ∃ k, keyN b = k := ⟨_, rfl⟩
  rw [hka, hkb] at hk
  rw [hka] at hna
  rw [hkb] at hnb hnb'
  obtain ⟨h1, h2, h3, h4⟩ := hk
  cases va : isNaN a with
  | true =>
    rw [va] at s1
    have ho := hor va
    rw [ho] at hfo
    have ta : ((ka : Int) == 18446744073709551615) = true := by rw [hna va]; rfl
    cases vb : isNaN b with
    | true =>
      rw [vb] at s2
      clear h1 h2 h3 h4 hza hna hnb hnb' hor va vb ho
      go_enter Try.func6, Try.ntmps6
      go_wp2_with (first | (go_at_call 10; refine (live_any _).mono ?_; rintro e w1 ⟨rfl, hb1⟩; have B1 := hide hb1; clear hb1) | (go_at_call 17; refine (copysign_neg _).mono ?_; rintro e w' ⟨rfl, rfl⟩) | (go_at_call 18; refine (nan_any _).mono ?_; rintro e w' ⟨rfl, rfl⟩) | (go_at_call 14; refine (key_any _ (by first | exact HA.out | decide) _).mono ?_; rintro e w' ⟨rfl, rfl⟩) | (go_at_call 15; refine (cmp_any _ _ (by first | exact HA.out | exact HB.out | decide) (by first | exact HA.out | exact HB.out | decide) _).mono ?_; rintro e w' ⟨rfl, rfl⟩) | (go_at_call 16; refine (same_any _ _ (by first | exact HA.out | decide) (by first | exact HB.out | decide) _).mono ?_; rintro e w' ⟨rfl, rfl⟩))
      go_ret
      exact ⟨rfl, B1.out⟩
    | false =>
      rw [vb] at s2
      have hlt := hnb vb
      have hka1 := hna va
      have c1 : cmpInt (kb : Int) ka = -1 := cmpInt_lt (by omega)
      have c2 : cmpInt (ka : Int) kb = 1 := cmpInt_gt (by omega)
      clear h1 h2 h3 h4 hza hna hnb hnb' hor va vb ho hlt hka1
      go_enter Try.func6, Try.ntmps6
      go_wp2_with (first | (go_at_call 10; refine (live_any _).mono ?_; rintro e w1 ⟨rfl, hb1⟩; have B1 := hide hb1; clear hb1) | (go_at_call 17; refine (copysign_neg _).mono ?_; rintro e w' ⟨rfl, rfl⟩) | (go_at_call 18; refine (nan_any _).mono ?_; rintro e w' ⟨rfl, rfl⟩) | (go_at_call 14; refine (key_any _ (by first | exact HA.out | decide) _).mono ?_; rintro e w' ⟨rfl, rfl⟩) | (go_at_call 15; refine (cmp_any _ _ (by first | exact HA.out | exact HB.out | decide) (by first | exact HA.out | exact HB.out | decide) _).mono ?_; rintro e w' ⟨rfl, rfl⟩) | (go_at_call 16; refine (same_any _ _ (by first | exact HA.out | decide) (by first | exact HB.out | decide) _).mono ?_; rintro e w' ⟨rfl, rfl⟩))
      go_ret
      exact ⟨rfl, B1.out⟩
  | false =>
    rw [va] at s1
    cases ho : ord a b with
    | none =>
      rw [ho] at hfo
      clear h1 h2 h3 h4 hza hna hnb hnb' hor va ho s2
      go_enter Try.func6, Try.ntmps6
      go_wp2_with (first | (go_at_call 10; refine (live_any _).mono ?_; rintro e w1 ⟨rfl, hb1⟩; have B1 := hide hb1; clear hb1) | (go_at_call 17; refine (copysign_neg _).mono ?_; rintro e w' ⟨rfl, rfl⟩) | (go_at_call 14; refine (key_any _ (by first | exact HA.out | decide) _).mono ?_; rintro e w' ⟨rfl, rfl⟩) | (go_at_call 15; refine (cmp_any _ _ (by first | exact HA.out | exact HB.out | decide) (by first | exact HA.out | exact HB.out | decide) _).mono ?_; rintro e w' ⟨rfl, rfl⟩) | (go_at_call 16; refine (same_any _ _ (by first | exact HA.out | decide) (by first | exact HB.out | decide) _).mono ?_; rintro e w' ⟨rfl, rfl⟩))
      go_ret
      exact ⟨rfl, B1.out⟩
    | some o =>
      cases o with
      | lt =>
        rw [ho] at hfo
        have hl := h1 ho
        have c2 : cmpInt (ka : Int) kb = -1 := cmpInt_lt (by omega)
        clear h1 h2 h3 h4 hza hna hnb hnb' hor va ho s2 hl
        go_enter Try.func6, Try.ntmps6
        go_wp2_with (first | (go_at_call 10; refine (live_any _).mono ?_; rintro e w1 ⟨rfl, hb1⟩; have B1 := hide hb1; clear hb1) | (go_at_call 17; refine (copysign_neg _).mono ?_; rintro e w' ⟨rfl, rfl⟩) | (go_at_call 14; refine (key_any _ (by first | exact HA.out | decide) _).mono ?_; rintro e w' ⟨rfl, rfl⟩) | (go_at_call 15; refine (cmp_any _ _ (by first | exact HA.out | exact HB.out | decide) (by first | exact HA.out | exact HB.out | decide) _).mono ?_; rintro e w' ⟨rfl, rfl⟩) | (go_at_call 16; refine (same_any _ _ (by first | exact HA.out | decide) (by first | exact HB.out | decide) _).mono ?_; rintro e w' ⟨rfl, rfl⟩))
        go_ret
        exact ⟨rfl, B1.out⟩
      | gt =>
        rw [ho] at hfo
        have hl := h2 ho
        have c2 : cmpInt (ka : Int) kb = 1 := cmpInt_gt (by omega)
        clear h1 h2 h3 h4 hza hna hnb hnb' hor va ho s2 hl
        go_enter Try.func6, Try.ntmps6
        go_wp2_with (first | (go_at_call 10; refine (live_any _).mono ?_; rintro e w1 ⟨rfl, hb1⟩; have B1 := hide hb1; clear hb1) | (go_at_call 17; refine (copysign_neg _).mono ?_; rintro e w' ⟨rfl, rfl⟩) | (go_at_call 14; refine (key_any _ (by first | exact HA.out | decide) _).mono ?_; rintro e w' ⟨rfl, rfl⟩) | (go_at_call 15; refine (cmp_any _ _ (by first | exact HA.out | exact HB.out | decide) (by first | exact HA.out | exact HB.out | decide) _).mono ?_; rintro e w' ⟨rfl, rfl⟩) | (go_at_call 16; refine (same_any _ _ (by first | exact HA.out | decide) (by first | exact HB.out | decide) _).mono ?_; rintro e w' ⟨rfl, rfl⟩))
        go_ret
        exact ⟨rfl, B1.out⟩
      | eq =>
        rw [ho] at hfo
        rcases h3 ho with hl | hl
        · have ts : ((ka : Int) == (kb : Int)) = true := by rw [hl]; simp
          clear h1 h2 h3 h4 hza hna hnb hnb' hor va ho s2 hl
          go_enter Try.func6, Try.ntmps6
          go_wp2_with (first | (go_at_call 10; refine (live_any _).mono ?_; rintro e w1 ⟨rfl, hb1⟩; have B1 := hide hb1; clear hb1) | (go_at_call 17; refine (copysign_neg _).mono ?_; rintro e w' ⟨rfl, rfl⟩) | (go_at_call 14; refine (key_any _ (by first | exact HA.out | decide) _).mono ?_; rintro e w' ⟨rfl, rfl⟩) | (go_at_call 15; refine (cmp_any _ _ (by first | exact HA.out | exact HB.out | decide) (by first | exact HA.out | exact HB.out | decide) _).mono ?_; rintro e w' ⟨rfl, rfl⟩) | (go_at_call 16; refine (same_any _ _ (by first | exact HA.out | decide) (by first | exact HB.out | decide) _).mono ?_; rintro e w' ⟨rfl, rfl⟩))
          go_ret
          exact ⟨rfl, B1.out⟩
        · have tz := hza hl
          clear h1 h2 h3 h4 hza hna hnb hnb' hor va ho s2 hl
          by_cases hs : (ka : Int) = kb
          · have ts : ((ka : Int) == (kb : Int)) = true := beq_iff_eq.2 hs
            clear hs
            go_enter Try.func6, Try.ntmps6
            go_wp2_with (first | (go_at_call 10; refine (live_any _).mono ?_; rintro e w1 ⟨rfl, hb1⟩; have B1 := hide hb1; clear hb1) | (go_at_call 17; refine (copysign_neg _).mono ?_; rintro e w' ⟨rfl, rfl⟩) | (go_at_call 14; refine (key_any _ (by first | exact HA.out | decide) _).mono ?_; rintro e w' ⟨rfl, rfl⟩) | (go_at_call 15; refine (cmp_any _ _ (by first | exact HA.out | exact HB.out | decide) (by first | exact HA.out | exact HB.out | decide) _).mono ?_; rintro e w' ⟨rfl, rfl⟩) | (go_at_call 16; refine (same_any _ _ (by first | exact HA.out | decide) (by first | exact HB.out | decide) _).mono ?_; rintro e w' ⟨rfl, rfl⟩))
            go_ret
            exact ⟨rfl, B1.out⟩
          · have ts : ((ka : Int) == (kb : Int)) = false := beq_eq_false_iff_ne.2 hs
            clear hs
            go_enter Try.func6, Try.ntmps6
            go_wp2_with (first | (go_at_call 10; refine (live_any _).mono ?_; rintro e w1 ⟨rfl, hb1⟩; have B1 := hide hb1; clear hb1) | (go_at_call 17; refine (copysign_neg _).mono ?_; rintro e w' ⟨rfl, rfl⟩) | (go_at_call 14; refine (key_any _ (by first | exact HA.out | decide) _).mono ?_; rintro e w' ⟨rfl, rfl⟩) | (go_at_call 15; refine (cmp_any _ _ (by first | exact HA.out | exact HB.out | decide) (by first | exact HA.out | exact HB.out | decide) _).mono ?_; rintro e w' ⟨rfl, rfl⟩) | (go_at_call 16; refine (same_any _ _ (by first | exact HA.out | decide) (by first | exact HB.out | decide) _).mono ?_; rintro e w' ⟨rfl, rfl⟩))
            go_ret
            exact ⟨rfl, B1.out⟩
end Go.Proofs.Ytfopmdnpjokjcaa
