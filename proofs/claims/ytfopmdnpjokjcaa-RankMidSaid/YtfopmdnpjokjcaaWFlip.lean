import Derived.Test.YtfopmdnpjokjcaaLive
namespace Go.Proofs.Ytfopmdnpjokjcaa
open Go.RowKit Plain

theorem neg_eq (x : Nat) (hx : x < 18446744073709551616) : Op.negFloat .f64 x = if 9223372036854775808 ≤ x then x - 9223372036854775808 else x + 9223372036854775808 := by
  show x ^^^ 2 ^ 63 = _
  have h : x ^^^ 2 ^ 63 = (BitVec.ofNat 64 x ^^^ BitVec.ofNat 64 (2 ^ 63)).toNat := by
    rw [BitVec.toNat_xor, BitVec.toNat_ofNat, BitVec.toNat_ofNat, Nat.mod_eq_of_lt (show x < 2 ^ 64 from hx), Nat.mod_eq_of_lt (by decide)]
  by_cases hc : 9223372036854775808 ≤ x
  · rw [if_pos hc]
    obtain ⟨y, rfl⟩ : ∃ y, x = 2 ^ 63 + y := ⟨x - 9223372036854775808, by omega⟩
    have hy : y < 2 ^ 63 := by omega
    have e : 2 ^ 63 + y = 2 ^ 63 ||| y := by
      have := Nat.two_pow_add_eq_or_of_lt hy 1
      simpa using this
    rw [e]
    apply Nat.eq_of_testBit_eq
    intro i
    rw [Nat.testBit_xor, Nat.testBit_or, ← e, show 2 ^ 63 + y - 9223372036854775808 = y by omega, Nat.testBit_two_pow]
    by_cases hi : 63 = i
    · subst hi
      rw [decide_eq_true rfl]
      simp [Nat.testBit_lt_two_pow hy]
    · rw [decide_eq_false hi]; simp
  · rw [if_neg hc]
    have hy : x < 2 ^ 63 := by omega
    have e : x + 9223372036854775808 = 2 ^ 63 ||| x := by
      have := Nat.two_pow_add_eq_or_of_lt hy 1
      rw [Nat.add_comm]; simpa using this
    rw [e]
    apply Nat.eq_of_testBit_eq
    intro i
    rw [Nat.testBit_xor, Nat.testBit_or, Nat.testBit_two_pow]
    by_cases hi : 63 = i
    · subst hi
      rw [decide_eq_true rfl, Nat.testBit_lt_two_pow hy]; rfl
    · rw [decide_eq_false hi]; simp

theorem neg_lt {x : Nat} (hx : x < 18446744073709551616) : Op.negFloat .f64 x < 18446744073709551616 := by rw [neg_eq x hx]; split <;> omega
theorem neg_nan {x : Nat} (hx : x < 18446744073709551616) : isNaN (Op.negFloat .f64 x) = isNaN x := by
  unfold isNaN
  rw [neg_eq x hx, decide_eq_decide]
  split <;> omega
theorem neg_key {x : Nat} (hx : x < 18446744073709551616) (hn : isNaN x = false) : keyN x + keyN (Op.negFloat .f64 x) = 18446744073709551615 := by
  unfold keyN
  rw [neg_nan hx, hn, neg_eq x hx]
  simp only [Bool.false_eq_true, if_false]
  by_cases h : 9223372036854775808 ≤ x
  · rw [if_pos h, if_pos h, if_neg (by omega)]; omega
  · rw [if_neg h, if_neg h, if_pos (by omega)]; omega
theorem key_nan {x : Nat} (h : isNaN x = true) : keyN x = 18446744073709551615 := by unfold keyN; rw [h]; rfl
theorem cmpInt_bd (x y : Int) : -1 ≤ cmpInt x y ∧ cmpInt x y ≤ 1 := by unfold cmpInt; split <;> (try split) <;> omega
theorem cmpInt_flip {x y x' y' : Int} (hx : x + x' = 18446744073709551615) (hy : y + y' = 18446744073709551615) : cmpInt x y = -cmpInt x' y' := by
  unfold cmpInt; split <;> split <;> (try split) <;> (try split) <;> omega
theorem order_self_eq (x : Nat) : (FloatKind.f64.format.order x x == some .eq) = !isNaN x := by
  show (Ieee.double.order x x == some .eq) = !isNaN x
  rw [order_eq]
  cases h : isNaN x <;> simp

set_option maxHeartbeats 1000000 in
theorem flipW (w : World) (a b : Nat) (ha : a < 18446744073709551616) (hb : b < 18446744073709551616) :
    Calls Try.prog 4 #[.float .f64 a, .float .f64 b] w fun e w' => e = .returned (.bool true) ∧ Below w.heap.size w w' := by
  have s1 := order_self a
  have s2 := order_self b
  have s3 := order_self_eq a
  have HA := hide ha
  have HB := hide hb
  have hnan := neg_nan ha
  have hkn := neg_key ha
  have hkb := neg_key hb
  have hkk : isNaN a = true → keyN (Op.negFloat .f64 a) = keyN a := fun h => by rw [key_nan h, key_nan (by rw [neg_nan ha]; exact h)]
  have HNA := hide (neg_lt ha)
  have HNB := hide (neg_lt hb)
  obtain ⟨na, hna⟩ : ∃ na, Op.negFloat .f64 a = na := ⟨_, rfl⟩
  obtain ⟨nb, hnb⟩ : ∃ nb, Op.negFloat .f64 b = nb := ⟨_, rfl⟩
  rw [hna] at hnan hkn hkk HNA
  rw [hnb] at hkb HNB
  clear ha hb
  cases va : isNaN a with
  | true =>
    rw [va] at s1 s3
    have hk := hkk va
    clear hkk hkn hkb hnan
    have t1 : ((keyN na : Int) == (keyN a : Int)) = true := by rw [hk]; simp
    clear hk va
    go_enter Try.func4, Try.ntmps4
    go_wp2_with (first | (go_at_call 10; refine (live_any _).mono ?_; rintro e w1 ⟨rfl, hb1⟩; have B1 := hide hb1; clear hb1) | (go_at_call 14; refine (key_any _ (by first | exact HA.out | exact HNA.out) _).mono ?_; rintro e w' ⟨rfl, rfl⟩))
    go_ret
    exact ⟨rfl, B1.out⟩
  | false =>
    rw [va] at s1 s3
    cases vb : isNaN b with
    | true =>
      rw [vb] at s2
      clear hkk hkn hkb hnan
      go_enter Try.func4, Try.ntmps4
      go_wp2_with (first | (go_at_call 10; refine (live_any _).mono ?_; rintro e w1 ⟨rfl, hb1⟩; have B1 := hide hb1; clear hb1))
      go_ret
      exact ⟨rfl, B1.out⟩
    | false =>
      rw [vb] at s2
      have k1 := hkn va
      have k2 := hkb vb
      clear hkk hkn hkb hnan va vb
      obtain ⟨ka, hka⟩ : ∃ k, keyN a = k := ⟨_, rfl⟩
      obtain ⟨kb, hkb⟩ : ∃ k, keyN b = k := ⟨_, rfl⟩
      obtain ⟨kna, hkna⟩ : ∃ k, keyN na = k := ⟨_, rfl⟩
      obtain ⟨knb, hknb⟩ : ∃ k, keyN nb = k := ⟨_, rfl⟩
      rw [hka, hkna] at k1
      rw [hkb, hknb] at k2
      have hf := cmpInt_flip (x := ka) (y := kb) (x' := kna) (y' := knb) (by omega) (by omega)
      obtain ⟨c1, hc1⟩ : ∃ c, cmpInt (ka : Int) (kb : Int) = c := ⟨_, rfl⟩
      obtain ⟨c2, hc2⟩ : ∃ c, cmpInt (kna : Int) (knb : Int) = c := ⟨_, rfl⟩
      have hbd := cmpInt_bd (kna : Int) (knb : Int)
      rw [hc2] at hbd
      rw [hc1, hc2] at hf
      obtain ⟨hb1, hb2⟩ := hbd
      have t1 : ((ka : Int) + (kna : Int) == 18446744073709551615) = true := beq_iff_eq.2 (by omega)
      have t2 : (c1 == -c2) = true := beq_iff_eq.2 hf
      have t3 : (ka : Int) + (kna : Int) ≤ 18446744073709551615 := by omega
      clear k1 k2 hf
      go_enter Try.func4, Try.ntmps4
      go_wp2_with (first | (go_at_call 10; refine (live_any _).mono ?_; rintro e w1 ⟨rfl, hb1⟩; have B1 := hide hb1; clear hb1) | (go_at_call 14; refine (key_any _ (by first | exact HA.out | exact HNA.out) _).mono ?_; rintro e w' ⟨rfl, rfl⟩) | (go_at_call 15; refine (cmp_any _ _ (by first | exact HA.out | exact HNA.out) (by first | exact HB.out | exact HNB.out) _).mono ?_; rintro e w' ⟨rfl, rfl⟩))
      go_ret
      exact ⟨rfl, B1.out⟩
end Go.Proofs.Ytfopmdnpjokjcaa
