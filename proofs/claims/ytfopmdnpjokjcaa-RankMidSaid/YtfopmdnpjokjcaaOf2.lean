import Derived.Test.YtfopmdnpjokjcaaOf
namespace Go.Proofs.Ytfopmdnpjokjcaa
open Go.RowKit Plain

/-- The word of a key, whether it is one or not. -/
def wordN (k : Nat) : Nat := if 9223372036854775808 ≤ k then k - 9223372036854775808 else 18446744073709551615 - k
/-- The number of a key, and whether there is one (2: there is none). -/
def ofN (k : Nat) : Nat × Int := if k = 18446744073709551615 then (9221120237041090561, 0) else if isNaN (wordN k) then (0, 2) else (wordN k, 0)

theorem andNot_high (x : Nat) (hx : x < 18446744073709551616) (h : 9223372036854775808 ≤ x) : bits .andNot .u64 (x : Int) 9223372036854775808 = ((x - 9223372036854775808 : Nat) : Int) := by
  have h1 := u64_andNot_nat x 9223372036854775808 hx (by omega)
  have h2 : x &&& (18446744073709551615 - 9223372036854775808) = x % 9223372036854775808 := Nat.and_two_pow_sub_one_eq_mod x 63
  rw [h2] at h1
  rw [show x - 9223372036854775808 = x % 9223372036854775808 by omega]
  exact h1
theorem and_high (x : Nat) (hx : x < 18446744073709551616) : bits .and .u64 (x : Int) 9223372036854775808 = ((x / 9223372036854775808 * 9223372036854775808 : Nat) : Int) := by
  have h1 := u64_and_nat x 9223372036854775808 hx (by omega)
  rw [nat_hi64_63, Nat.mod_eq_of_lt hx] at h1
  exact h1

theorem ret_two {a b : Nat} {c d : Int} (h : a = b) (h' : c = d) : Ending.returned (.tuple #[.float .f64 a, .int .i64 c]) = .returned (.tuple #[.float .f64 b, .int .i64 d]) := by rw [h, h']

theorem of_any (k : Nat) (hk : k < 18446744073709551616) (w : World) :
    Calls Try.prog 19 #[.int .u64 k] w fun e w' => e = .returned (.tuple #[.float .f64 (ofN k).1, .int .i64 (ofN k).2]) ∧ w = w' := by
  by_cases h3 : 9223372036854775808 ≤ k
  · have t1 : ((bits .and .u64 (k : Int) 9223372036854775808) != 0) = true := by
      rw [and_high k hk, bne_iff_ne]; omega
    have t2 : bits .andNot .u64 (k : Int) 9223372036854775808 = (wordN k : Int) := by rw [andNot_high k hk h3]; unfold wordN; rw [if_pos h3]
    have sg : IntKind.u64.signed = false := rfl
    by_cases h4 : k = 18446744073709551615
    · have t4 : ((k : Int) == 18446744073709551615) = true := beq_iff_eq.2 (by omega)
      have ho : Hid (ofN k = (9221120237041090561, 0)) := by unfold ofN Hid; rw [if_pos h4]
      clear h3 h4
      go_enter Try.func19, Try.ntmps19
      go_wp2_with (first | (go_at_call 18; refine (nan_any _).mono ?_; rintro e w' ⟨rfl, rfl⟩))
      go_ret2
      exact ⟨ret_two (by rw [ho.out]) (by rw [ho.out]), rfl⟩
    · have t4 : ((k : Int) == 18446744073709551615) = false := beq_eq_false_iff_ne.2 (by omega)
      cases hn : isNaN (wordN k)
      · have ho : Hid (ofN k = (wordN k, 0)) := by unfold ofN Hid; rw [if_neg h4, hn]; rfl
        clear h3 h4
        go_enter Try.func19, Try.ntmps19
        go_wp2_with (first | (go_at_call 32; refine (isNaN_any _ _).mono ?_; rintro e w' ⟨rfl, rfl⟩))
        go_ret2
        exact ⟨ret_two (by rw [ho.out]) (by rw [ho.out]), rfl⟩
      · have ho : Hid (ofN k = (0, 2)) := by unfold ofN Hid; rw [if_neg h4, hn]; rfl
        clear h3 h4
        go_enter Try.func19, Try.ntmps19
        go_wp2_with (first | (go_at_call 32; refine (isNaN_any _ _).mono ?_; rintro e w' ⟨rfl, rfl⟩))
        go_ret2
        exact ⟨ret_two (by rw [ho.out]) (by rw [ho.out]), rfl⟩
  · have t1 : ((bits .and .u64 (k : Int) 9223372036854775808) != 0) = false := by
      rw [and_high k hk]; simp; omega
    have t2 : bits .xor .u64 IntKind.u64.max (k : Int) = (wordN k : Int) := by rw [xor_all k hk]; unfold wordN; rw [if_neg h3]
    have sg : IntKind.u64.signed = false := rfl
    have h4 : k ≠ 18446744073709551615 := by omega
    have t4 : ((k : Int) == 18446744073709551615) = false := beq_eq_false_iff_ne.2 (by omega)
    cases hn : isNaN (wordN k)
    · have ho : Hid (ofN k = (wordN k, 0)) := by unfold ofN Hid; rw [if_neg h4, hn]; rfl
      clear h3 h4
      go_enter Try.func19, Try.ntmps19
      go_wp2_with (first | (go_at_call 32; refine (isNaN_any _ _).mono ?_; rintro e w' ⟨rfl, rfl⟩))
      go_ret2
      exact ⟨ret_two (by rw [ho.out]) (by rw [ho.out]), rfl⟩
    · have ho : Hid (ofN k = (0, 2)) := by unfold ofN Hid; rw [if_neg h4, hn]; rfl
      clear h3 h4
      go_enter Try.func19, Try.ntmps19
      go_wp2_with (first | (go_at_call 32; refine (isNaN_any _ _).mono ?_; rintro e w' ⟨rfl, rfl⟩))
      go_ret2
      exact ⟨ret_two (by rw [ho.out]) (by rw [ho.out]), rfl⟩

theorem rof_any (k : Nat) (hk : k < 18446744073709551616) (w : World) :
    Calls Try.prog 20 #[.int .u64 k] w fun e w' => e = .returned (.tuple #[.float .f64 (ofN k).1, .int .i64 (ofN k).2]) ∧ w = w' := by
  by_cases h4 : k = 18446744073709551615
  · have t4 : ((k : Int) == 18446744073709551615) = true := beq_iff_eq.2 (by omega)
    have ho : Hid (ofN k = (9221120237041090561, 0)) := by unfold ofN Hid; rw [if_pos h4]
    clear h4
    go_enter Try.func20, Try.ntmps20
    go_wp2_with (first | (go_at_call 18; refine (nan_any _).mono ?_; rintro e w' ⟨rfl, rfl⟩))
    go_ret2
    exact ⟨ret_two (by rw [ho.out]) (by rw [ho.out]), rfl⟩
  · have t4 : ((k : Int) == 18446744073709551615) = false := beq_eq_false_iff_ne.2 (by omega)
    have hw : Hid (wordN k < 18446744073709551616) := by unfold wordN Hid; split <;> omega
    by_cases h3 : 9223372036854775808 ≤ k
    · have t1 : decide ((9223372036854775808 : Int) ≤ (k : Int)) = true := decide_eq_true (by omega)
      have t3 : ((k : Int) - 9223372036854775808).toNat = wordN k := by unfold wordN; rw [if_pos h3]; omega
      have b1 : (9223372036854775808 : Int) ≤ (k : Int) := by omega
      cases hn : isNaN (wordN k)
      · have ho : Hid (ofN k = (wordN k, 0)) := by unfold ofN Hid; rw [if_neg h4, hn]; rfl
        clear h3 h4
        go_enter Try.func20, Try.ntmps20
        go_wp2_with (first | (go_at_call 36; refine (rnone_any _ _).mono ?_; rintro e w' ⟨rfl, rfl⟩))
        go_ret2
        exact ⟨ret_two (by rw [ho.out]) (by rw [ho.out]), rfl⟩
      · have ho : Hid (ofN k = (0, 2)) := by unfold ofN Hid; rw [if_neg h4, hn]; rfl
        clear h3 h4
        go_enter Try.func20, Try.ntmps20
        go_wp2_with (first | (go_at_call 36; refine (rnone_any _ _).mono ?_; rintro e w' ⟨rfl, rfl⟩))
        go_ret2
        exact ⟨ret_two (by rw [ho.out]) (by rw [ho.out]), rfl⟩
    · have t1 : decide ((9223372036854775808 : Int) ≤ (k : Int)) = false := decide_eq_false (by omega)
      have t3 : ((18446744073709551615 : Int) - (k : Int)).toNat = wordN k := by unfold wordN; rw [if_neg h3]; omega
      cases hn : isNaN (wordN k)
      · have ho : Hid (ofN k = (wordN k, 0)) := by unfold ofN Hid; rw [if_neg h4, hn]; rfl
        clear h3 h4
        go_enter Try.func20, Try.ntmps20
        go_wp2_with (first | (go_at_call 36; refine (rnone_any _ _).mono ?_; rintro e w' ⟨rfl, rfl⟩))
        go_ret2
        exact ⟨ret_two (by rw [ho.out]) (by rw [ho.out]), rfl⟩
      · have ho : Hid (ofN k = (0, 2)) := by unfold ofN Hid; rw [if_neg h4, hn]; rfl
        clear h3 h4
        go_enter Try.func20, Try.ntmps20
        go_wp2_with (first | (go_at_call 36; refine (rnone_any _ _).mono ?_; rintro e w' ⟨rfl, rfl⟩))
        go_ret2
        exact ⟨ret_two (by rw [ho.out]) (by rw [ho.out]), rfl⟩
end Go.Proofs.Ytfopmdnpjokjcaa
