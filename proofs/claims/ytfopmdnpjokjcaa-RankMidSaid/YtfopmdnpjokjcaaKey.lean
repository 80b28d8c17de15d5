import Derived.Test.YtfopmdnpjokjcaaProg
import Derived.Test.YtfopmdnpjokjcaaPlain
import Derived.WalkKit
import Derived.WalkLawsBesides
namespace Go.Proofs.Ytfopmdnpjokjcaa
open Go.RowKit Plain

theorem hide {p : Prop} (h : p) : Hid p := h

theorem order_self (x : Nat) : (FloatKind.f64.format.order x x != some .eq) = isNaN x := by
  show (Ieee.double.order x x != some .eq) = isNaN x
  rw [order_eq]
  cases h : isNaN x <;> simp

theorem isNaN_any (x : Nat) (w : World) :
    Calls Try.prog 32 #[.float .f64 x] w fun e w' => e = .returned (.bool (isNaN x)) ∧ w = w' := by
  have hs := order_self x
  go_enter Try.func32, Try.ntmps32
  go_wp2
  go_ret
  exact ⟨rfl, rfl⟩

theorem run_bits (x : Nat) (w : World) : (callFunc 31 #[.float .f64 x]).run Try.prog w = .ok (.value (.int .u64 x)) w := by
  rw [run_callFunc_extern (e := Extern.MathFloatBits.float64bits) Try.func31 (by kernel_rfl) (by kernel_rfl) (by kernel_rfl) (by kernel_rfl)]
  rfl
theorem run_frombits (n : Int) (w : World) : (callFunc 35 #[.int .u64 n]).run Try.prog w = .ok (.value (.float .f64 n.toNat)) w := by
  rw [run_callFunc_extern (e := Extern.MathFloatBits.float64frombits) Try.func35 (by kernel_rfl) (by kernel_rfl) (by kernel_rfl) (by kernel_rfl)]
  rfl
attribute [go_sem] run_bits run_frombits

theorem signbit_any (x : Nat) (hx : x < 18446744073709551616) (w : World) :
    Calls Try.prog 33 #[.float .f64 x] w fun e w' => e = .returned (.bool (sgn x)) ∧ w = w' := by
  have h : decide (wrap64 x < 0) = sgn x := by
    rw [sgn_lt x hx]; unfold wrap64; rw [decide_eq_decide]; omega
  go_enter Try.func33, Try.ntmps33
  go_wp2
  go_ret
  exact ⟨rfl, rfl⟩

theorem or_high (x : Nat) (hx : x < 9223372036854775808) : bits .or .u64 (x : Int) 9223372036854775808 = ((x + 9223372036854775808 : Nat) : Int) := by
  have := u64_or_nat x 9223372036854775808 (by omega) (by omega)
  rw [Nat.or_comm, nat_join 63 _ _ (by decide) (by omega), Nat.add_comm] at this
  exact this

theorem xor_all (x : Nat) (hx : x < 18446744073709551616) : bits .xor .u64 IntKind.u64.max (x : Int) = ((18446744073709551615 - x : Nat) : Int) := by
  have h := u64_xor_nat 18446744073709551615 x (by omega) hx
  have e : 18446744073709551615 ^^^ x = 18446744073709551615 - x := by
    have h1 : (BitVec.allOnes 64 ^^^ BitVec.ofNat 64 x).toNat = 18446744073709551615 ^^^ x := by
      rw [BitVec.toNat_xor, BitVec.toNat_allOnes, BitVec.toNat_ofNat, Nat.mod_eq_of_lt (by omega)]
    rw [← h1, BitVec.allOnes_xor, BitVec.toNat_not, BitVec.toNat_ofNat, Nat.mod_eq_of_lt (by omega)]
  rw [e] at h
  exact h

theorem key_any (x : Nat) (hx : x < 18446744073709551616) (w : World) :
    Calls Try.prog 14 #[.float .f64 x] w fun e w' => e = .returned (.int .u64 (keyN x)) ∧ w = w' := by
  cases hn : isNaN x
  · cases hs : sgn x
    · have hk : bits .or .u64 (x : Int) 9223372036854775808 = (keyN x : Int) := by
        have h2 := sgn_lt x hx
        rw [hs] at h2
        have h3 := of_decide_eq_false h2.symm
        rw [or_high x (by omega)]; unfold keyN; rw [hn]
        simp only [Bool.false_eq_true, if_false]; rw [if_neg h3]
      go_enter Try.func14, Try.ntmps14
      go_wp2_with (first | (go_at_call 32; refine (isNaN_any _ _).mono ?_; rintro e w' ⟨rfl, rfl⟩) | (go_at_call 33; refine (signbit_any _ hx _).mono ?_; rintro e w' ⟨rfl, rfl⟩))
      go_ret
      exact ⟨rfl, rfl⟩
    · have hk : bits .xor .u64 IntKind.u64.max (x : Int) = (keyN x : Int) := by
        have h2 := sgn_lt x hx
        rw [hs] at h2
        have h3 := of_decide_eq_true h2.symm
        rw [xor_all x hx]; unfold keyN; rw [hn]
        simp only [Bool.false_eq_true, if_false]; rw [if_pos h3]
      go_enter Try.func14, Try.ntmps14
      go_wp2_with (first | (go_at_call 32; refine (isNaN_any _ _).mono ?_; rintro e w' ⟨rfl, rfl⟩) | (go_at_call 33; refine (signbit_any _ hx _).mono ?_; rintro e w' ⟨rfl, rfl⟩))
      go_ret
      exact ⟨rfl, rfl⟩
  · have hk : (keyN x : Int) = 18446744073709551615 := by unfold keyN; rw [hn]; rfl
    have HK : Hid _ := hk
    clear hk
    go_enter Try.func14, Try.ntmps14
    go_wp2_with (first | (go_at_call 32; refine (isNaN_any _ _).mono ?_; rintro e w' ⟨rfl, rfl⟩))
    go_ret
    exact ⟨by rw [HK.out]; rfl, rfl⟩

theorem cmpNaN_any (x : Int) (w : World) :
    Calls Try.prog 39 #[.int .u64 x] w fun e w' => e = .returned (.bool false) ∧ w = w' := by
  go_enter Try.func39, Try.ntmps39
  go_wp2
  go_ret
  exact ⟨by simp, rfl⟩

def cmpInt (x y : Int) : Int := if x < y then -1 else if y < x then 1 else 0
theorem cmpInt_lt {x y : Int} (h : x < y) : cmpInt x y = -1 := by unfold cmpInt; rw [if_pos h]
theorem cmpInt_gt {x y : Int} (h : y < x) : cmpInt x y = 1 := by unfold cmpInt; rw [if_neg (by omega), if_pos h]
theorem cmpInt_eq (x : Int) : cmpInt x x = 0 := by unfold cmpInt; rw [if_neg (by omega), if_neg (by omega)]
theorem ret_i64 {a b : Int} (h : a = b) : Ending.returned (.int .i64 a) = .returned (.int .i64 b) := by rw [h]
theorem compare_any (x y : Int) (w : World) :
    Calls Try.prog 34 #[.int .u64 x, .int .u64 y] w fun e w' => e = .returned (.int .i64 (cmpInt x y)) ∧ w = w' := by
  go_enter Try.func34, Try.ntmps34
  go_wp2_with (first | (go_at_call 39; refine (cmpNaN_any _ _).mono ?_; rintro e w' ⟨rfl, rfl⟩))
  · go_ret; exact ⟨ret_i64 (cmpInt_lt ‹_›).symm, rfl⟩
  · go_ret; exact ⟨ret_i64 (cmpInt_gt ‹_›).symm, rfl⟩
  · go_ret
    obtain rfl : x = y := by omega
    exact ⟨ret_i64 (cmpInt_eq _).symm, rfl⟩

theorem cmp_any (x y : Nat) (hx : x < 18446744073709551616) (hy : y < 18446744073709551616) (w : World) :
    Calls Try.prog 15 #[.float .f64 x, .float .f64 y] w fun e w' => e = .returned (.int .i64 (cmpInt (keyN x) (keyN y))) ∧ w = w' := by
  go_enter Try.func15, Try.ntmps15
  go_wp2_with fail
  refine (key_any x hx _).mono ?_; rintro e w' ⟨rfl, rfl⟩
  go_wp2_with fail
  refine (key_any y hy _).mono ?_; rintro e w' ⟨rfl, rfl⟩
  go_wp2_with fail
  refine (compare_any _ _ _).mono ?_; rintro e w' ⟨rfl, rfl⟩
  go_wp2_with fail
  go_ret
  exact ⟨rfl, rfl⟩

theorem same_any (x y : Nat) (hx : x < 18446744073709551616) (hy : y < 18446744073709551616) (w : World) :
    Calls Try.prog 16 #[.float .f64 x, .float .f64 y] w fun e w' => e = .returned (.bool ((keyN x : Int) == (keyN y : Int))) ∧ w = w' := by
  go_enter Try.func16, Try.ntmps16
  go_wp2_with fail
  refine (key_any x hx _).mono ?_; rintro e w' ⟨rfl, rfl⟩
  go_wp2_with fail
  refine (key_any y hy _).mono ?_; rintro e w' ⟨rfl, rfl⟩
  go_wp2_with fail
  go_ret
  exact ⟨rfl, rfl⟩
end Go.Proofs.Ytfopmdnpjokjcaa
