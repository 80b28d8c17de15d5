import Derived.Test.YtfopmdnpjokjcaaOf2
import Derived.Test.YtfopmdnpjokjcaaHalf
import Derived.Deep.Draws
namespace Go.Proofs.Ytfopmdnpjokjcaa
open Go.RowKit Plain

theorem nan_made (u v : Nat) (hu : u < 2) (hv : v < 4503599627370495) : isNaN (u * 9223372036854775808 + 9218868437227405312 + 1 + v) = true := by
  unfold isNaN
  exact decide_eq_true (by omega)

/-- An operation that gives no number asks for the bits of one: they are of what is no number. -/
theorem run_float_none {P : Program} (w : World) (op : BinOp) (t : TypeId) (x y : Nat) (ho : op = .add ∨ op = .quo) (h : floatBits op .f64 x y = none) :
    ∃ r, r < 18446744073709551616 ∧ isNaN r = true ∧ (binOp op t (.float .f64 x) (.float .f64 y)).run P w = .ok (.float .f64 r) w.drew := by
  refine ⟨(Question.nanBits .f64 x y).cut (w.tape w.drawn (.nanBits .f64 x y)), ?_, ?_, ?_⟩
  · simp only [Question.cut]
    generalize w.tape w.drawn (Question.nanBits FloatKind.f64 x y) = t
    have h1 : t % 2 < 2 := Nat.mod_lt _ (by omega)
    have h2 : t / 2 % (2 ^ 52 - 1) < 2 ^ 52 - 1 := Nat.mod_lt _ (by omega)
    generalize t % 2 = u at *
    generalize t / 2 % (2 ^ 52 - 1) = v at *
    omega
  · simp only [Question.cut, Nat.reducePow, Nat.reduceSub]
    exact nan_made _ _ (Nat.mod_lt _ (by omega)) (Nat.mod_lt _ (by omega))
  · unfold floatBits at h
    rcases ho with rfl | rfl <;> simp only at h <;> simp [go_sem, binOp, Op.floatArith, h]

/-- What is between. -/
def midN (a b : Nat) : Option Nat := (Ieee.double.div a two).bind fun x => (Ieee.double.div b two).bind fun y => Ieee.double.add x y

def MidPost (a b : Nat) (w : World) (e : Ending) (w' : World) : Prop :=
  ∃ r n, e = .returned (.float .f64 r) ∧ w' = w.drewN n ∧ r < 18446744073709551616 ∧ (∀ m, midN a b = some m → r = m) ∧ (midN a b = none → isNaN r = true)

theorem div_lt {x y r : Nat} (h : Ieee.double.div x y = some r) : r < 18446744073709551616 := Ieee.Format.div_lt _ h
theorem add_lt {x y r : Nat} (h : Ieee.double.add x y = some r) : r < 18446744073709551616 := Ieee.Format.add_lt _ h
theorem add_nan_left {x : Nat} (y : Nat) (h : isNaN x = true) : Ieee.double.add x y = none := by
  obtain ⟨t, hr⟩ := read_nan x (of_decide_eq_true h)
  unfold Ieee.Format.add; rw [hr]; rfl
theorem add_nan_right (x : Nat) {y : Nat} (h : isNaN y = true) : Ieee.double.add x y = none := by
  obtain ⟨t, hr⟩ := read_nan y (of_decide_eq_true h)
  unfold Ieee.Format.add; rw [hr]; cases Ieee.double.read x <;> rfl

theorem mid_any (a b : Nat) (w : World) :
    Calls Try.prog 24 #[.float .f64 a, .float .f64 b] w (MidPost a b w) := by
  cases ha : Ieee.double.div a two with
  | some x =>
    have ra := fun w => run_float_arith (P := Try.prog) w .quo 26 .f64 a 4611686018427387904 x ha
    cases hb : Ieee.double.div b two with
    | some y =>
      have rb := fun w => run_float_arith (P := Try.prog) w .quo 26 .f64 b 4611686018427387904 y hb
      cases hc : Ieee.double.add x y with
      | some z =>
        have rc := fun w => run_float_arith (P := Try.prog) w .add 26 .f64 x y z hc
        have HM : Hid (midN a b = some z) := by unfold Hid midN; rw [ha, hb]; exact hc
        have hz := add_lt hc
        clear ha hb hc
        go_enter Try.func24, Try.ntmps24
        go_wp2
        go_ret
        exact ⟨z, 0, rfl, rfl, hz, (fun m hm => by rw [HM.out] at hm; injection hm), (fun hm => by rw [HM.out] at hm; cases hm)⟩
      | none =>
        obtain ⟨r, hr, hn, rc⟩ := run_float_none (P := Try.prog) w .add 26 x y (.inl rfl) hc
        have HM : Hid (midN a b = none) := by unfold Hid midN; rw [ha, hb]; exact hc
        clear ha hb hc
        go_enter Try.func24, Try.ntmps24
        go_wp2
        go_ret
        exact ⟨r, 1, rfl, rfl, hr, (fun m hm => by rw [HM.out] at hm; cases hm), (fun _ => hn)⟩
    | none =>
      obtain ⟨y, hy, hyn, rb⟩ := run_float_none (P := Try.prog) w .quo 26 b 4611686018427387904 (.inr rfl) hb
      obtain ⟨r, hr, hn, rc⟩ := run_float_none (P := Try.prog) w.drew .add 26 x y (.inl rfl) (add_nan_right x hyn)
      have HM : Hid (midN a b = none) := by unfold Hid midN; rw [ha, hb]; rfl
      clear ha hb
      go_enter Try.func24, Try.ntmps24
      go_wp2
      go_ret
      exact ⟨r, 2, rfl, rfl, hr, (fun m hm => by rw [HM.out] at hm; cases hm), (fun _ => hn)⟩
  | none =>
    obtain ⟨x, hx, hxn, ra⟩ := run_float_none (P := Try.prog) w .quo 26 a 4611686018427387904 (.inr rfl) ha
    cases hb : Ieee.double.div b two with
    | some y =>
      have rb := fun w => run_float_arith (P := Try.prog) w .quo 26 .f64 b 4611686018427387904 y hb
      obtain ⟨r, hr, hn, rc⟩ := run_float_none (P := Try.prog) w.drew .add 26 x y (.inl rfl) (add_nan_left y hxn)
      have HM : Hid (midN a b = none) := by unfold Hid midN; rw [ha]; rfl
      clear ha hb
      go_enter Try.func24, Try.ntmps24
      go_wp2
      go_ret
      exact ⟨r, 2, rfl, rfl, hr, (fun m hm => by rw [HM.out] at hm; cases hm), (fun _ => hn)⟩
    | none =>
      obtain ⟨y, hy, hyn, rb⟩ := run_float_none (P := Try.prog) w.drew .quo 26 b 4611686018427387904 (.inr rfl) hb
      obtain ⟨r, hr, hn, rc⟩ := run_float_none (P := Try.prog) w.drew.drew .add 26 x y (.inl rfl) (add_nan_left y hxn)
      have HM : Hid (midN a b = none) := by unfold Hid midN; rw [ha]; rfl
      clear ha hb
      go_enter Try.func24, Try.ntmps24
      go_wp2
      go_ret
      exact ⟨r, 3, rfl, rfl, hr, (fun m hm => by rw [HM.out] at hm; cases hm), (fun _ => hn)⟩
end Go.Proofs.Ytfopmdnpjokjcaa
