import Derived.Test.YtfopmdnpjokjcaaMid
namespace Go.Proofs.Ytfopmdnpjokjcaa
open Go.RowKit Plain

theorem inf_rung {x : Nat} (h : isInf x = true) : x % 9223372036854775808 = 9218868437227405312 := of_decide_eq_true h
theorem fin_rung {x : Nat} (hn : isNaN x = false) (h : isInf x = false) : x % 9223372036854775808 < 9218868437227405312 := by
  have h1 := of_decide_eq_false hn
  have h2 := of_decide_eq_false h
  omega
theorem inf_notNaN {x : Nat} (h : isInf x = true) : isNaN x = false := by
  have := inf_rung h
  unfold isNaN; exact decide_eq_false (by omega)

theorem midN_nan_left {a : Nat} (b : Nat) (h : isNaN a = true) : midN a b = none := by unfold midN; rw [half_nan a h]; rfl
theorem midN_nan_right (a : Nat) {b : Nat} (h : isNaN b = true) : midN a b = none := by
  unfold midN; rw [half_nan b h]; cases Ieee.double.div a two <;> rfl

theorem midN_infs {a b : Nat} (ha : a < 18446744073709551616) (hb : b < 18446744073709551616) (ia : isInf a = true) (ib : isInf b = true) : midN a b = if sgn a = sgn b then some a else none := by
  unfold midN
  rw [half_inf a ha (inf_rung ia), half_inf b hb (inf_rung ib)]
  simp only [Option.bind_some, Ieee.Format.add]
  rw [read_inf a (inf_rung ia), read_inf b (inf_rung ib)]
  simp only [Ieee.Datum.sum]
  by_cases h : sgn a = sgn b
  · rw [if_pos h, if_pos h]
    simp only [Option.map_some, Ieee.Format.write, d_inf]
    rw [← inf_rung ia, word_self a ha]
  · rw [if_neg h, if_neg h]; rfl

theorem midN_inf_left {a b : Nat} (ha : a < 18446744073709551616) (ia : isInf a = true) (nb : isNaN b = false) (ib : isInf b = false) : midN a b = some a := by
  obtain ⟨R, hR, hle, _⟩ := half_fin b (fin_rung nb ib)
  have hf := fin_rung nb ib
  unfold midN
  rw [half_inf a ha (inf_rung ia), hR]
  simp only [Option.bind_some, Ieee.Format.add]
  obtain ⟨m, e, hr, _⟩ := read_fin (Ieee.double.word (sgn b) R) (by rw [word_rung _ _ (by omega)]; omega)
  rw [read_inf a (inf_rung ia), hr]
  simp only [Ieee.Datum.sum, Option.map_some, Ieee.Format.write, d_inf]
  rw [← inf_rung ia, word_self a ha]

theorem midN_inf_right {a b : Nat} (hb : b < 18446744073709551616) (na : isNaN a = false) (ia : isInf a = false) (ib : isInf b = true) : midN a b = some b := by
  obtain ⟨R, hR, hle, _⟩ := half_fin a (fin_rung na ia)
  have hf := fin_rung na ia
  unfold midN
  rw [half_inf b hb (inf_rung ib), hR]
  simp only [Option.bind_some, Ieee.Format.add]
  obtain ⟨m, e, hr, _⟩ := read_fin (Ieee.double.word (sgn a) R) (by rw [word_rung _ _ (by omega)]; omega)
  rw [read_inf b (inf_rung ib), hr]
  simp only [Ieee.Datum.sum, Option.map_some, Ieee.Format.write, d_inf]
  rw [← inf_rung ib, word_self b hb]

/-- Two that are no infinities, and numbers: their halves are, and what these make is. -/
theorem midN_fins {a b : Nat} (na : isNaN a = false) (ia : isInf a = false) (nb : isNaN b = false) (ib : isInf b = false) :
    ∃ x y z, Ieee.double.div a two = some x ∧ Ieee.double.div b two = some y ∧ Ieee.double.add x y = some z ∧ midN a b = some z ∧ isNaN z = false ∧
      ∀ v, isNaN v = false → (val v ≤ val x + val y → val v ≤ val z) ∧ (val x + val y ≤ val v → val z ≤ val v) := by
  obtain ⟨R, hR, hle, _⟩ := half_fin a (fin_rung na ia)
  obtain ⟨S, hS, hle', _⟩ := half_fin b (fin_rung nb ib)
  have hf := fin_rung na ia
  have hf' := fin_rung nb ib
  obtain ⟨s, T, hT, hTi, hb⟩ := sum_fin (Ieee.double.word (sgn a) R) (Ieee.double.word (sgn b) S) (by rw [word_rung _ _ (by omega)]; omega) (by rw [word_rung _ _ (by omega)]; omega)
  exact ⟨_, _, _, hR, hS, hT, by unfold midN; rw [hR, hS]; exact hT, word_notNaN _ _ hTi, hb⟩

theorem order_eql_infs {a b : Nat} (ha : a < 18446744073709551616) (hb : b < 18446744073709551616) (ia : isInf a = true) (ib : isInf b = true) :
    (FloatKind.f64.format.order a b == some .eq) = decide (sgn a = sgn b) := by
  show (Ieee.double.order a b == some .eq) = _
  rw [order_eq, inf_notNaN ia, inf_notNaN ib]
  simp only [Bool.or_self, Bool.false_eq_true, if_false]
  rw [val_fin a, val_fin b, inf_rung ia, inf_rung ib]
  have hp : 0 < mag 9218868437227405312 := by
    have := mag_lt (r := 0) (s := 9218868437227405312) (by omega); omega
  generalize mag 9218868437227405312 = M at *
  cases sgn a <;> cases sgn b
  · simp
  · have h : compare (M : Int) (-(M : Int)) = .gt := Int.compare_eq_gt.2 (by omega)
    simp only [Bool.false_eq_true, if_false, if_true, h]; rfl
  · have h : compare (-(M : Int)) (M : Int) = .lt := Int.compare_eq_lt.2 (by omega)
    simp only [Bool.false_eq_true, if_false, if_true, h]; rfl
  · simp

def RMidPost (a b : Nat) (w : World) (e : Ending) (w' : World) : Prop :=
  ∃ r, e = .returned (.float .f64 r) ∧ w = w' ∧ r < 18446744073709551616 ∧ (∀ m, midN a b = some m → r = m) ∧ (midN a b = none → isNaN r = true)

theorem rmid_any (a b : Nat) (ha : a < 18446744073709551616) (hb : b < 18446744073709551616) (w : World) :
    Calls Try.prog 25 #[.float .f64 a, .float .f64 b] w (RMidPost a b w) := by
  have nn : isNaN 9221120237041090561 = true := by decide
  have NN := hide nn
  clear nn
  cases na : isNaN a with
  | true =>
    have HM := hide (midN_nan_left b na)
    go_enter Try.func25, Try.ntmps25
    go_wp2_with (first | (go_at_call 36; refine (rnone_any _ _).mono ?_; rintro e w' ⟨rfl, rfl⟩) | (go_at_call 18; refine (nan_any _).mono ?_; rintro e w' ⟨rfl, rfl⟩))
    go_ret
    exact ⟨_, rfl, rfl, by omega, (fun m hm => by rw [HM.out] at hm; cases hm), (fun _ => NN.out)⟩
  | false =>
    cases nb : isNaN b with
    | true =>
      have HM := hide (midN_nan_right a nb)
      go_enter Try.func25, Try.ntmps25
      go_wp2_with (first | (go_at_call 36; refine (rnone_any _ _).mono ?_; rintro e w' ⟨rfl, rfl⟩) | (go_at_call 18; refine (nan_any _).mono ?_; rintro e w' ⟨rfl, rfl⟩))
      go_ret
      exact ⟨_, rfl, rfl, by omega, (fun m hm => by rw [HM.out] at hm; cases hm), (fun _ => NN.out)⟩
    | false =>
      have HA := hide ha
      have HB := hide hb
      cases ia : isInf a with
      | true =>
        cases ib : isInf b with
        | true =>
          have ho := order_eql_infs ha hb ia ib
          by_cases hs : sgn a = sgn b
          · rw [decide_eq_true hs] at ho
            have HM := hide (midN_infs ha hb ia ib)
            have HS := hide hs
            clear ha hb hs
            go_enter Try.func25, Try.ntmps25
            go_wp2_with (first | (go_at_call 36; refine (rnone_any _ _).mono ?_; rintro e w' ⟨rfl, rfl⟩) | (go_at_call 37; refine (endless_any _ (by first | exact HA.out | exact HB.out) _).mono ?_; rintro e w' ⟨rfl, rfl⟩))
            go_ret
            exact ⟨_, rfl, rfl, HA.out, (fun m hm => by rw [HM.out, if_pos HS.out] at hm; injection hm), (fun hm => by rw [HM.out, if_pos HS.out] at hm; cases hm)⟩
          · rw [decide_eq_false hs] at ho
            have HM := hide (midN_infs ha hb ia ib)
            have HS := hide hs
            clear ha hb hs
            go_enter Try.func25, Try.ntmps25
            go_wp2_with (first | (go_at_call 36; refine (rnone_any _ _).mono ?_; rintro e w' ⟨rfl, rfl⟩) | (go_at_call 37; refine (endless_any _ (by first | exact HA.out | exact HB.out) _).mono ?_; rintro e w' ⟨rfl, rfl⟩) | (go_at_call 18; refine (nan_any _).mono ?_; rintro e w' ⟨rfl, rfl⟩))
            go_ret
            exact ⟨_, rfl, rfl, by omega, (fun m hm => by rw [HM.out, if_neg HS.out] at hm; cases hm), (fun hm => NN.out)⟩
        | false =>
          have HM := hide (midN_inf_left ha ia nb ib)
          clear ha hb
          go_enter Try.func25, Try.ntmps25
          go_wp2_with (first | (go_at_call 36; refine (rnone_any _ _).mono ?_; rintro e w' ⟨rfl, rfl⟩) | (go_at_call 37; refine (endless_any _ (by first | exact HA.out | exact HB.out) _).mono ?_; rintro e w' ⟨rfl, rfl⟩))
          go_ret
          exact ⟨_, rfl, rfl, HA.out, (fun m hm => by rw [HM.out] at hm; injection hm), (fun hm => by rw [HM.out] at hm; cases hm)⟩
      | false =>
        cases ib : isInf b with
        | true =>
          have HM := hide (midN_inf_right hb na ia ib)
          clear ha hb
          go_enter Try.func25, Try.ntmps25
          go_wp2_with (first | (go_at_call 36; refine (rnone_any _ _).mono ?_; rintro e w' ⟨rfl, rfl⟩) | (go_at_call 37; refine (endless_any _ (by first | exact HA.out | exact HB.out) _).mono ?_; rintro e w' ⟨rfl, rfl⟩))
          go_ret
          exact ⟨_, rfl, rfl, HB.out, (fun m hm => by rw [HM.out] at hm; injection hm), (fun hm => by rw [HM.out] at hm; cases hm)⟩
        | false =>
          obtain ⟨x, y, z, hx, hy, hz, hm, _, _⟩ := midN_fins na ia nb ib
          have HM := hide hm
          have HZ := hide (add_lt hz)
          have ra := fun w => run_float_arith (P := Try.prog) w .quo 26 .f64 a 4611686018427387904 x hx
          have rb := fun w => run_float_arith (P := Try.prog) w .quo 26 .f64 b 4611686018427387904 y hy
          have rc := fun w => run_float_arith (P := Try.prog) w .add 26 .f64 x y z hz
          clear ha hb hx hy hz hm
          go_enter Try.func25, Try.ntmps25
          go_wp2_with (first | (go_at_call 36; refine (rnone_any _ _).mono ?_; rintro e w' ⟨rfl, rfl⟩) | (go_at_call 37; refine (endless_any _ (by first | exact HA.out | exact HB.out) _).mono ?_; rintro e w' ⟨rfl, rfl⟩))
          go_ret
          exact ⟨_, rfl, rfl, HZ.out, (fun m hm => by rw [HM.out] at hm; injection hm), (fun hm => by rw [HM.out] at hm; cases hm)⟩
end Go.Proofs.Ytfopmdnpjokjcaa
