import Derived.Test.YtfopmdnpjokjcaaWOne
namespace Go.Proofs.Ytfopmdnpjokjcaa
open Go.RowKit Plain

theorem key_notNone {x : Nat} (hx : x < 18446744073709551616) (h : isNaN x = false) : keyN x ≠ 18446744073709551615 := by
  intro hk
  have := keyN_none hk hx
  rw [h] at this; cases this
theorem of_key {x : Nat} (hx : x < 18446744073709551616) (h : isNaN x = false) : ofN (keyN x) = (x, 0) := by
  have e := keyN_inv (rfl : keyN x = keyN x) hx (key_notNone hx h)
  unfold ofN
  rw [if_neg (key_notNone hx h), ← e, h]; rfl
theorem key_of {k : Nat} (hk : k < 18446744073709551616) (h : (ofN k).2 = 0) : keyN (ofN k).1 = k := by
  unfold ofN at h ⊢
  by_cases h1 : k = 18446744073709551615
  · rw [if_pos h1, h1]; decide
  · rw [if_neg h1] at h ⊢
    cases h2 : isNaN (wordN k)
    · rw [h2] at h
      simp only [Bool.false_eq_true, if_false]
      unfold keyN; rw [h2]
      simp only [Bool.false_eq_true, if_false]
      unfold wordN
      by_cases h3 : 9223372036854775808 ≤ k
      · rw [if_pos h3, if_neg (by omega)]; omega
      · rw [if_neg h3, if_pos (by omega)]; omega
    · rw [h2] at h; simp at h
theorem of_lt (k : Nat) (hk : k < 18446744073709551616) : (ofN k).1 < 18446744073709551616 := by
  unfold ofN; split
  · omega
  · split
    · show 0 < _; omega
    · show wordN k < _; unfold wordN; split <;> omega
theorem of_two (k : Nat) : ((ofN k).2 = 0) ∨ ((ofN k).1 = 0 ∧ (ofN k).2 = 2) := by
  unfold ofN; split
  · exact .inl rfl
  · split
    · exact .inr ⟨rfl, rfl⟩
    · exact .inl rfl

set_option maxHeartbeats 1000000 in
theorem backW (w : World) (f k : Nat) (hf : f < 18446744073709551616) (hk : k < 18446744073709551616) :
    Calls Try.prog 7 #[.float .f64 f, .int .u64 k] w fun e w' => e = .returned (.bool true) ∧ Below w.heap.size w w' := by
  have HF := hide hf
  have HK := hide hk
  have HKF := hide (keyN_lt f hf)
  have HO := hide (of_lt k hk)
  have hnn : isNaN f = false → ofN (keyN f) = (f, 0) := of_key hf
  have hn2 : isNaN f = false → keyN f ≠ 18446744073709551615 := key_notNone hf
  have hko := key_of hk
  have h2 := of_two k
  have s1 := order_self f
  have s2 := order_self_eq f
  have s0 := order_self_eq 0
  have z0 : isNaN 0 = false := by decide
  rw [z0] at s0
  obtain ⟨h1, hh1⟩ : ∃ q, (ofN k).1 = q := ⟨_, rfl⟩
  obtain ⟨h3, hh3⟩ : ∃ q, (ofN k).2 = q := ⟨_, rfl⟩
  rw [hh1, hh3] at h2
  rw [hh1, hh3] at hko
  rw [hh1] at HO
  clear hf hk z0
  cases vf : isNaN f with
  | true =>
    have hk1 := key_nan vf
    rw [vf] at s1 s2
    have o1 : (ofN (keyN f)).1 = 9221120237041090561 := by rw [hk1]; rfl
    have o2 : (ofN (keyN f)).2 = 0 := by rw [hk1]; rfl
    have k9 : keyN 9221120237041090561 = 18446744073709551615 := by decide
    obtain ⟨kf, hkf⟩ : ∃ q, keyN f = q := ⟨_, rfl⟩
    rw [hkf] at hk1 o1 o2 HKF
    have t1 : ((kf : Int) == ((keyN 9221120237041090561 : Nat) : Int)) = true := by rw [k9, hk1]; rfl
    have t2 : ((kf : Int) == 18446744073709551615) = true := by rw [hk1]; rfl
    clear hk1 hnn hn2 k9 vf
    rcases h2 with h2 | ⟨h21, h22⟩
    · have hk2 := hko h2
      have t3 : (h3 != 0) = false := by rw [h2]; rfl
      have t4 : ((keyN h1 : Int) == (k : Int)) = true := by rw [hk2]; simp
      clear hko h2 hk2
      go_enter Try.func7, Try.ntmps7
      go_wp2_with (first | (go_at_call 10; refine (live_any _).mono ?_; rintro e w1 ⟨rfl, hb1⟩; have B1 := hide hb1; clear hb1) | (go_at_call 14; refine (key_any _ (by first | exact HF.out | exact HO.out) _).mono ?_; rintro e w' ⟨rfl, rfl⟩) | (go_at_call 16; refine (same_any _ _ HF.out (by decide) _).mono ?_; rintro e w' ⟨rfl, rfl⟩) | (go_at_call 19; refine (of_any _ (by first | exact HKF.out | exact HK.out) _).mono ?_; rintro e w' ⟨rfl, rfl⟩))
      go_ret
      exact ⟨rfl, B1.out⟩
    · have t3 : (h3 != 0) = true := by rw [h22]; rfl
      have t4 : (h3 == 2) = true := by rw [h22]; rfl
      have t5 : (FloatKind.f64.format.order h1 0 == some .eq) = true := by rw [h21]; exact s0
      clear hko h21 h22
      go_enter Try.func7, Try.ntmps7
      go_wp2_with (first | (go_at_call 10; refine (live_any _).mono ?_; rintro e w1 ⟨rfl, hb1⟩; have B1 := hide hb1; clear hb1) | (go_at_call 14; refine (key_any _ (by first | exact HF.out | exact HO.out) _).mono ?_; rintro e w' ⟨rfl, rfl⟩) | (go_at_call 16; refine (same_any _ _ HF.out (by decide) _).mono ?_; rintro e w' ⟨rfl, rfl⟩) | (go_at_call 19; refine (of_any _ (by first | exact HKF.out | exact HK.out) _).mono ?_; rintro e w' ⟨rfl, rfl⟩))
      go_ret
      exact ⟨rfl, B1.out⟩
  | false =>
    rw [vf] at s1 s2
    have e1 := hnn vf
    have o1 : (ofN (keyN f)).1 = f := by rw [e1]
    have o2 : (ofN (keyN f)).2 = 0 := by rw [e1]
    have n2 := hn2 vf
    obtain ⟨kf, hkf⟩ : ∃ q, keyN f = q := ⟨_, rfl⟩
    rw [hkf] at n2 o1 o2 HKF
    have t1 : ((kf : Int) == (kf : Int)) = true := by simp
    have t2 : ((kf : Int) == 18446744073709551615) = false := beq_eq_false_iff_ne.2 (by omega)
    clear hnn hn2 n2 e1 vf
    rcases h2 with h2 | ⟨h21, h22⟩
    · have hk2 := hko h2
      have t3 : (h3 != 0) = false := by rw [h2]; rfl
      have t4 : ((keyN h1 : Int) == (k : Int)) = true := by rw [hk2]; simp
      clear hko h2 hk2
      go_enter Try.func7, Try.ntmps7
      go_wp2_with (first | (go_at_call 10; refine (live_any _).mono ?_; rintro e w1 ⟨rfl, hb1⟩; have B1 := hide hb1; clear hb1) | (go_at_call 14; refine (key_any _ (by first | exact HF.out | exact HO.out) _).mono ?_; rintro e w' ⟨rfl, rfl⟩) | (go_at_call 16; refine (same_any _ _ HF.out HF.out _).mono ?_; rintro e w' ⟨rfl, rfl⟩) | (go_at_call 19; refine (of_any _ (by first | exact HKF.out | exact HK.out) _).mono ?_; rintro e w' ⟨rfl, rfl⟩))
      go_ret
      exact ⟨rfl, B1.out⟩
    · have t3 : (h3 != 0) = true := by rw [h22]; rfl
      have t4 : (h3 == 2) = true := by rw [h22]; rfl
      have t5 : (FloatKind.f64.format.order h1 0 == some .eq) = true := by rw [h21]; exact s0
      clear hko h21 h22
      go_enter Try.func7, Try.ntmps7
      go_wp2_with (first | (go_at_call 10; refine (live_any _).mono ?_; rintro e w1 ⟨rfl, hb1⟩; have B1 := hide hb1; clear hb1) | (go_at_call 14; refine (key_any _ (by first | exact HF.out | exact HO.out) _).mono ?_; rintro e w' ⟨rfl, rfl⟩) | (go_at_call 16; refine (same_any _ _ HF.out HF.out _).mono ?_; rintro e w' ⟨rfl, rfl⟩) | (go_at_call 19; refine (of_any _ (by first | exact HKF.out | exact HK.out) _).mono ?_; rintro e w' ⟨rfl, rfl⟩))
      go_ret
      exact ⟨rfl, B1.out⟩
end Go.Proofs.Ytfopmdnpjokjcaa
