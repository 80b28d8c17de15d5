import Derived.Test.YtfopmdnpjokjcaaWFlip
namespace Go.Proofs.Ytfopmdnpjokjcaa
open Go.RowKit Plain

set_option maxHeartbeats 1000000 in
theorem oneW (w : World) (a b c : Nat) (ha : a < 18446744073709551616) (hb : b < 18446744073709551616) (hc : c < 18446744073709551616) :
    Calls Try.prog 5 #[.float .f64 a, .float .f64 b, .float .f64 c] w fun e w' => e = .returned (.bool true) ∧ Below w.heap.size w w' := by
  have HA := hide ha
  have HB := hide hb
  have HC := hide hc
  clear ha hb hc
  obtain ⟨ka, hka⟩ : ∃ k, keyN a = k := ⟨_, rfl⟩
  obtain ⟨kb, hkb⟩ : ∃ k, keyN b = k := ⟨_, rfl⟩
  obtain ⟨kc, hkc⟩ : ∃ k, keyN c = k := ⟨_, rfl⟩
  have f1 : cmpInt (ka : Int) kb = -cmpInt (kb : Int) ka := by unfold cmpInt; split <;> split <;> (try split) <;> (try split) <;> omega
  have f2 : ((cmpInt (ka : Int) kb == 0) == ((ka : Int) == (kb : Int))) = true := by
    rw [beq_iff_eq, Bool.eq_iff_iff, beq_iff_eq, beq_iff_eq]
    unfold cmpInt; split <;> (try split) <;> omega
  have f4 : ¬ 0 < cmpInt (ka : Int) kb → ¬ 0 < cmpInt (kb : Int) kc → cmpInt (ka : Int) kc ≤ 0 := by
    unfold cmpInt; intro h1 h2; split at h1 <;> (try split at h1) <;> split at h2 <;> (try split at h2) <;> split <;> (try split) <;> omega
  have b1 := cmpInt_bd (kb : Int) ka
  have caa := cmpInt_eq (ka : Int)
  obtain ⟨cab, hcab⟩ : ∃ q, cmpInt (ka : Int) kb = q := ⟨_, rfl⟩
  obtain ⟨cba, hcba⟩ : ∃ q, cmpInt (kb : Int) ka = q := ⟨_, rfl⟩
  obtain ⟨cbc, hcbc⟩ : ∃ q, cmpInt (kb : Int) kc = q := ⟨_, rfl⟩
  obtain ⟨cac, hcac⟩ : ∃ q, cmpInt (ka : Int) kc = q := ⟨_, rfl⟩
  rw [hcab, hcba] at f1
  rw [hcab] at f2
  rw [hcab, hcbc, hcac] at f4
  rw [hcba] at b1
  obtain ⟨b1, b2⟩ := b1
  have t1 : (cab == -cba) = true := beq_iff_eq.2 f1
  clear f1
  by_cases g1 : 0 < cab
  · have d1 : decide (0 < cab) = true := decide_eq_true g1
    clear f4
    go_enter Try.func5, Try.ntmps5
    go_wp2_with (first | (go_at_call 10; refine (live_any _).mono ?_; rintro e w1 ⟨rfl, hb1⟩; have B1 := hide hb1; clear hb1) | (go_at_call 15; refine (cmp_any _ _ (by first | exact HA.out | exact HB.out | exact HC.out) (by first | exact HA.out | exact HB.out | exact HC.out) _).mono ?_; rintro e w' ⟨rfl, rfl⟩) | (go_at_call 16; refine (same_any _ _ HA.out HB.out _).mono ?_; rintro e w' ⟨rfl, rfl⟩))
    go_ret
    exact ⟨rfl, B1.out⟩
  · have d1 : decide (0 < cab) = false := decide_eq_false g1
    by_cases g2 : 0 < cbc
    · have d2 : decide (0 < cbc) = true := decide_eq_true g2
      clear f4
      go_enter Try.func5, Try.ntmps5
      go_wp2_with (first | (go_at_call 10; refine (live_any _).mono ?_; rintro e w1 ⟨rfl, hb1⟩; have B1 := hide hb1; clear hb1) | (go_at_call 15; refine (cmp_any _ _ (by first | exact HA.out | exact HB.out | exact HC.out) (by first | exact HA.out | exact HB.out | exact HC.out) _).mono ?_; rintro e w' ⟨rfl, rfl⟩) | (go_at_call 16; refine (same_any _ _ HA.out HB.out _).mono ?_; rintro e w' ⟨rfl, rfl⟩))
      go_ret
      exact ⟨rfl, B1.out⟩
    · have d2 : decide (0 < cbc) = false := decide_eq_false g2
      have d3 : decide (cac ≤ 0) = true := decide_eq_true (f4 g1 g2)
      clear f4
      go_enter Try.func5, Try.ntmps5
      go_wp2_with (first | (go_at_call 10; refine (live_any _).mono ?_; rintro e w1 ⟨rfl, hb1⟩; have B1 := hide hb1; clear hb1) | (go_at_call 15; refine (cmp_any _ _ (by first | exact HA.out | exact HB.out | exact HC.out) (by first | exact HA.out | exact HB.out | exact HC.out) _).mono ?_; rintro e w' ⟨rfl, rfl⟩) | (go_at_call 16; refine (same_any _ _ HA.out HB.out _).mono ?_; rintro e w' ⟨rfl, rfl⟩))
      go_ret
      exact ⟨rfl, B1.out⟩
end Go.Proofs.Ytfopmdnpjokjcaa
