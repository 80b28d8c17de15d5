import Derived.Test.YtfopmdnpjokjcaaWEdges
import Derived.Test.YtfopmdnpjokjcaaMid2
namespace Go.Proofs.Ytfopmdnpjokjcaa
open Go.RowKit Plain

theorem mids_same {a b r s : Nat} (h1 : ∀ m, midN a b = some m → r = m) (h2 : midN a b = none → isNaN r = true)
    (h3 : ∀ m, midN a b = some m → s = m) (h4 : midN a b = none → isNaN s = true) : ((keyN r : Int) == (keyN s : Int)) = true := by
  cases h : midN a b with
  | none => rw [key_nan (h2 h), key_nan (h4 h)]; rfl
  | some m => rw [h1 m h, h3 m h]; simp

theorem below_drawn {w w' : World} (n : Nat) (h : Below w.heap.size w w') : Below w.heap.size w (w'.drewN n) := by
  exact ⟨h.os, h.tape, h.output, h.size, h.block⟩

set_option maxHeartbeats 1000000 in
theorem doesW (w : World) (a b k : Nat) (ha : a < 18446744073709551616) (hb : b < 18446744073709551616) (hk : k < 18446744073709551616) :
    Calls Try.prog 8 #[.float .f64 a, .float .f64 b, .int .u64 k] w fun e w' => e = .returned (.bool true) ∧ Below w.heap.size w w' := by
  have HA := hide ha
  have HB := hide hb
  have HK := hide hk
  have HO := hide (of_lt k hk)
  obtain ⟨h1, hh1⟩ : ∃ q, (ofN k).1 = q := ⟨_, rfl⟩
  obtain ⟨h3, hh3⟩ : ∃ q, (ofN k).2 = q := ⟨_, rfl⟩
  obtain ⟨ka, hka⟩ : ∃ q, keyN a = q := ⟨_, rfl⟩
  obtain ⟨kb, hkb⟩ : ∃ q, keyN b = q := ⟨_, rfl⟩
  rw [hh1] at HO
  clear ha hb hk
  go_enter Try.func8, Try.ntmps8
  go_wp2_with (first | (go_at_call 10; refine (live_any _).mono ?_; rintro e w1 ⟨rfl, hb1⟩; have B1 := hide hb1; clear hb1) | (go_at_call 19; refine (of_any _ HK.out _).mono ?_; rintro e w' ⟨rfl, rfl⟩) | (go_at_call 20; refine (rof_any _ HK.out _).mono ?_; rintro e w' ⟨rfl, rfl⟩) | (go_at_call 14; refine (key_any _ HA.out _).mono ?_; rintro e w' ⟨rfl, rfl⟩) | (go_at_call 21; refine (rkey_any _ HA.out _).mono ?_; rintro e w' ⟨rfl, rfl⟩) | (go_at_call 15; refine (cmp_any _ _ HA.out HB.out _).mono ?_; rintro e w' ⟨rfl, rfl⟩) | (go_at_call 23; refine (rcmp_any _ _ HA.out HB.out _).mono ?_; rintro e w' ⟨rfl, rfl⟩) | (go_at_call 16; refine (same_any _ _ HA.out HB.out _).mono ?_; rintro e w' ⟨rfl, rfl⟩) | (go_at_call 22; refine (rsame_any _ _ (by first | exact HA.out | exact HO.out) (by first | exact HB.out | exact HO.out) _).mono ?_; rintro e w' ⟨rfl, rfl⟩) | (go_at_call 24; refine (mid_any a b _).mono ?_; rintro e w' ⟨r, nq, rfl, rfl, hr, hm1, hm2⟩; have HR := hide hr; have HM1 := hide hm1; have HM2 := hide hm2; clear hr hm1 hm2) | (go_at_call 25; refine (rmid_any a b HA.out HB.out _).mono ?_; rintro e w' ⟨s, rfl, rfl, hr, hm1, hm2⟩; have HS := hide hr; have tq := mids_same HM1.out HM2.out hm1 hm2; clear hr hm1 hm2) | (go_at_call 22; refine (rsame_any _ _ HR.out HS.out _).mono ?_; rintro e w' ⟨rfl, rfl⟩))
  go_ret
  exact ⟨rfl, below_drawn _ B1.out⟩
end Go.Proofs.Ytfopmdnpjokjcaa
