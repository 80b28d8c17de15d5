import Derived.Test.YtbfagfnclgfmhaaWBack
import Derived.Test.YtbfagfnclgfmhaaPlf
namespace Go.Proofs.Ytbfagfnclgfmhaa
set_option linter.unusedVariables false
open Go.RowKit

theorem open_cast (w : World) (A : Option Addr) (n c : Nat) (ps : List Pin) (gen k : Nat) (z : Int) (hz : z = (gen : Int) + k) (qs : List Pin) (x : Int) (h : openS ps (gen + k) = (qs, x)) (hr : PR w A n ps) (hn : n ≤ 1000) :
    Calls Try.prog 9 #[.slice A n c, .int .u64 z] w (IsPost w qs x) := by
  rw [hz, ← Int.natCast_add]; exact open_is w A n c ps (gen + k) qs x h hr hn

set_option maxRecDepth 100000 in
set_option maxHeartbeats 4000000 in
theorem fullW (w : World) (gen : Nat) (many : Int) :
    Calls Try.prog 3 #[.int .u64 gen, .int .i64 many] w fun e w' => e = .returned (.bool true) ∧ Below w.heap.size w w' := by
  by_cases h1 : many < 0
  · have t1 : decide (many < 0) = true := decide_eq_true h1
    go_enter Try.func3, Try.ntmps3
    go_wp2_with (first | (go_at_call 8; refine (live_any _).mono ?_; rintro e w1 ⟨rfl, hb⟩; have HB1 := hide hb; clear hb))
    go_ret
    exact ⟨rfl, HB1.out⟩
  · have t1 : decide (many < 0) = false := decide_eq_false h1
    by_cases h2 : 80 < many
    · have t2 : decide (80 < many) = true := decide_eq_true h2
      go_enter Try.func3, Try.ntmps3
      go_wp2_with (first | (go_at_call 8; refine (live_any _).mono ?_; rintro e w1 ⟨rfl, hb⟩; have HB1 := hide hb; clear hb))
      go_ret
      exact ⟨rfl, HB1.out⟩
    · have t2 : decide (80 < many) = false := decide_eq_false h2
      by_cases h3 : 1073741824 < gen
      · have t3 : decide ((1073741824 : Int) < (gen : Int)) = true := decide_eq_true (by omega)
        go_enter Try.func3, Try.ntmps3
        go_wp2_with (first | (go_at_call 8; refine (live_any _).mono ?_; rintro e w1 ⟨rfl, hb⟩; have HB1 := hide hb; clear hb))
        go_ret
        exact ⟨rfl, HB1.out⟩
      · have t3 : decide ((1073741824 : Int) < (gen : Int)) = false := decide_eq_false (by omega)
        have hg : gen ≤ 1073741824 := by omega
        obtain ⟨N, rfl⟩ : ∃ N : Nat, many = N := ⟨many.toNat, by omega⟩
        have hN : N ≤ 80 := by omega
        have hgz : (gen : Int) ≤ 1073741824 := by omega
        clear h1 h2 h3
        go_enter Try.func3, Try.ntmps3
        go_wp2_with (first | (go_at_call 8; refine (live_any _).mono ?_; rintro e w1 ⟨rfl, hb⟩; have HB1 := hide hb; clear hb))
        go_loopw [6, 7, 26] (fun u v x wr => ∃ (k m : Nat) (A1 A2 : Option Addr) (n1 c1 n2 c2 : Nat), u = .slice A1 n1 c1 ∧ v = .slice A2 n2 c2 ∧ x = .int .i64 k ∧ k ≤ N ∧ Hid (m = min k 64) ∧ n1 ≤ 1000 ∧ n2 ≤ 1000 ∧ Hid (PR wr A1 n1 (oneL gen m)) ∧ Hid (PR wr A2 n2 (rep gen m)) ∧ Hid (Below w.heap.size w wr)) (fun _ _ v _ => N - (intOf v).toNat)
        case atStart => exact ⟨0, 0, none, none, 0, 0, 0, 0, rfl, rfl, rfl, by omega, rfl, by omega, by omega, pr_nil _, pr_nil _, HB1⟩
        case round =>
          obtain ⟨k, m, A1, A2, n1, c1, n2, c2, rfl, rfl, rfl, hk, HM, hn1, hn2, HP1, HP2, HB⟩ := hrel
          by_cases hkN : k < N
          · have hkz : (k : Int) < (N : Int) := by omega
            have hwz : IntKind.u64.wrap ((gen : Int) + k) = (gen : Int) + k := by rw [IntKind.wrap_u64]; omega
            obtain ⟨z, hz⟩ : ∃ z : Int, z = (gen : Int) + k := ⟨_, rfl⟩
            by_cases h64 : k < 64
            · have hk64 : (k : Int) < 64 := by omega
              obtain rfl : m = k := by have := HM.out; omega
              have HO1 := hide (one_less hg h64)
              have HO2 := hide (rep_less hg h64)
              have HM' : Hid (m + 1 = min (m + 1) 64) := by show _ = _; omega
              go_wp2_with (first
                | (go_at_call 9; (with_reducible refine (open_is _ A1 n1 c1 _ gen _ _ HO1.out HP1.out hn1).mono ?_); rintro e w2 ⟨A3, n3, c3, rfl, ho, _, hn3, hb⟩; replace HP2 := hide (HP2.out.below hb); have HP3 := hide ho.reads; replace HB := hide (HB.out.trans (hb.mono HB.out.size)); clear hb ho)
                | (go_at_call 9; refine (open_cast _ A2 n2 c2 _ gen m _ (by first | rfl | omega) _ _ HO2.out HP2.out hn2).mono ?_; rintro e w2 ⟨A4, n4, c4, rfl, ho, _, hn4, hb⟩; replace HP3 := hide (HP3.out.below hb); have HP4 := hide ho.reads; replace HB := hide (HB.out.trans (hb.mono HB.out.size)); clear hb ho))
              go_roundw
              case rel => exact ⟨m + 1, m + 1, A3, A4, n3, c3, n4, c4, rfl, rfl, by go_num, by omega, HM', hn3, hn4, HP3, HP4, HB⟩
              case measure => simp [intOf]; omega
            · have hk64 : ¬ (k : Int) < 64 := by omega
              obtain rfl : m = 64 := by have := HM.out; omega
              have HO1 := hide (one_full hg)
              have HO2 := hide (rep_full hg (by omega : 64 ≤ k) (by omega))
              have HM' : Hid (64 = min (k + 1) 64) := by show _ = _; omega
              go_wp2_with (first
                | (go_at_call 9; (with_reducible refine (open_is _ A1 n1 c1 _ gen _ _ HO1.out HP1.out hn1).mono ?_); rintro e w2 ⟨A3, n3, c3, rfl, ho, _, hn3, hb⟩; replace HP2 := hide (HP2.out.below hb); replace HP1 := hide (HP1.out.below hb); replace HB := hide (HB.out.trans (hb.mono HB.out.size)); clear hb ho)
                | (go_at_call 9; refine (open_cast _ A2 n2 c2 _ gen k _ (by first | rfl | omega) _ _ HO2.out HP2.out hn2).mono ?_; rintro e w2 ⟨A4, n4, c4, rfl, ho, _, hn4, hb⟩; replace HP2 := hide (HP2.out.below hb); replace HP1 := hide (HP1.out.below hb); replace HB := hide (HB.out.trans (hb.mono HB.out.size)); clear hb ho))
              go_roundw
              case rel => exact ⟨k + 1, 64, A1, A2, n1, c1, n2, c2, rfl, rfl, by go_num, by omega, HM', hn1, hn2, HP1, HP2, HB⟩
              case measure => simp [intOf]; omega
          · have hkz : ¬ (k : Int) < (N : Int) := by omega
            have hke : k = N := by omega
            have hl2 := HP2.out.len
            rw [rep_len] at hl2
            obtain rfl := hl2
            have HMM : Hid (manyS (oneL gen m) gen = ((m : Int), 0)) := many_one hg (by have := HM.out; omega)
            subst hke
            by_cases h64 : k ≤ 64
            · obtain rfl : m = k := by have := HM.out; omega
              have hmz : (m : Int) ≤ 64 := by omega
              go_wp2_with (first
                | (go_at_call 10; (with_reducible refine (many_is _ A1 n1 c1 _ gen _ _ HMM.out HP1.out hn1).mono ?_); rintro e w2 ⟨rfl, hb⟩; replace HB := hide (HB.out.trans (hb.mono HB.out.size)); clear hb))
              go_ret
              exact ⟨rfl, HB.out⟩
            · obtain rfl : m = 64 := by have := HM.out; omega
              have hmz : ¬ (k : Int) ≤ 64 := by omega
              go_wp2_with (first
                | (go_at_call 10; (with_reducible refine (many_is _ A1 n1 c1 _ gen _ _ HMM.out HP1.out hn1).mono ?_); rintro e w2 ⟨rfl, hb⟩; replace HB := hide (HB.out.trans (hb.mono HB.out.size)); clear hb))
              go_ret
              exact ⟨rfl, HB.out⟩
end Go.Proofs.Ytbfagfnclgfmhaa
