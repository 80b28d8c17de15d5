import Derived.Test.YtbfagfnclgfmhaaEql
import Derived.Test.YtbfagfnclgfmhaaPl
import Derived.BigQuiet
namespace Go.Proofs.Ytbfagfnclgfmhaa
set_option linter.unusedVariables false
open Go.RowKit

theorem below_dr {B : Nat} {a w : World} (h : Below B a w) (n : Nat) : Below B a (w.drewN n) := ⟨h.os, h.tape, h.output, h.size, h.block⟩
theorem chk_one {ps : List Pin} (h : ¬ Good ps) : chk ps = 1 := by
  unfold chk
  rw [if_neg (fun hg => h (good_iff.1 hg))]
theorem chk_zero {ps : List Pin} (h : Good ps) : chk ps = 0 := by
  unfold chk
  rw [if_pos (good_iff.2 h)]

theorem rcheck_any (w : World) (A : Option Addr) (n c : Nat) (ps : List Pin) (hr : PR w A n ps) (hn : n ≤ 1000) :
    Calls Try.prog 20 #[.slice A n c] w fun e w' => e = .returned (.int .i64 (chk ps)) ∧ Below w.heap.size w w' := by
  have HR := hide hr
  have HL := hide hr.len
  clear hr
  by_cases h64 : n ≤ 64
  · go_enter Try.func20, Try.ntmps20
    go_wp2_with fail
    go_loopw [10] (fun v wr => ∃ k : Nat, v = .int .i64 k ∧ k ≤ n ∧ Hid (∀ i, i < k → odd (nth ps i) = false ∧ (0 < i → (nth ps (i - 1)).1 < (nth ps i).1)) ∧ Hid (Below w.heap.size w wr)) (fun v _ => n - (intOf v).toNat)
    case atStart => exact ⟨0, rfl, by omega, hide (fun i hi => by omega), hide (Below.refl _ _)⟩
    case round =>
      obtain ⟨k, rfl, hk, HK, HB⟩ := hrel
      by_cases hkn : k < n
      · have hkz : (k : Int) < (n : Int) := by omega
        obtain ⟨ad, rfl, c0, c1⟩ := (HR.out.below HB.out).cell k hkn
        obtain ⟨p, hp⟩ : ∃ p, nth ps k = p := ⟨_, rfl⟩
        rw [hp] at c0 c1
        have HP := hide hp
        clear hp
        have fin : odd p = true ∨ (odd p = false ∧ (0 < k ∧ p.1 ≤ (nth ps (k - 1)).1)) → Hid (chk ps = 1) := by
          intro h
          refine hide (chk_one (fun hg => ?_))
          rcases h with h | ⟨_, h1, h2⟩
          · have := odd_false.2 ⟨hg.gen k (by rw [HL.out]; exact hkn), hg.one k (by rw [HL.out]; exact hkn), hg.max k (by rw [HL.out]; exact hkn)⟩
            rw [HP.out, h] at this; cases this
          · have := hg.lt (k - 1) k (by omega) (by rw [HL.out]; exact hkn)
            rw [HP.out] at this; omega
        have on : odd p = false → (0 < k → (nth ps (k - 1)).1 < p.1) → Hid (∀ i, i < k + 1 → odd (nth ps i) = false ∧ (0 < i → (nth ps (i - 1)).1 < (nth ps i).1)) := by
          intro h1 h2
          refine hide (fun i hi => ?_)
          by_cases hik : i < k
          · exact HK.out i hik
          · obtain rfl : i = k := by omega
            rw [HP.out]; exact ⟨h1, h2⟩
        obtain ⟨pg, pn⟩ := p
        by_cases q1 : 1099511627776 < pg
        · have FIN := fin (.inl (by unfold odd; simp; omega))
          clear fin on
          have t1 : decide ((1099511627776 : Int) < (pg : Int)) = true := decide_eq_true (by omega)
          go_wp2_with fail
          go_quiet (fail)
          go_wp2_with fail
          go_ret
          exact ⟨by rw [FIN.out]; rfl, below_dr (HB.out.alloc HB.out.size _) _⟩
        · have t1 : decide ((1099511627776 : Int) < (pg : Int)) = false := decide_eq_false (by omega)
          by_cases q2 : pn < 1
          · have FIN := fin (.inl (by unfold odd; simp; omega))
            clear fin on
            have t2 : decide (pn < 1) = true := decide_eq_true q2
            go_wp2_with fail
            go_quiet (fail)
            go_wp2_with fail
            go_ret
            exact ⟨by rw [FIN.out]; rfl, below_dr (HB.out.alloc HB.out.size _) _⟩
          · have t2 : decide (pn < 1) = false := decide_eq_false q2
            by_cases q3 : 64 < pn
            · have FIN := fin (.inl (by unfold odd; simp; omega))
              clear fin on
              have t3 : decide (64 < pn) = true := decide_eq_true q3
              go_wp2_with fail
              go_quiet (fail)
              go_wp2_with fail
              go_ret
              exact ⟨by rw [FIN.out]; rfl, below_dr (HB.out.alloc HB.out.size _) _⟩
            · have t3 : decide (64 < pn) = false := decide_eq_false q3
              have ho : odd (pg, pn) = false := odd_false.2 ⟨by simp; omega, by simp; omega, by simp; omega⟩
              by_cases q4 : 0 < k
              · have t4 : decide ((0 : Int) < (k : Int)) = true := decide_eq_true (by omega)
                have t4' : decide (0 < k) = true := decide_eq_true q4
                obtain ⟨j, hj⟩ : ∃ j : Nat, k = j + 1 := ⟨k - 1, by omega⟩
                have hjz : (j : Int) < (n : Int) := by omega
                have hw1 : IntKind.i64.wrap ((k : Int) - 1) = (j : Int) := by rw [IntKind.wrap_i64]; omega
                obtain ⟨ad', hA, d0, d1⟩ := (HR.out.below HB.out).cell j (by omega)
                injection hA with hA
                subst hA
                have hlt : (ad.add (j * 2)).block < wr.heap.size := by
                  obtain ⟨ad2, hA, hb, _⟩ := (HR.out.below HB.out).2 (by omega)
                  injection hA with hA
                  subst hA
                  rw [block_of_add]; exact hb
                have e0 : ∀ o, (wr.alloc o).cell? (ad.add (j * 2)) = wr.cell? (ad.add (j * 2)) := fun o => World.cell?_alloc_lt wr o _ hlt
                rw [d0] at e0
                clear d0 d1 hlt
                rw [show k - 1 = j by omega] at fin on
                obtain ⟨qg, hq⟩ : ∃ qg, (nth ps j).1 = qg := ⟨_, rfl⟩
                rw [hq] at fin on e0
                clear hj hq
                by_cases q5 : pg ≤ qg
                · have FIN := fin (.inr ⟨ho, q4, q5⟩)
                  have t5 : decide ((pg : Int) ≤ (qg : Int)) = true := decide_eq_true (by omega)
                  clear fin on
                  go_wp2_with fail
                  go_quiet (fail)
                  go_wp2_with fail
                  go_ret
                  exact ⟨by rw [FIN.out]; rfl, below_dr (HB.out.alloc HB.out.size _) _⟩
                · have ON := on ho (fun _ => by simp; omega)
                  have t5 : decide ((pg : Int) ≤ (qg : Int)) = false := decide_eq_false (by omega)
                  clear fin on
                  go_wp2_with fail
                  go_quiet (fail)
                  go_wp2_with fail
                  go_roundw
                  case rel => exact ⟨k + 1, by go_num, by omega, ON, hide (below_dr (HB.out.alloc HB.out.size _) _)⟩
                  case measure => simp [intOf]; omega
              · have t4 : decide ((0 : Int) < (k : Int)) = false := decide_eq_false (by omega)
                have t4' : decide (0 < k) = false := decide_eq_false q4
                have ON := on ho (fun h => absurd h q4)
                clear fin on
                go_wp2_with fail
                go_quiet (fail)
                go_wp2_with fail
                go_roundw
                case rel => exact ⟨k + 1, by go_num, by omega, ON, hide (below_dr (HB.out.alloc HB.out.size _) _)⟩
                case measure => simp [intOf]; omega
      · have hkz : ¬ (k : Int) < (n : Int) := by omega
        have hke : Hid (k = n) := by show _ = _; omega
        go_wp2_with fail
        go_ret
        have hg : Good ps := by
          refine ⟨by rw [HL.out]; exact h64, fun i hi => ?_, fun i hi => ?_, fun i hi => ?_, fun i hi => ?_⟩
          · exact (odd_false.1 (HK.out i (by rw [hke.out, ← HL.out]; exact hi)).1).1
          · exact (odd_false.1 (HK.out i (by rw [hke.out, ← HL.out]; exact hi)).1).2.1
          · exact (odd_false.1 (HK.out i (by rw [hke.out, ← HL.out]; exact hi)).1).2.2
          · have := (HK.out (i + 1) (by rw [hke.out, ← HL.out]; exact hi)).2 (by omega)
            simpa using this
        exact ⟨by rw [chk_zero hg]; rfl, HB.out⟩
  · have hz : (64 : Int) < (n : Int) := by omega
    go_enter Try.func20, Try.ntmps20
    go_wp2_with fail
    go_ret
    exact ⟨by rw [chk_one (fun h => h64 (by rw [← HL.out]; exact h.len))]; rfl, Below.refl _ _⟩
end Go.Proofs.Ytbfagfnclgfmhaa
