/- A root: what it is, in words; what Check answers. -/
import Derived.Test.YthhemdjggdgaaaaDoorWrite
namespace Go.Proofs.YthhemdjggdgaaaaDoor
open Go.RowKit
set_option linter.unusedVariables false

structure Rt where
  gen : Nat
  at_ : Int
  len : Int
  long : Int
  sum : Nat
  next : Nat
def Rt.zero : Rt := ⟨0, 0, 0, 0, 0, 0⟩
structure RGood (r : Rt) : Prop where
  g1 : 1 ≤ r.gen
  g2 : r.gen ≤ 1099511627776
  n2 : r.next ≤ 1099511627776
  a1 : 2 ≤ r.at_
  a2 : r.at_ ≤ 8192
  l1 : 1 ≤ r.len
  l2 : r.len ≤ 8192 - r.at_
  o1 : 0 ≤ r.long
  o2 : r.long ≤ 32 * r.len
open Classical in
noncomputable def rchk (r : Rt) : Int := if RGood r then 0 else 1
theorem rchk_zero {r : Rt} (h : RGood r) : rchk r = 0 := by unfold rchk; rw [if_pos h]
theorem rchk_one {r : Rt} (h : ¬ RGood r) : rchk r = 1 := by unfold rchk; rw [if_neg h]
/-- A root's value. -/
def rtv (r : Rt) : Value := .agg #[.int .u64 r.gen, .int .i64 r.at_, .int .i64 r.len, .int .i64 r.long, .int .u32 r.sum, .int .u64 r.next]
set_option maxRecDepth 100000 in
set_option maxHeartbeats 2000000 in
theorem rtcheck_any (w : World) (r : Rt) : Calls Tryd.prog 21 #[rtv r] w fun e w' => e = .returned (.int .i64 (rchk r)) ∧ Below w.heap.size w w' := by
  unfold rtv
  by_cases c0 : r.gen < 1
  · have z0 : ((r.gen : Nat) : Int) < 1 := by omega
    have HE := hide (rchk_one (r := r) (fun h => by have := h.g1; omega))
    go_enter Tryd.func21, Tryd.ntmps21
    go_wp2_with fail
    go_ret
    exact ⟨by rw [HE.out]; rfl, below_alloc2 _ _ _⟩
  · have z0 : ¬ ((r.gen : Nat) : Int) < 1 := by omega
    by_cases c1 : 1099511627776 < r.gen
    · have z1 : (1099511627776 : Int) < (r.gen : Int) := by omega
      have HE := hide (rchk_one (r := r) (fun h => by have := h.g2; omega))
      go_enter Tryd.func21, Tryd.ntmps21
      go_wp2_with fail
      go_ret
      exact ⟨by rw [HE.out]; rfl, below_alloc2 _ _ _⟩
    · have z1 : ¬ (1099511627776 : Int) < (r.gen : Int) := by omega
      by_cases c2 : 1099511627776 < r.next
      · have z2 : (1099511627776 : Int) < (r.next : Int) := by omega
        have HE := hide (rchk_one (r := r) (fun h => by have := h.n2; omega))
        go_enter Tryd.func21, Tryd.ntmps21
        go_wp2_with fail
        go_ret
        exact ⟨by rw [HE.out]; rfl, below_alloc2 _ _ _⟩
      · have z2 : ¬ (1099511627776 : Int) < (r.next : Int) := by omega
        by_cases c3 : r.at_ < 2
        · have z3 : r.at_ < 2 := by omega
          have HE := hide (rchk_one (r := r) (fun h => by have := h.a1; omega))
          go_enter Tryd.func21, Tryd.ntmps21
          go_wp2_with fail
          go_ret
          exact ⟨by rw [HE.out]; rfl, below_alloc2 _ _ _⟩
        · have z3 : ¬ r.at_ < 2 := by omega
          by_cases c4 : 8192 < r.at_
          · have z4 : 8192 < r.at_ := by omega
            have HE := hide (rchk_one (r := r) (fun h => by have := h.a2; omega))
            go_enter Tryd.func21, Tryd.ntmps21
            go_wp2_with fail
            go_ret
            exact ⟨by rw [HE.out]; rfl, below_alloc2 _ _ _⟩
          · have z4 : ¬ 8192 < r.at_ := by omega
            by_cases c5 : r.len < 1
            · have z5 : r.len < 1 := by omega
              have HE := hide (rchk_one (r := r) (fun h => by have := h.l1; omega))
              go_enter Tryd.func21, Tryd.ntmps21
              go_wp2_with fail
              go_ret
              exact ⟨by rw [HE.out]; rfl, below_alloc2 _ _ _⟩
            · have z5 : ¬ r.len < 1 := by omega
              by_cases c6 : 8192 - r.at_ < r.len
              · have z6 : 8192 - r.at_ < r.len := by omega
                have HE := hide (rchk_one (r := r) (fun h => by have := h.l2; omega))
                have w1 : IntKind.i64.wrap (8192 - r.at_) = 8192 - r.at_ := IntWalk.i64_in _ (by omega)
                have w3 := IntWalk.wrap64_in (8192 - r.at_) (by omega)
                go_enter Tryd.func21, Tryd.ntmps21
                go_wp2_with fail
                go_ret
                exact ⟨by rw [HE.out]; rfl, below_alloc2 _ _ _⟩
              · have z6 : ¬ 8192 - r.at_ < r.len := by omega
                by_cases c7 : r.long < 0
                · have z7 : r.long < 0 := by omega
                  have HE := hide (rchk_one (r := r) (fun h => by have := h.o1; omega))
                  have w1 : IntKind.i64.wrap (8192 - r.at_) = 8192 - r.at_ := IntWalk.i64_in _ (by omega)
                  have w3 := IntWalk.wrap64_in (8192 - r.at_) (by omega)
                  go_enter Tryd.func21, Tryd.ntmps21
                  go_wp2_with fail
                  go_ret
                  exact ⟨by rw [HE.out]; rfl, below_alloc2 _ _ _⟩
                · have z7 : ¬ r.long < 0 := by omega
                  by_cases c8 : 32 * r.len < r.long
                  · have z8 : 32 * r.len < r.long := by omega
                    have HE := hide (rchk_one (r := r) (fun h => by have := h.o2; omega))
                    have w1 : IntKind.i64.wrap (8192 - r.at_) = 8192 - r.at_ := IntWalk.i64_in _ (by omega)
                    have w2 : IntKind.i64.wrap (32 * r.len) = 32 * r.len := IntWalk.i64_in _ (by omega)
                    have w3 := IntWalk.wrap64_in (8192 - r.at_) (by omega)
                    have w4 := IntWalk.wrap64_in (32 * r.len) (by omega)
                    go_enter Tryd.func21, Tryd.ntmps21
                    go_wp2_with fail
                    go_ret
                    exact ⟨by rw [HE.out]; rfl, below_alloc2 _ _ _⟩
                  · have z8 : ¬ 32 * r.len < r.long := by omega
                    have HE := hide (rchk_zero (r := r) ⟨by omega, by omega, by omega, by omega, by omega, by omega, by omega, by omega, by omega⟩)
                    have w1 : IntKind.i64.wrap (8192 - r.at_) = 8192 - r.at_ := IntWalk.i64_in _ (by omega)
                    have w2 : IntKind.i64.wrap (32 * r.len) = 32 * r.len := IntWalk.i64_in _ (by omega)
                    have w3 := IntWalk.wrap64_in (8192 - r.at_) (by omega)
                    have w4 := IntWalk.wrap64_in (32 * r.len) (by omega)
                    go_enter Tryd.func21, Tryd.ntmps21
                    go_wp2_with fail
                    go_ret
                    exact ⟨by rw [HE.out]; rfl, below_alloc2 _ _ _⟩
end Go.Proofs.YthhemdjggdgaaaaDoor
