/- Two roots compared by '=='. -/
import Derived.Test.YthhemdjggdgaaaaDoorRback
import Derived.Laws.StructEq
namespace Go.Proofs.YthhemdjggdgaaaaDoor
open Go.RowKit
set_option linter.unusedVariables false

theorem eqX_any (a b c e : Int) (w : World) : (Op.equalIn 9999 24 (.agg #[.int .i64 a, .int .i64 b]) (.agg #[.int .i64 c, .int .i64 e])).run Tryd.prog w = .ok (a == c && b == e) w := by
  have hS : Tryd.prog.underlying 24 = some (.struct (Tryd.prog.fieldsOf 24)) := by kernel_rfl
  have hp : Tryd.prog.stoodInHeld 24 = false := by kernel_rfl
  rw [show (9999 : Nat) = 9998 + 1 from rfl, run_equalIn_agg w 9998 24 _ _ hS hp]
  simp only [Program.fieldsOf, Tryd.underlying24]
  go_simp
  by_cases h1 : a = c <;> by_cases h2 : b = e <;> simp [h1, h2]
theorem eqR_of (r s : Rt) (w : World) (b : Bool) (h : b = true ↔ r = s) : (Op.equalIn 10000 27 (.agg #[.int .u64 r.gen, .int .i64 r.at_, .int .i64 r.len, .int .i64 r.long, .int .u32 r.sum, .int .u64 r.next]) (.agg #[.int .u64 s.gen, .int .i64 s.at_, .int .i64 s.len, .int .i64 s.long, .int .u32 s.sum, .int .u64 s.next])).run Tryd.prog w = .ok b w := by
  have hS : Tryd.prog.underlying 27 = some (.struct (Tryd.prog.fieldsOf 27)) := by kernel_rfl
  have hp : Tryd.prog.stoodInHeld 27 = false := by kernel_rfl
  have eX := eqX_any r.at_ r.len s.at_ s.len
  rw [show (10000 : Nat) = 9999 + 1 from rfl, run_equalIn_agg w 9999 27 _ _ hS hp]
  simp only [Program.fieldsOf, Tryd.underlying27]
  go_simp
  obtain ⟨r0, r1, r2, r3, r4, r5⟩ := r
  obtain ⟨s0, s1, s2, s3, s4, s5⟩ := s
  simp only [Rt.mk.injEq] at h ⊢
  cases b with
  | true =>
    obtain ⟨rfl, rfl, rfl, rfl, rfl, rfl⟩ := h.1 rfl
    simp
  | false =>
    repeat' split
    all_goals first | rfl | exact absurd (h.2 ⟨by omega, by omega, by omega, by omega, by omega, by omega⟩) Bool.false_ne_true
theorem eqR_self (r : Rt) (w : World) : (Op.equalIn 10000 27 (.agg #[.int .u64 r.gen, .int .i64 r.at_, .int .i64 r.len, .int .i64 r.long, .int .u32 r.sum, .int .u64 r.next]) (.agg #[.int .u64 r.gen, .int .i64 r.at_, .int .i64 r.len, .int .i64 r.long, .int .u32 r.sum, .int .u64 r.next])).run Tryd.prog w = .ok true w := eqR_of r r w true (by simp)
theorem eqR_ne {r s : Rt} (h : r ≠ s) (w : World) : (Op.equalIn 10000 27 (.agg #[.int .u64 r.gen, .int .i64 r.at_, .int .i64 r.len, .int .i64 r.long, .int .u32 r.sum, .int .u64 r.next]) (.agg #[.int .u64 s.gen, .int .i64 s.at_, .int .i64 s.len, .int .i64 s.long, .int .u32 s.sum, .int .u64 s.next])).run Tryd.prog w = .ok false w := eqR_of r s w false (by simp [h])
end Go.Proofs.YthhemdjggdgaaaaDoor
