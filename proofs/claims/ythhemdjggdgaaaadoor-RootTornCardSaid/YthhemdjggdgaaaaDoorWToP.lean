/- RootTorn's walk: words. -/
import Derived.Test.YthhemdjggdgaaaaDoorPlRTo
import Derived.Test.YthhemdjggdgaaaaDoorReq
import Derived.Test.YthhemdjggdgaaaaDoorRlive
namespace Go.Proofs.YthhemdjggdgaaaaDoor
open Go.RowKit
set_option linter.unusedVariables false

theorem RB.oth {w : World} {b : Nat} {v0 v1 v2 v3 v4 v5 u : Value} (h : RB w b v0 v1 v2 v3 v4 v5) {a : Addr} (hne : b ≠ a.block) : RB (w.setCell a u) b v0 v1 v2 v3 v4 v5 := (Below.heap_setCell w a u b hne).trans h
theorem RB.oth3 {w : World} {b k : Nat} {v0 v1 v2 v3 v4 v5 u v t : Value} (h : RB w b v0 v1 v2 v3 v4 v5) (hne : b ≠ k) : RB (((w.setCell ⟨k, 0, none⟩ u).setCell ⟨k, 1, none⟩ v).setCell ⟨k, 2, none⟩ t) b v0 v1 v2 v3 v4 v5 := ((h.oth hne).oth hne).oth hne
theorem one_cell (w : World) (v : UInt8) : BR (w.alloc (.cells #[.int .u8 v.toNat] 5)) (some ⟨w.heap.size, 0, none⟩) 1 [v] := by
  refine ⟨rfl, fun _ => ⟨_, rfl, by simp, fun j u h => ?_⟩⟩
  cases j with
  | zero =>
    have e : u = .int .u8 v.toNat := by
      have : (byt [v])[0]? = some (Value.int .u8 v.toNat) := rfl
      rw [this] at h
      exact (Option.some.inj h).symm
    subst e
    exact box_cell w #[.int .u8 v.toNat] 5 0 (.int .u8 v.toNat) rfl
  | succ j => simp [byt] at h
theorem one_cell1 (w : World) (o : Array Value) (t : TypeId) (v : UInt8) : BR ((w.alloc (.cells o t)).alloc (.cells #[.int .u8 v.toNat] 5)) (some ⟨w.heap.size + 1, 0, none⟩) 1 [v] := by
  have := one_cell (w.alloc (.cells o t)) v
  rw [box_size] at this
  exact this
end Go.Proofs.YthhemdjggdgaaaaDoor
