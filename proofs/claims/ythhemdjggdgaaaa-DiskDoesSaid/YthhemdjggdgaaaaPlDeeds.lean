/- What DiskDeeds' walk comes to: plain. -/
import Derived.Test.YthhemdjggdgaaaaPlTwice
import Derived.Test.YthhemdjggdgaaaaLim
import Derived.Deep.OwnRows
namespace Go.Proofs.Ythhemdjggdgaaaa
open Go.RowKit
set_option linter.unusedVariables false

theorem make32 (w : World) : (Instr.makeSlice 22 (.int .i64 32) (.int .i64 32)).run Try.prog w = .ok (.slice (some ⟨w.heap.size, 0, none⟩) 32 32) (w.alloc (.cells (madeCells #[.int .u8 0] 32) 5)) :=
  run_make_row' (P := Try.prog) 22 5 (.int .u8 0) 1 Try.underlying22 u8_info rfl .i64 .i64 32 (by omega) (by omega) w
theorem made32 (w : World) : BR (w.alloc (.cells (madeCells #[.int .u8 0] 32) 5)) (some ⟨w.heap.size, 0, none⟩) 32 (zeros 32) := by
  refine ⟨by rw [byt_length, zeros_len], fun _ => ⟨_, rfl, by simp, fun j u h => ?_⟩⟩
  have e : (madeCells (Value.int .u8 0).cells (32 * 1)).toList = byt (zeros 32) := zero_bytes 32
  rw [← e] at h
  rw [Addr.add_lit, Nat.zero_add]
  exact box_cell w (madeCells #[.int .u8 0] 32) 5 j u (by rw [← Array.getElem?_toList]; exact h)
/-- A disk that deeds are done with. -/
structure Small (X : Dk) : Prop where
  good : Good X
  dry : X.dry.length ≤ 4000
theorem Small.n {X : Dk} (h : Small X) : X.n ≤ 125 := by have := h.good.whole; have := h.dry; omega
theorem Small.wet {X : Dk} (h : Small X) : X.wet.length ≤ 125 := by have := h.good.wet_n; have := h.n; omega
theorem Small.is0 {X : Dk} (h : Small X) : Is X 0 := ⟨h.good, by omega, by have := h.good.one; omega⟩
theorem Small.read {X : Dk} (h : Small X) : ∃ y, readS X 0 = (y, 0) := ⟨_, readS_ok h.is0⟩
theorem dec_max {l : Int} (h1 : -1 ≤ l) (h0 : l ≠ 0) : max (l - 1) (-1) = dec l := by unfold dec; split <;> omega
theorem Small.write {X : Dk} (h : Small X) (h0 : X.left ≠ 0) : ∃ N, writeS X 0 (zeros 32) = (N, 0) ∧ Small N ∧ N.left = dec X.left :=
  ⟨_, write_lives h.is0 (zeros_len 32) h0, ⟨Good.put h.is0 (zeros_len 32) (dec_lo h.good.left0) (dec_hi h.good.left1), h.dry⟩, rfl⟩
theorem Small.sync {X : Dk} (h : Small X) (h0 : X.left ≠ 0) : ∃ N, syncS X = (N, 0) ∧ Small N ∧ N.left = dec X.left :=
  ⟨_, sync_lives h.good h0, ⟨h.good.settled _ (dec_lo h.good.left0) (dec_hi h.good.left1), by rw [settled_len h.good]; exact h.dry⟩, rfl⟩
theorem deeds_lim {d : Dk} {k : Int} (hf : few d = true) (h : Good d ∧ -1 ≤ k ∧ k ≤ 1073741824) : ∃ X, limS d k = (X, 0) ∧ Small X ∧ X.left = k :=
  ⟨_, limS_ok h.1 h.2.1 h.2.2, ⟨h.1.leave h.2.1 h.2.2, (few_n hf h.1).1⟩, rfl⟩
end Go.Proofs.Ythhemdjggdgaaaa
