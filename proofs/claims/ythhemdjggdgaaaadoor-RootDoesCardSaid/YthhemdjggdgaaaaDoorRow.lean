/- Facts kept from the walk; rows of the call's own, of whatever elements. -/
import Derived.Test.YthhemdjggdgaaaaDoorRowk
import Derived.WalkKit
import Derived.ProofKit
import Derived.WalkLawsBesides
import Derived.BigQuiet
import Derived.StillTailTactics
import Derived.LoopTactic
import Derived.Deep.QuietTactic
namespace Go.Proofs.YthhemdjggdgaaaaDoor
open Go.RowKit

/-- A fact kept from the walk's own steps. -/
def Hid (p : Prop) : Prop := p
theorem Hid.out {p : Prop} (h : Hid p) : p := h
theorem hide {p : Prop} (h : p) : Hid p := h

theorem below_alloc (w : World) (o : Obj) : Below w.heap.size w (w.alloc o) := (Below.refl _ _).alloc (Nat.le_refl _) _
theorem below_alloc2 (w : World) (o o' : Obj) : Below w.heap.size w ((w.alloc o).alloc o') := ((Below.refl _ _).alloc (Nat.le_refl _) _).alloc (by simp) _
theorem below_dr {B : Nat} {a w : World} (h : Below B a w) (n : Nat) : Below B a (w.drewN n) := ⟨h.os, h.tape, h.output, h.size, h.block⟩
/-- Two steps, each below. -/
theorem Below.then {a b c : World} (h : Below a.heap.size a b) (k : Below b.heap.size b c) : Below a.heap.size a c := h.trans (k.mono h.size)
theorem Below.then_ {B : Nat} {a b c : World} (h : Below B a b) (k : Below b.heap.size b c) (hB : B ≤ b.heap.size) : Below B a c := h.trans (k.mono hB)
theorem cmp_i64 {a b : Int} (h : a = b) : Ending.returned (.int .i64 a) = .returned (.int .i64 b) := by rw [h]
theorem ret_bool {a b : Bool} (h : a = b) : Ending.returned (.bool a) = .returned (.bool b) := by rw [h]

section
variable {base b' e size n c : Nat} {w w' : World} {A : Option Addr} {xs : List Value}
theorem row_below (h : w.ownsRow base e size (.slice A n c) n xs) (hb : Below w.heap.size w w') : w'.ownsRow base e size (.slice A n c) n xs := by
  refine ⟨h.1, ?_⟩
  rcases h.2 with h0 | ⟨g, cap, cur, e, hg, hh, h3⟩
  · exact .inl h0
  · exact .inr ⟨g, cap, cur, e, hg, (hb.block g (Array.getElem?_eq_some_iff.1 hh).1).trans hh, h3⟩
theorem row_mono (h : w.ownsRow base e size (.slice A n c) n xs) (hb : b' ≤ base) : w.ownsRow b' e size (.slice A n c) n xs := by
  refine ⟨h.1, ?_⟩
  rcases h.2 with h0 | ⟨g, cap, cur, e, hg, h3⟩
  · exact .inl h0
  · exact .inr ⟨g, cap, cur, e, by omega, h3⟩
theorem row_other {g : Nat} (h : w.ownsRow base e size (.slice A n c) n xs) (hg : w.grownBy w' (some g)) (hne : ∀ k, (Value.slice A n c).ownBlock = some k → k ≠ g) : w'.ownsRow base e size (.slice A n c) n xs := by
  refine ⟨h.1, ?_⟩
  rcases h.2 with h0 | ⟨k, cap, cur, e, hk, hh, h3⟩
  · exact .inl h0
  · exact .inr ⟨k, cap, cur, e, hk, (hg.block k (Array.getElem?_eq_some_iff.1 hh).1 (fun x => hne k (by rw [e]; rfl) (by injection x))).trans hh, h3⟩
theorem row_addr (h : w.ownsRow base e size (.slice A n c) n xs) (hn : 0 < n) : ∃ g, A = some ⟨g, 0, none⟩ := by
  rcases h.2 with ⟨_, h0⟩ | ⟨g', cap', cur, h', _⟩
  · omega
  · injection h' with h' _ _; exact ⟨g', h'⟩
theorem row_cap {g : Nat} (h : w.ownsRow base e size (.slice (some ⟨g, 0, none⟩) n c) n xs) : n ≤ c ∧ c ≤ maxLen := by
  rcases h.2 with ⟨h', _⟩ | ⟨g', cap', cur, h', hb, hg, hnc, hcm, _⟩
  · cases h'
  · injection h' with _ _ h'; subst h'; exact ⟨hnc, hcm⟩
theorem row_heap {g : Nat} (h : w.ownsRow base e size (.slice (some ⟨g, 0, none⟩) n c) n xs) : ∃ cur : Array Value, w.heap[g]? = some (.cells cur e (0, 0)) ∧ cur.size = c * size := by
  rcases h.2 with ⟨h', _⟩ | ⟨g', cap', cur, h', hb, hg, hnc, hcm, hcs, _⟩
  · cases h'
  · injection h' with h1 _ h2
    subst h2
    injection h1 with h1
    injection h1 with h1
    subst h1
    exact ⟨cur, hg, hcs⟩
theorem row_nil (base e size : Nat) (w : World) : w.ownsRow base e size (.slice none 0 0) 0 [] := ⟨by simp, .inl ⟨rfl, rfl⟩⟩
/-- What an append leaves is a slice. -/
theorem row_slice {v : Value} (h : w.ownsRow base e size v n xs) : ∃ A' c', v = .slice A' n c' := by
  rcases h.2 with ⟨rfl, rfl⟩ | ⟨g, cap, cur, rfl, _⟩
  · exact ⟨_, _, rfl⟩
  · exact ⟨_, _, rfl⟩
theorem row_ne {g g' e' size' n' c' : Nat} {ys : List Value} {bb : Nat} (h : w.ownsRow base e size (.slice (some ⟨g, 0, none⟩) n c) n xs) (k : w.ownsRow bb e' size' (.slice (some ⟨g', 0, none⟩) n' c') n' ys) (hne : e ≠ e') : g ≠ g' := by
  obtain ⟨cur, h1, _⟩ := row_heap h
  obtain ⟨cur', h2, _⟩ := row_heap k
  intro hg
  subst hg
  rw [h1] at h2
  injection h2 with h2
  injection h2 with _ h2
  exact hne h2
end
end Go.Proofs.YthhemdjggdgaaaaDoor
