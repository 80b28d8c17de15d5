/- A disk: what it is, in words; and how it lies in memory. -/
import Derived.Test.YthhemdjggdgaaaaDoorBs
namespace Go.Proofs.YthhemdjggdgaaaaDoor
open Go.RowKit

abbrev Wet := List (Int × Bs)
structure Dk where
  dry : Bs
  wet : Wet
  left : Int
def qn (qs : Wet) (i : Nat) : Int × Bs := qs.getD i (0, [])
theorem qn_lt {qs : Wet} {i : Nat} (h : i < qs.length) : qn qs i = qs[i] := by
  unfold qn; rw [List.getD_eq_getElem?_getD, List.getElem?_eq_getElem h]; rfl
def Dk.zero : Dk := ⟨[], [], 0⟩
def Dk.n (d : Dk) : Nat := d.dry.length / 32

structure Good (d : Dk) : Prop where
  one : 1 ≤ d.n
  max : d.n ≤ 8192
  whole : d.dry.length = 32 * d.n
  left0 : -1 ≤ d.left
  left1 : d.left ≤ 1073741824
  at0 : ∀ i, i < d.wet.length → 0 ≤ (qn d.wet i).1
  at1 : ∀ i, i < d.wet.length → (qn d.wet i).1 < d.n
  len : ∀ i, i < d.wet.length → (qn d.wet i).2.length = 32
  up : ∀ i, i + 1 < d.wet.length → (qn d.wet i).1 < (qn d.wet (i + 1)).1
open Classical in
noncomputable def chk (d : Dk) : Int := if Good d then 0 else 1
theorem chk_zero {d : Dk} (h : Good d) : chk d = 0 := by unfold chk; rw [if_pos h]
theorem chk_one {d : Dk} (h : ¬ Good d) : chk d = 1 := by unfold chk; rw [if_neg h]
theorem Good.lt {d : Dk} (h : Good d) : ∀ i j, i < j → j < d.wet.length → (qn d.wet i).1 < (qn d.wet j).1 := by
  intro i j hij hj
  induction j with
  | zero => omega
  | succ j ih =>
    by_cases e : i = j
    · subst e; exact h.up i hj
    · have := ih (by omega) (by omega); have := h.up j hj; omega

/-- What the pages hold. -/
def PC (w : World) (ps : List Pg) (qs : Wet) : Prop := ps.length = qs.length ∧ ∀ i, i < ps.length → (nth ps i).1 = (qn qs i).1 ∧ BR w (nth ps i).2.1 (nth ps i).2.2.1 (qn qs i).2
def PO (base : Nat) (w : World) (ps : List Pg) (qs : Wet) : Prop := ps.length = qs.length ∧ ∀ i, i < ps.length → (nth ps i).1 = (qn qs i).1 ∧ OB base w (nth ps i).2.1 (nth ps i).2.2.1 (nth ps i).2.2.2 (qn qs i).2
def DR (w : World) (A : Option Addr) (n : Nat) (B : Option Addr) (m : Nat) (d : Dk) : Prop := BR w A n d.dry ∧ ∃ ps, PR w B m ps ∧ PC w ps d.wet
def DO (base : Nat) (w : World) (A : Option Addr) (n c : Nat) (B : Option Addr) (m e : Nat) (d : Dk) : Prop := OB base w A n c d.dry ∧ ∃ ps, Own base w B m e ps ∧ PO base w ps d.wet
section
variable {base b' n c m e : Nat} {w w' : World} {A B : Option Addr} {d : Dk} {ps : List Pg} {qs : Wet}
theorem PC.below (h : PC w ps qs) (hb : Below w.heap.size w w') : PC w' ps qs := ⟨h.1, fun i hi => ⟨(h.2 i hi).1, (h.2 i hi).2.below hb⟩⟩
theorem PO.below (h : PO base w ps qs) (hb : Below w.heap.size w w') : PO base w' ps qs := ⟨h.1, fun i hi => ⟨(h.2 i hi).1, (h.2 i hi).2.below hb⟩⟩
theorem PO.mono (h : PO base w ps qs) (hb : b' ≤ base) : PO b' w ps qs := ⟨h.1, fun i hi => ⟨(h.2 i hi).1, (h.2 i hi).2.mono hb⟩⟩
theorem PO.reads (h : PO base w ps qs) : PC w ps qs := ⟨h.1, fun i hi => ⟨(h.2 i hi).1, (h.2 i hi).2.reads⟩⟩
theorem DR.below (h : DR w A n B m d) (hb : Below w.heap.size w w') : DR w' A n B m d := by
  obtain ⟨h1, ps, h2, h3⟩ := h
  exact ⟨h1.below hb, ps, h2.below hb, h3.below hb⟩
theorem DR.dlen (h : DR w A n B m d) : d.dry.length = n := h.1.len
theorem DR.wlen (h : DR w A n B m d) : d.wet.length = m := by
  obtain ⟨h1, ps, h2, h3⟩ := h
  rw [← h3.1, h2.len]
theorem DO.below (h : DO base w A n c B m e d) (hb : Below w.heap.size w w') : DO base w' A n c B m e d := by
  obtain ⟨h1, ps, h2, h3⟩ := h
  exact ⟨h1.below hb, ps, h2.below hb, h3.below hb⟩
theorem DO.mono (h : DO base w A n c B m e d) (hb : b' ≤ base) : DO b' w A n c B m e d := by
  obtain ⟨h1, ps, h2, h3⟩ := h
  exact ⟨h1.mono hb, ps, h2.mono hb, h3.mono hb⟩
theorem DO.reads (h : DO base w A n c B m e d) : DR w A n B m d := by
  obtain ⟨h1, ps, h2, h3⟩ := h
  exact ⟨h1.reads, ps, h2.reads, h3.reads⟩
theorem DO.zero (base : Nat) (w : World) : DO base w none 0 0 none 0 0 Dk.zero := ⟨OB.nil _ _, [], Own.nil _ _, rfl, fun i hi => by simp at hi⟩
theorem DR.zero (w : World) : DR w none 0 none 0 Dk.zero := (DO.zero 0 w).reads
end

/-- A disk of one's own, and a number. -/
def DPost (w : World) (d : Dk) (x : Int) (e : Ending) (w' : World) : Prop :=
  ∃ (A : Option Addr) (n c : Nat) (B : Option Addr) (m e' : Nat), e = .returned (.tuple #[.agg #[.slice A n c, .slice B m e', .int .i64 d.left], .int .i64 x]) ∧ DO w.heap.size w' A n c B m e' d ∧ Below w.heap.size w w'

def lims (l : Int) : Bool := decide (-1 ≤ l) && decide (l ≤ 1073741824)
theorem limit_any (l : Int) (w : World) : Calls Tryd.prog 57 #[.int .i64 l] w fun e w' => e = .returned (.bool (lims l)) ∧ w = w' := by
  by_cases h1 : -1 ≤ l
  · have t1 : decide (-1 ≤ l) = true := decide_eq_true h1
    by_cases h2 : l ≤ 1073741824
    · have t2 : decide (l ≤ 1073741824) = true := decide_eq_true h2
      have HL : Hid (lims l = true) := by show lims l = true; unfold lims; rw [t1, t2]; rfl
      go_enter Tryd.func57, Tryd.ntmps57
      go_wp2_with fail
      go_ret
      exact ⟨by rw [HL.out]; rfl, rfl⟩
    · have t2 : decide (l ≤ 1073741824) = false := decide_eq_false h2
      have HL : Hid (lims l = false) := by show lims l = false; unfold lims; rw [t1, t2]; rfl
      go_enter Tryd.func57, Tryd.ntmps57
      go_wp2_with fail
      go_ret
      exact ⟨by rw [HL.out]; rfl, rfl⟩
  · have t1 : decide (-1 ≤ l) = false := decide_eq_false h1
    have HL : Hid (lims l = false) := by show lims l = false; unfold lims; rw [t1]; rfl
    go_enter Tryd.func57, Tryd.ntmps57
    go_wp2_with fail
    go_ret
    exact ⟨by rw [HL.out]; rfl, rfl⟩
theorem lims_iff {l : Int} : lims l = true ↔ -1 ≤ l ∧ l ≤ 1073741824 := by unfold lims; simp
end Go.Proofs.YthhemdjggdgaaaaDoor
