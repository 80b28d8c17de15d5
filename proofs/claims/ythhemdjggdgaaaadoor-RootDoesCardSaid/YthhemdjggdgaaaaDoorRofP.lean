/- A root read: in words. -/
import Derived.Test.YthhemdjggdgaaaaDoorRoct
import Derived.Laws.BitsAllLaws
namespace Go.Proofs.YthhemdjggdgaaaaDoor
open Go.RowKit
set_option linter.unusedVariables false

/-- The octets but each group's first one. -/
def strip (b : Bs) : Nat → Bs
  | 0 => []
  | i + 1 => strip b i ++ (b.drop (4 * i + 1)).take 3
theorem strip_len {b : Bs} (h : b.length = 32) : ∀ i, i ≤ 8 → (strip b i).length = 3 * i
  | 0, _ => rfl
  | i + 1, hi => by
    have ih := strip_len h i (by omega)
    rw [strip, List.length_append, ih, List.length_take, List.length_drop, h]
    omega
/-- The number of octets, the lowest one first. -/
def le : Bs → Nat
  | [] => 0
  | c :: r => c.toNat + 256 * le r
theorem pow8 (k : Nat) : 2 ^ (8 * (k + 1)) = 256 * 2 ^ (8 * k) := by rw [show 8 * (k + 1) = 8 * k + 8 by omega, Nat.pow_add]; omega
theorem le_lt : ∀ (xs : Bs), le xs < 2 ^ (8 * xs.length)
  | [] => by simp [le]
  | c :: r => by
    have ih := le_lt r
    have hc := c.toNat_lt
    rw [le, List.length_cons, pow8]
    omega
theorem le_snoc : ∀ (xs : Bs) (c : UInt8), le (xs ++ [c]) = le xs + c.toNat * 2 ^ (8 * xs.length)
  | [], c => by simp [le]
  | d :: r, c => by
    have ih := le_snoc r c
    rw [List.cons_append, le, ih, le, List.length_cons, pow8]
    rw [Nat.mul_add, Nat.mul_left_comm]
    omega
def leU (bs : Bs) (k : Nat) : Nat := le (bs.take k)
theorem leU_lt {bs : Bs} {k : Nat} (h : k ≤ bs.length) : leU bs k < 2 ^ (8 * k) := by
  have := le_lt (bs.take k)
  rw [List.length_take, Nat.min_eq_left h] at this
  exact this
theorem leU_snoc {bs : Bs} {k : Nat} (h : k < bs.length) : leU bs (k + 1) = leU bs k + (bs.getD k 0).toNat * 2 ^ (8 * k) := by
  unfold leU
  have e : bs.take (k + 1) = bs.take k ++ [bs.getD k 0] := by
    rw [List.getD_eq_getElem?_getD, List.getElem?_eq_getElem h]
    exact (List.take_append_getElem h).symm
  rw [e, le_snoc, List.length_take, Nat.min_eq_left (Nat.le_of_lt h)]
/-- One octet more. -/
theorem or_step {bs : Bs} {k : Nat} (h : k < bs.length) (hk : k < 6) : bits .or .u64 ((leU bs k : Nat) : Int) ((((bs.getD k 0).toNat * 2 ^ (8 * k) : Nat)) : Int) = ((leU bs (k + 1) : Nat) : Int) := by
  have h1 := leU_lt (bs := bs) (k := k) (by omega)
  have hp : 2 ^ (8 * k) ≤ 2 ^ 40 := Nat.pow_le_pow_right (by omega) (by omega)
  have hc := (bs.getD k 0).toNat_lt
  have hm : (bs.getD k 0).toNat * 2 ^ (8 * k) ≤ 255 * 2 ^ 40 := Nat.mul_le_mul (by omega) hp
  rw [u64_or_nat _ _ (by omega) (by omega), leU_snoc h]
  congr 1
  rw [Nat.or_comm, Nat.mul_comm, ← Nat.two_pow_add_eq_or_of_lt h1, Nat.add_comm]
theorem shl_step (c : UInt8) {k : Nat} (hk : k < 6) : IntKind.u64.wrap ((c.toNat : Int) * 2 ^ (8 * k)) = ((c.toNat * 2 ^ (8 * k) : Nat) : Int) := by
  have hp : 2 ^ (8 * k) ≤ 2 ^ 40 := Nat.pow_le_pow_right (by omega) (by omega)
  have hc := c.toNat_lt
  have hm : c.toNat * 2 ^ (8 * k) ≤ 255 * 2 ^ 40 := Nat.mul_le_mul (by omega) hp
  have e : (c.toNat : Int) * 2 ^ (8 * k) = ((c.toNat * 2 ^ (8 * k) : Nat) : Int) := by push_cast; rfl
  rw [e, IntKind.wrap_u64]
  omega
theorem OB.cellb {base g n c : Nat} {w : World} {bs : Bs} (h : OB base w (some ⟨g, 0, none⟩) n c bs) (i : Nat) (hi : i < n) : w.cell? ⟨g, i, none⟩ = some (.int .u8 (bs.getD i 0).toNat) := by
  have hl := h.len
  exact (World.ownsRow.cellAt h i (by omega)).trans (byt_get bs i (by omega))
/-- The box of seven numbers. -/
def NB (w : World) (b : Nat) (a0 a1 a2 a3 a4 a5 a6 : Nat) : Prop := w.heap[b]? = some (.cells #[.int .u64 a0, .int .u64 a1, .int .u64 a2, .int .u64 a3, .int .u64 a4, .int .u64 a5, .int .u64 a6] 57 (0, 0))
section
variable {w w' : World} {b a0 a1 a2 a3 a4 a5 a6 : Nat}
theorem NB.c0 (h : NB w b a0 a1 a2 a3 a4 a5 a6) : w.cell? ⟨b, 0, none⟩ = some (.int .u64 a0) := by unfold NB at h; simp only [World.cell?, h]; rfl
theorem NB.c1 (h : NB w b a0 a1 a2 a3 a4 a5 a6) : w.cell? ⟨b, 1, none⟩ = some (.int .u64 a1) := by unfold NB at h; simp only [World.cell?, h]; rfl
theorem NB.c2 (h : NB w b a0 a1 a2 a3 a4 a5 a6) : w.cell? ⟨b, 2, none⟩ = some (.int .u64 a2) := by unfold NB at h; simp only [World.cell?, h]; rfl
theorem NB.c3 (h : NB w b a0 a1 a2 a3 a4 a5 a6) : w.cell? ⟨b, 3, none⟩ = some (.int .u64 a3) := by unfold NB at h; simp only [World.cell?, h]; rfl
theorem NB.c4 (h : NB w b a0 a1 a2 a3 a4 a5 a6) : w.cell? ⟨b, 4, none⟩ = some (.int .u64 a4) := by unfold NB at h; simp only [World.cell?, h]; rfl
theorem NB.c5 (h : NB w b a0 a1 a2 a3 a4 a5 a6) : w.cell? ⟨b, 5, none⟩ = some (.int .u64 a5) := by unfold NB at h; simp only [World.cell?, h]; rfl
theorem NB.c6 (h : NB w b a0 a1 a2 a3 a4 a5 a6) : w.cell? ⟨b, 6, none⟩ = some (.int .u64 a6) := by unfold NB at h; simp only [World.cell?, h]; rfl
theorem NB.f (h : NB w b a0 a1 a2 a3 a4 a5 a6) (i : Nat) : w.frozen? ⟨b, i, none⟩ = false := by unfold NB at h; simp [World.frozen?, h]
theorem NB.lt (h : NB w b a0 a1 a2 a3 a4 a5 a6) : b < w.heap.size := (Array.getElem?_eq_some_iff.1 h).1
theorem NB.below (h : NB w b a0 a1 a2 a3 a4 a5 a6) (hb : Below w.heap.size w w') : NB w' b a0 a1 a2 a3 a4 a5 a6 := (hb.block b h.lt).trans h
theorem NB.made (w : World) : NB (w.alloc (.cells #[.int .u64 0, .int .u64 0, .int .u64 0, .int .u64 0, .int .u64 0, .int .u64 0, .int .u64 0] 57)) w.heap.size 0 0 0 0 0 0 0 := heap_alloc_new w _
theorem NB.s0 (h : NB w b a0 a1 a2 a3 a4 a5 a6) (v : Nat) : NB (w.setCell ⟨b, 0, none⟩ (.int .u64 v)) b v a1 a2 a3 a4 a5 a6 := heap_setCell_same w b 0 _ 57 _ h
theorem NB.s1 (h : NB w b a0 a1 a2 a3 a4 a5 a6) (v : Nat) : NB (w.setCell ⟨b, 1, none⟩ (.int .u64 v)) b a0 v a2 a3 a4 a5 a6 := heap_setCell_same w b 1 _ 57 _ h
theorem NB.s2 (h : NB w b a0 a1 a2 a3 a4 a5 a6) (v : Nat) : NB (w.setCell ⟨b, 2, none⟩ (.int .u64 v)) b a0 a1 v a3 a4 a5 a6 := heap_setCell_same w b 2 _ 57 _ h
theorem NB.s3 (h : NB w b a0 a1 a2 a3 a4 a5 a6) (v : Nat) : NB (w.setCell ⟨b, 3, none⟩ (.int .u64 v)) b a0 a1 a2 v a4 a5 a6 := heap_setCell_same w b 3 _ 57 _ h
theorem NB.s4 (h : NB w b a0 a1 a2 a3 a4 a5 a6) (v : Nat) : NB (w.setCell ⟨b, 4, none⟩ (.int .u64 v)) b a0 a1 a2 a3 v a5 a6 := heap_setCell_same w b 4 _ 57 _ h
theorem NB.s5 (h : NB w b a0 a1 a2 a3 a4 a5 a6) (v : Nat) : NB (w.setCell ⟨b, 5, none⟩ (.int .u64 v)) b a0 a1 a2 a3 a4 v a6 := heap_setCell_same w b 5 _ 57 _ h
theorem NB.s6 (h : NB w b a0 a1 a2 a3 a4 a5 a6) (v : Nat) : NB (w.setCell ⟨b, 6, none⟩ (.int .u64 v)) b a0 a1 a2 a3 a4 a5 v := heap_setCell_same w b 6 _ 57 _ h
end
/-- A root's box: six cells. -/
def RB (w : World) (b : Nat) (v0 v1 v2 v3 v4 v5 : Value) : Prop := w.heap[b]? = some (.cells #[v0, v1, v2, v3, v4, v5] 27 (0, 0))
section
variable {w w' : World} {b : Nat} {v0 v1 v2 v3 v4 v5 u0 u1 u2 u3 u4 u5 : Value}
theorem RB.c0 (h : RB w b v0 v1 v2 v3 v4 v5) : w.cell? ⟨b, 0, none⟩ = some v0 := by unfold RB at h; simp only [World.cell?, h]; rfl
theorem RB.c1 (h : RB w b v0 v1 v2 v3 v4 v5) : w.cell? ⟨b, 1, none⟩ = some v1 := by unfold RB at h; simp only [World.cell?, h]; rfl
theorem RB.c2 (h : RB w b v0 v1 v2 v3 v4 v5) : w.cell? ⟨b, 2, none⟩ = some v2 := by unfold RB at h; simp only [World.cell?, h]; rfl
theorem RB.c3 (h : RB w b v0 v1 v2 v3 v4 v5) : w.cell? ⟨b, 3, none⟩ = some v3 := by unfold RB at h; simp only [World.cell?, h]; rfl
theorem RB.c4 (h : RB w b v0 v1 v2 v3 v4 v5) : w.cell? ⟨b, 4, none⟩ = some v4 := by unfold RB at h; simp only [World.cell?, h]; rfl
theorem RB.c5 (h : RB w b v0 v1 v2 v3 v4 v5) : w.cell? ⟨b, 5, none⟩ = some v5 := by unfold RB at h; simp only [World.cell?, h]; rfl
theorem RB.f (h : RB w b v0 v1 v2 v3 v4 v5) (i : Nat) : w.frozen? ⟨b, i, none⟩ = false := by unfold RB at h; simp [World.frozen?, h]
theorem RB.lt (h : RB w b v0 v1 v2 v3 v4 v5) : b < w.heap.size := (Array.getElem?_eq_some_iff.1 h).1
theorem RB.below (h : RB w b v0 v1 v2 v3 v4 v5) (hb : Below w.heap.size w w') : RB w' b v0 v1 v2 v3 v4 v5 := (hb.block b h.lt).trans h
theorem RB.made (w : World) (v0 v1 v2 v3 v4 v5 : Value) : RB (w.alloc (.cells #[v0, v1, v2, v3, v4, v5] 27)) w.heap.size v0 v1 v2 v3 v4 v5 := heap_alloc_new w _
def laidR (w : World) (b : Nat) (u0 u1 u2 u3 u4 u5 : Value) : World := (((((w.setCell ⟨b, 0, none⟩ u0).setCell ⟨b, 1, none⟩ u1).setCell ⟨b, 2, none⟩ u2).setCell ⟨b, 3, none⟩ u3).setCell ⟨b, 4, none⟩ u4).setCell ⟨b, 5, none⟩ u5
theorem RB.laid (h : RB w b v0 v1 v2 v3 v4 v5) : RB (laidR w b u0 u1 u2 u3 u4 u5) b u0 u1 u2 u3 u4 u5 :=
  heap_setCell_same _ b 5 _ 27 _ (heap_setCell_same _ b 4 _ 27 _ (heap_setCell_same _ b 3 _ 27 _ (heap_setCell_same _ b 2 _ 27 _ (heap_setCell_same _ b 1 _ 27 _ (heap_setCell_same w b 0 _ 27 _ h)))))
theorem below_laid {base : Nat} {w0 : World} (h : Below base w0 w) (hb : base ≤ b) : Below base w0 (laidR w b u0 u1 u2 u3 u4 u5) := (((((h.setCell hb _).setCell hb _).setCell hb _).setCell hb _).setCell hb _).setCell hb _
end
/-- What the numbers make. -/
def parse (t : Bs) : Rt := ⟨leU t 6, ((leU (t.drop 6) 2 : Nat) : Int), ((leU (t.drop 8) 2 : Nat) : Int), ((leU (t.drop 10) 3 : Nat) : Int), leU (t.drop 13) 4, leU (t.drop 17) 6⟩
open Classical in
noncomputable def ofS (b : Bs) : Rt × Int := if b.length = 32 ∧ octS (parse (strip b 8)) = (b, 0) then (parse (strip b 8), 0) else (Rt.zero, 2)
theorem ofS_ok {b : Bs} (h : b.length = 32) (h1 : octS (parse (strip b 8)) = (b, 0)) : ofS b = (parse (strip b 8), 0) := by unfold ofS; rw [if_pos ⟨h, h1⟩]
theorem ofS_bad {b : Bs} (h : ¬ (b.length = 32 ∧ octS (parse (strip b 8)) = (b, 0))) : ofS b = (Rt.zero, 2) := by unfold ofS; rw [if_neg h]
end Go.Proofs.YthhemdjggdgaaaaDoor
