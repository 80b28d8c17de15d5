/- A disk in a block of its own: three cells. -/
import Derived.Test.YthhemdjggdgaaaaDoorCp
import Derived.OneCell
import Derived.Deep.RegionHeld3
import Derived.Deep.RegionWith
import Derived.Deep.RegionLaw
import Derived.Deep.DeepCutAuto
import Derived.Deep.CutRange
namespace Go.Proofs.YthhemdjggdgaaaaDoor
open Go.RowKit

/-- Block b is a disk's three cells. -/
def Bx (w : World) (b : Nat) (v0 v1 v2 : Value) : Prop := w.heap[b]? = some (.cells #[v0, v1, v2] 31 (0, 0))
section
variable {w w' : World} {b g : Nat} {v0 v1 v2 u : Value}
theorem Bx.c0 (h : Bx w b v0 v1 v2) : w.cell? ⟨b, 0, none⟩ = some v0 := by unfold Bx at h; simp only [World.cell?, h]; rfl
theorem Bx.c1 (h : Bx w b v0 v1 v2) : w.cell? ⟨b, 1, none⟩ = some v1 := by unfold Bx at h; simp only [World.cell?, h]; rfl
theorem Bx.c2 (h : Bx w b v0 v1 v2) : w.cell? ⟨b, 2, none⟩ = some v2 := by unfold Bx at h; simp only [World.cell?, h]; rfl
theorem Bx.f (h : Bx w b v0 v1 v2) (i : Nat) : w.frozen? ⟨b, i, none⟩ = false := by unfold Bx at h; simp [World.frozen?, h]
theorem Bx.lt (h : Bx w b v0 v1 v2) : b < w.heap.size := (Array.getElem?_eq_some_iff.1 h).1
theorem Bx.below (h : Bx w b v0 v1 v2) (hb : Below w.heap.size w w') : Bx w' b v0 v1 v2 := (hb.block b h.lt).trans h
theorem Bx.made (w : World) (v0 v1 v2 : Value) : Bx (w.alloc (.cells #[v0, v1, v2] 31)) w.heap.size v0 v1 v2 := heap_alloc_new w _
theorem Bx.alloc (h : Bx w b v0 v1 v2) (o : Obj) : Bx (w.alloc o) b v0 v1 v2 := (Below.heap_alloc w o b h.lt).trans h
theorem Bx.grown (h : Bx w b v0 v1 v2) {row : Option Nat} (hg : w.grownBy w' row) (hne : some b ≠ row) : Bx w' b v0 v1 v2 := (hg.block b h.lt hne).trans h
theorem Bx.other (h : Bx w b v0 v1 v2) {a : Addr} (hne : b ≠ a.block) : Bx (w.setCell a u) b v0 v1 v2 := (Below.heap_setCell w a u b hne).trans h
theorem Bx.set0 (h : Bx w b v0 v1 v2) : Bx (w.setCell ⟨b, 0, none⟩ u) b u v1 v2 := by
  have := heap_setCell_same w b 0 #[v0, v1, v2] 31 u h
  exact this
theorem Bx.set1 (h : Bx w b v0 v1 v2) : Bx (w.setCell ⟨b, 1, none⟩ u) b v0 u v2 := by
  have := heap_setCell_same w b 1 #[v0, v1, v2] 31 u h
  exact this
theorem Bx.set2 (h : Bx w b v0 v1 v2) : Bx (w.setCell ⟨b, 2, none⟩ u) b v0 v1 u := by
  have := heap_setCell_same w b 2 #[v0, v1, v2] 31 u h
  exact this
theorem row_set {base e size n c : Nat} {A : Option Addr} {xs : List Value} (h : w.ownsRow base e size (.slice A n c) n xs) {a : Addr} (ha : a.block < base) : (w.setCell a u).ownsRow base e size (.slice A n c) n xs := ownsRow_setCell_below h ha u
theorem OB.set {base n c : Nat} {A : Option Addr} {bs : Bs} (h : OB base w A n c bs) {a : Addr} (ha : a.block < base) : OB base (w.setCell a u) A n c bs := row_set h ha
theorem Own.set {base n c : Nat} {A : Option Addr} {ps : List Pg} (h : Own base w A n c ps) {a : Addr} (ha : a.block < base) : Own base (w.setCell a u) A n c ps := row_set h ha
theorem PO.set {base : Nat} {ps : List Pg} {qs : Wet} (h : PO base w ps qs) {a : Addr} (ha : a.block < base) : PO base (w.setCell a u) ps qs := ⟨h.1, fun i hi => ⟨(h.2 i hi).1, (h.2 i hi).2.set ha⟩⟩
theorem DO.set {base n c m e : Nat} {A B : Option Addr} {d : Dk} (h : DO base w A n c B m e d) {a : Addr} (ha : a.block < base) : DO base (w.setCell a u) A n c B m e d := by
  obtain ⟨h1, ps, h2, h3⟩ := h
  exact ⟨h1.set ha, ps, h2.set ha, h3.set ha⟩
theorem OB.alloc {base n c : Nat} {A : Option Addr} {bs : Bs} (h : OB base w A n c bs) (o : Obj) : OB base (w.alloc o) A n c bs := World.ownsRow.alloc h o
theorem DO.alloc {base n c m e : Nat} {A B : Option Addr} {d : Dk} (h : DO base w A n c B m e d) (o : Obj) : DO base (w.alloc o) A n c B m e d := h.below (below_alloc w o)
theorem DR.alloc {n m : Nat} {A B : Option Addr} {d : Dk} (h : DR w A n B m d) (o : Obj) : DR (w.alloc o) A n B m d := h.below (below_alloc w o)
theorem BR.alloc {n : Nat} {A : Option Addr} {bs : Bs} (h : BR w A n bs) (o : Obj) : BR (w.alloc o) A n bs := h.below (below_alloc w o)
theorem PR.alloc {n : Nat} {A : Option Addr} {ps : List Pg} (h : PR w A n ps) (o : Obj) : PR (w.alloc o) A n ps := h.below (below_alloc w o)
theorem PC.alloc {ps : List Pg} {qs : Wet} (h : PC w ps qs) (o : Obj) : PC (w.alloc o) ps qs := h.below (below_alloc w o)
end
end Go.Proofs.YthhemdjggdgaaaaDoor
