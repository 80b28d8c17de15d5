/- Pages as cells: a slice of them read, owned, copied. -/
import Derived.Test.YthhemdjggdgaaaaDoorByt
namespace Go.Proofs.YthhemdjggdgaaaaDoor
open Go.RowKit

/-- A page: where it is, and the slice of its octets. -/
abbrev Pg := Int × Option Addr × Nat × Nat
def pgv (p : Pg) : Value := .agg #[.int .i64 p.1, .slice p.2.1 p.2.2.1 p.2.2.2]
def pcs (ps : List Pg) : List Value := ps.flatMap fun p => [.int .i64 p.1, .slice p.2.1 p.2.2.1 p.2.2.2]
def nth (ps : List Pg) (i : Nat) : Pg := ps.getD i (0, none, 0, 0)
theorem nth_lt {ps : List Pg} {i : Nat} (h : i < ps.length) : nth ps i = ps[i] := by
  unfold nth; rw [List.getD_eq_getElem?_getD, List.getElem?_eq_getElem h]; rfl
theorem pcs_length (ps : List Pg) : (pcs ps).length = ps.length * 2 := by
  induction ps with
  | nil => rfl
  | cons p ps ih => unfold pcs at *; simp only [List.flatMap_cons, List.length_append, ih, List.length_cons, List.length_nil]; omega
theorem pcs_cons (p : Pg) (ps : List Pg) : pcs (p :: ps) = .int .i64 p.1 :: .slice p.2.1 p.2.2.1 p.2.2.2 :: pcs ps := rfl
theorem pcs_append (ps qs : List Pg) : pcs (ps ++ qs) = pcs ps ++ pcs qs := by unfold pcs; rw [List.flatMap_append]
theorem pcs_get (ps : List Pg) (i : Nat) (h : i < ps.length) : (pcs ps)[i * 2]? = some (.int .i64 (nth ps i).1) ∧ (pcs ps)[i * 2 + 1]? = some (.slice (nth ps i).2.1 (nth ps i).2.2.1 (nth ps i).2.2.2) := by
  induction ps generalizing i with
  | nil => simp at h
  | cons p ps ih =>
    cases i with
    | zero => exact ⟨rfl, rfl⟩
    | succ i =>
      have := ih i (by simpa using h)
      rw [pcs_cons]
      rw [show (i + 1) * 2 = i * 2 + 1 + 1 by omega]
      simp only [List.getElem?_cons_succ]
      exact this
theorem pcs_drop (ps : List Pg) (k : Nat) : (pcs ps).drop (k * 2) = pcs (ps.drop k) := by
  induction k generalizing ps with
  | zero => simp
  | succ k ih =>
    cases ps with
    | nil => rfl
    | cons p ps => rw [pcs_cons, show (k + 1) * 2 = k * 2 + 1 + 1 by omega]; simp only [List.drop_succ_cons]; exact ih ps
theorem pcs_take (ps : List Pg) (k : Nat) : (pcs ps).take (k * 2) = pcs (ps.take k) := by
  induction k generalizing ps with
  | zero => simp [pcs]
  | succ k ih =>
    cases ps with
    | nil => rfl
    | cons p ps => rw [pcs_cons, show (k + 1) * 2 = k * 2 + 1 + 1 by omega]; simp only [List.take_succ_cons]; rw [ih ps]; rfl
theorem one_page (ps : List Pg) : ∀ u ∈ pcs ps, u.oneCell' = true := by
  intro u hu
  obtain ⟨p, _, hp⟩ := List.mem_flatMap.1 hu
  simp only [List.mem_cons, List.not_mem_nil, or_false] at hp
  rcases hp with rfl | rfl <;> rfl
theorem pcs_set (ps : List Pg) (k : Nat) (x : Pg) : pcs (ps.set k x) = ((pcs ps).set (k * 2) (.int .i64 x.1)).set (k * 2 + 1) (.slice x.2.1 x.2.2.1 x.2.2.2) := by
  induction ps generalizing k with
  | nil => simp [pcs]
  | cons p ps ih =>
    cases k with
    | zero => rfl
    | succ k =>
      rw [List.set_cons_succ, pcs_cons, pcs_cons, ih, show (k + 1) * 2 = k * 2 + 1 + 1 by omega]
      rfl
theorem pcs_set2 (ps : List Pg) (k : Nat) (x : Pg) (hk : k < ps.length) (h : (nth ps k).1 = x.1) : pcs (ps.set k x) = (pcs ps).set (k * 2 + 1) (.slice x.2.1 x.2.2.1 x.2.2.2) := by
  rw [pcs_set]
  congr 1
  apply List.ext_getElem?
  intro j
  rw [List.getElem?_set]
  split
  · rename_i hj; subst hj
    rw [if_pos (by rw [pcs_length]; omega), (pcs_get ps k hk).1, h]
  · rfl
theorem nth_set_ne {ps : List Pg} {i j : Nat} (x : Pg) (h : i ≠ j) : nth (ps.set i x) j = nth ps j := by
  unfold nth
  rw [List.getD_eq_getElem?_getD, List.getElem?_set_ne h, ← List.getD_eq_getElem?_getD]
theorem nth_set_eq {ps : List Pg} {i : Nat} (x : Pg) (h : i < ps.length) : nth (ps.set i x) i = x := by
  unfold nth
  rw [List.getD_eq_getElem?_getD, List.getElem?_set_self h]; rfl

/-- A slice that holds these pages. -/
def PR (w : World) (A : Option Addr) (n : Nat) (ps : List Pg) : Prop := Reads w w.heap.size 2 A n (pcs ps)
theorem add_second (ad : Addr) (i : Nat) : ({ block := (ad.add i).block, off := (ad.add i).off + 1 } : Addr) = ad.add (i + 1) := by
  rw [← add_of_add]; generalize ad.add i = b; unfold Addr.add; simp
section
variable {w w' : World} {A : Option Addr} {n : Nat} {ps : List Pg}
theorem PR.len (h : PR w A n ps) : ps.length = n := by
  have := h.1; rw [pcs_length] at this; omega
theorem PR.below (h : PR w A n ps) (hb : Below w.heap.size w w') : PR w' A n ps := (Reads.below h hb).more hb.size
theorem PR.nil (w : World) : PR w none 0 [] := Reads.none_
theorem PR.cell (h : PR w A n ps) (i : Nat) (hi : i < n) : ∃ ad, A = some ad ∧ w.cell? (ad.add (i * 2)) = some (.int .i64 (nth ps i).1) ∧ w.cell? { block := (ad.add (i * 2)).block, off := (ad.add (i * 2)).off + 1 } = some (.slice (nth ps i).2.1 (nth ps i).2.2.1 (nth ps i).2.2.2) := by
  obtain ⟨ad, e, _, hc⟩ := h.2 (by omega)
  obtain ⟨h1, h2⟩ := pcs_get ps i (by rw [h.len]; exact hi)
  exact ⟨ad, e, hc _ _ h1, by rw [add_second]; exact hc _ _ h2⟩
end

theorem page_info : (Tryd.prog.info? 56).map (fun i => (i.zero, i.size, i.bytes)) = some (some (.agg #[.int .i64 0, .slice none 0 0]), 2, 32) := by kernel_rfl

/-- .. in a block of its own, from base on, room for c. -/
def Own (base : Nat) (w : World) (A : Option Addr) (n c : Nat) (ps : List Pg) : Prop := w.ownsRow base 56 2 (.slice A n c) n (pcs ps)
section
variable {base : Nat} {w w' : World} {g n c : Nat} {A : Option Addr} {ps : List Pg}
theorem Own.reads (h : Own base w A n c ps) : PR w A n ps := Reads.of_own h
theorem Own.len (h : Own base w A n c ps) : ps.length = n := h.reads.len
theorem Own.below (h : Own base w A n c ps) (hb : Below w.heap.size w w') : Own base w' A n c ps := row_below h hb
theorem Own.mono {b' : Nat} (h : Own base w A n c ps) (hb : b' ≤ base) : Own b' w A n c ps := row_mono h hb
theorem Own.nil (base : Nat) (w : World) : Own base w none 0 0 [] := row_nil _ _ _ _
theorem Own.alloc (h : Own base w A n c ps) (o : Obj) : Own base (w.alloc o) A n c ps := World.ownsRow.alloc h o
theorem Own.made (w : World) (x : Pg) : Own w.heap.size (w.alloc (.cells #[.int .i64 x.1, .slice x.2.1 x.2.2.1 x.2.2.2] 56)) (some ⟨w.heap.size, 0, none⟩) 1 1 [x] :=
  World.ownsRow_lit w #[.int .i64 x.1, .slice x.2.1 x.2.2.1 x.2.2.2] 1 (Nat.le_refl _) (by simp [maxLen]) rfl
theorem Own.at (h : Own base w (some ⟨g, 0, none⟩) n c ps) (i : Nat) (hi : i < n) : w.cell? ⟨g, i * 2, none⟩ = some (.int .i64 (nth ps i).1) ∧ w.cell? ⟨g, i * 2 + 1, none⟩ = some (.slice (nth ps i).2.1 (nth ps i).2.2.1 (nth ps i).2.2.2) := by
  have hl := h.len
  obtain ⟨h1, h2⟩ := pcs_get ps i (by omega)
  exact ⟨(World.ownsRow.cellAt h _ (by omega)).trans h1, (World.ownsRow.cellAt h _ (by omega)).trans h2⟩
theorem Own.froz (h : Own base w (some ⟨g, 0, none⟩) n c ps) (j : Nat) : w.frozen? ⟨g, j, none⟩ = false := World.ownsRow.frozenAt h j
theorem Own.lt (h : Own base w (some ⟨g, 0, none⟩) n c ps) : base ≤ g ∧ g < w.heap.size := World.ownsRow.lt h g rfl
theorem Own.cap (h : Own base w (some ⟨g, 0, none⟩) n c ps) : n ≤ c ∧ c ≤ maxLen := row_cap h
theorem Own.heap (h : Own base w (some ⟨g, 0, none⟩) n c ps) : ∃ cur : Array Value, w.heap[g]? = some (.cells cur 56 (0, 0)) ∧ cur.size = c * 2 := row_heap h
theorem Own.addr (h : Own base w A n c ps) (hn : 0 < n) : ∃ g, A = some ⟨g, 0, none⟩ := row_addr h hn
theorem Own.put (h : Own base w (some ⟨g, 0, none⟩) n c ps) (k : Nat) (x : Pg) :
    Own base ((w.setCell ⟨g, k * 2, none⟩ (.int .i64 x.1)).setCell ⟨g, k * 2 + 1, none⟩ (.slice x.2.1 x.2.2.1 x.2.2.2)) (some ⟨g, 0, none⟩) n c (ps.set k x) ∧
    w.grownBy ((w.setCell ⟨g, k * 2, none⟩ (.int .i64 x.1)).setCell ⟨g, k * 2 + 1, none⟩ (.slice x.2.1 x.2.2.1 x.2.2.2)) (some g) := by
  obtain ⟨h1, h2⟩ := World.ownsRow.stored h (k * 2) (.int .i64 x.1)
  obtain ⟨h3, h4⟩ := h1.stored (k * 2 + 1) (.slice x.2.1 x.2.2.1 x.2.2.2)
  unfold Own; rw [pcs_set]
  exact ⟨h3, grownBy_trans h2 h4⟩
theorem Own.put2 (h : Own base w (some ⟨g, 0, none⟩) n c ps) (k : Nat) (x : Pg) (hk : k < n) (hx : (nth ps k).1 = x.1) :
    Own base (w.setCell ⟨g, k * 2 + 1, none⟩ (.slice x.2.1 x.2.2.1 x.2.2.2)) (some ⟨g, 0, none⟩) n c (ps.set k x) ∧
    w.grownBy (w.setCell ⟨g, k * 2 + 1, none⟩ (.slice x.2.1 x.2.2.1 x.2.2.2)) (some g) := by
  have hl := h.len
  obtain ⟨h1, h2⟩ := World.ownsRow.stored h (k * 2 + 1) (.slice x.2.1 x.2.2.1 x.2.2.2)
  unfold Own; rw [pcs_set2 ps k x (by omega) hx]
  exact ⟨h1, h2⟩
end

def CloneP (w : World) (n : Nat) (ps : List Pg) (e : Ending) (w' : World) : Prop := ∃ A c, e = .returned (.slice A n c) ∧ Below w.heap.size w w' ∧ Own w.heap.size w' A n c ps
theorem cloneP_any (w : World) (A : Option Addr) (n c : Nat) (ps : List Pg) (hr : PR w A n ps) (hn : n ≤ 1000) :
    Calls Tryd.prog 58 #[.slice A n c] w (CloneP w n ps) := by
  obtain ⟨i0, hi0, hz0, hz1, hz2⟩ := info_parts page_info
  have HR := hide hr
  have H1 := hide (one_page ps)
  clear hr
  cases A with
  | none =>
    have hnil := fun w => Lib.run_eql_slice_nil (P := Tryd.prog) w 29 56 none n c 0 0 Tryd.underlying29
    have h0 : n = 0 := by
      rcases Nat.eq_zero_or_pos n with h | h
      · exact h
      · obtain ⟨ad, h, _⟩ := HR.out.cell 0 h; cases h
    subst h0
    go_enter Tryd.func58, Tryd.ntmps58
    go_wp2_with fail
    go_ret
    have hp := HR.out.len
    rw [List.length_eq_zero_iff.1 hp]
    exact ⟨none, 0, rfl, Below.refl _ _, Own.nil _ _⟩
  | some ad =>
    have hnil := fun w => Lib.run_eql_slice_nil (P := Tryd.prog) w 29 56 (some ad) n c 0 0 Tryd.underlying29
    have o0 : (w.alloc (.cells #[] 56)).ownsRow w.heap.size 56 2 (.slice (some ⟨w.heap.size, 0, none⟩) 0 0) 0 [] := ⟨by simp, .inr ⟨w.heap.size, 0, #[], rfl, Nat.le_refl _, heap_alloc_new w _, by omega, by simp [maxLen], rfl, rfl⟩⟩
    have O0 := hide o0
    clear o0
    have R0 : Hid (Reads (w.alloc (.cells #[] 56)) w.heap.size 2 (some ad) n (pcs ps)) := Reads.alloc HR.out (Nat.le_refl _) _
    go_enter Tryd.func58, Tryd.ntmps58
    go_wp2_with (at_builtin; refine wpList_append_any _ rfl (.tmp 5) (.tmp 6) _ rfl w.heap.size 56 i0 _ 2 32 Tryd.underlying29 hi0 hz0 hz1 hz2 rfl (by omega) (.slice (some ⟨w.heap.size, 0, none⟩) 0 0) 0 [] rfl O0.out w.heap.size (some ad) n c (pcs ps) rfl R0.out H1.out (by simp only [maxLen]; omega) (by omega) (by simp) ?_; intro v1 w1 hown1 hg1 hat1)
    go_ret
    simp only [Nat.zero_add, List.nil_append] at hown1
    obtain ⟨A', c', rfl⟩ := row_slice hown1
    refine ⟨A', c', rfl, ?_, hown1⟩
    exact ((Below.refl _ _).alloc (Nat.le_refl _) _).grown hg1 (by simp) (fun k hk => by simp [Value.ownBlock] at hk; omega)
end Go.Proofs.YthhemdjggdgaaaaDoor
