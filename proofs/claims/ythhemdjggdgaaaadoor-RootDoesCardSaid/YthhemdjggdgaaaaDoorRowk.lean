/- Rows of the call's own, cells at once: what is laid over, what is copied, what is cleared. No program. -/
import Derived.Test.YthhemdjggdgaaaaDoorMem
import Derived.Lib.AppendZerosOnto
import Derived.Lib.SliceRun
namespace Go.Proofs.YthhemdjggdgaaaaDoor
open Go.RowKit

/-- A list with another one laid over it from o on. -/
def lay (xs : List Value) (o : Nat) (vs : List Value) : List Value := xs.take o ++ vs ++ xs.drop (o + vs.length)
theorem lay_length (xs : List Value) (o : Nat) (vs : List Value) (h : o + vs.length ≤ xs.length) : (lay xs o vs).length = xs.length := by
  unfold lay; simp; omega
theorem lay_nil (xs : List Value) (o : Nat) : lay xs o [] = xs := by unfold lay; simp
theorem lay_cons (xs : List Value) (o : Nat) (v : Value) (r : List Value) (h : o < xs.length) : lay (xs.set o v) (o + 1) r = lay xs o (v :: r) := by
  unfold lay
  rw [List.drop_set_of_lt (by omega), List.take_set, List.take_succ_eq_append_getElem h]
  rw [List.set_append_right _ _ (by simp; omega)]
  have : o - (List.take o xs).length = 0 := by simp; omega
  rw [this]
  simp only [List.set_cons_zero, List.length_cons, List.append_assoc, List.cons_append, List.nil_append]
  rw [show o + 1 + r.length = o + (r.length + 1) by omega]

section
variable {w : World} {base : Nat} {e : TypeId} {size : Nat} {g n cap : Nat} {xs : List Value}
theorem grownBy_trans {a b c : World} {row : Option Nat} (h : a.grownBy b row) (k : b.grownBy c row) : a.grownBy c row :=
  ⟨k.os.trans h.os, k.tape.trans h.tape, k.output.trans h.output, Nat.le_trans h.size k.size, fun i hi hr => (k.block i (Nat.lt_of_lt_of_le hi h.size) hr).trans (h.block i hi hr)⟩
theorem own_laid : ∀ (vs : List Value) (o : Nat) (w : World) (xs : List Value), w.ownsRow base e size (.slice (some ⟨g, 0, none⟩) n cap) n xs → o + vs.length ≤ n * size →
    (w.setCells g o vs).ownsRow base e size (.slice (some ⟨g, 0, none⟩) n cap) n (lay xs o vs) ∧ w.grownBy (w.setCells g o vs) (some g)
  | [], o, w, xs, h, _ => by rw [lay_nil]; exact ⟨h, World.grownBy.refl _ _⟩
  | v :: r, o, w, xs, h, hl => by
    simp only [List.length_cons] at hl
    obtain ⟨h1, h2⟩ := h.stored o v
    obtain ⟨h3, h4⟩ := own_laid r (o + 1) _ _ h1 (by omega)
    rw [lay_cons xs o v r (by rw [h.1]; omega)] at h3
    exact ⟨h3, grownBy_trans h2 h4⟩
theorem own_some (h : w.ownsRow base e size (.slice (some ⟨g, 0, none⟩) n cap) n xs) (j : Nat) (hj : j < n * size) : (w.cell? ⟨g, j, none⟩).isSome = true := by
  rw [h.cellAt j hj, List.getElem?_eq_getElem (by rw [h.1]; exact hj)]; rfl
theorem own_wider (h : w.ownsRow base e size (.slice (some ⟨g, 0, none⟩) n cap) n xs) {m : Nat} (hm : m ≤ cap) (hnm : n ≤ m) :
    ∃ ys, w.ownsRow base e size (.slice (some ⟨g, 0, none⟩) m cap) m (xs ++ ys) ∧ ys.length = (m - n) * size := by
  have hx := h.1
  rcases h.2 with ⟨h', _⟩ | ⟨g', cap', cur, h', hb, hg, hnc, hcm, hcs, ht⟩
  · simp at h'
  · simp only [Value.slice.injEq, Option.some.injEq, Addr.mk.injEq, and_true, true_and] at h'
    obtain ⟨rfl, rfl⟩ := h'
    have hle : n * size ≤ m * size := Nat.mul_le_mul_right _ hnm
    have hle' : m * size ≤ cap * size := Nat.mul_le_mul_right _ hm
    have hl : cur.toList.length = cap * size := by simpa using hcs
    have e1 : xs ++ (cur.toList.take (m * size)).drop (n * size) = cur.toList.take (m * size) := by
      rw [← ht, show cur.toList.take (n * size) = (cur.toList.take (m * size)).take (n * size) by rw [List.take_take, Nat.min_eq_left hle], List.take_append_drop]
    refine ⟨(cur.toList.take (m * size)).drop (n * size), ⟨?_, .inr ⟨g, cap, cur, rfl, hb, hg, hm, hcm, hcs, e1.symm⟩⟩, ?_⟩
    · rw [e1, List.length_take, hl]; omega
    · rw [List.length_drop, List.length_take, hl, Nat.sub_mul]; omega
theorem own_narrower (h : w.ownsRow base e size (.slice (some ⟨g, 0, none⟩) n cap) n xs) {m : Nat} (hm : m ≤ n) :
    w.ownsRow base e size (.slice (some ⟨g, 0, none⟩) m cap) m (xs.take (m * size)) := by
  have hx := h.1
  have hle : m * size ≤ n * size := Nat.mul_le_mul_right _ hm
  rcases h.2 with ⟨h', _⟩ | ⟨g', cap', cur, h', hb, hg, hnc, hcm, hcs, ht⟩
  · simp at h'
  · simp only [Value.slice.injEq, Option.some.injEq, Addr.mk.injEq, and_true, true_and] at h'
    obtain ⟨rfl, rfl⟩ := h'
    refine ⟨by rw [List.length_take, hx]; omega, .inr ⟨g, cap, cur, rfl, hb, hg, by omega, hcm, hcs, ?_⟩⟩
    rw [← ht, List.take_take, Nat.min_eq_left hle]
end

section
variable {P : Program} {base : Nat} {e : TypeId} {size : Nat} {g n cap : Nat} {xs : List Value}
/-- ALL IS READ BEFORE ANYTHING IS WRITTEN: 'cs' is what the source held. -/
theorem run_copy_row (w : World) (dT sT ty : TypeId) (o dLen dCap : Nat) (a : Addr) (sLen sCap : Nat) (cs : List Value) (hu : P.underlying dT = some (.slice e)) (hs : (P.info? e).map (·.size) = some size)
    (hown : w.ownsRow base e size (.slice (some ⟨g, 0, none⟩) n cap) n xs) (hn : cs.length = Nat.min sLen dLen * size) (hsrc : ∀ j v, cs[j]? = some v → w.cell? (a.add j) = some v) (hin : o + cs.length ≤ n * size) (h1 : ∀ v ∈ cs, v.oneCell' = true) :
    ∃ w', (Builtin.copy_ #[dT, sT] ty #[.slice (some ⟨g, o, none⟩) dLen dCap, .slice (some a) sLen sCap]).run P w = .ok (goInt (Nat.min sLen dLen)) w' ∧
      w'.ownsRow base e size (.slice (some ⟨g, 0, none⟩) n cap) n (lay xs o cs) ∧ w.grownBy w' (some g) := by
  have hl := run_loadCells_list (P := P) w a cs hsrc
  have hst := run_storeCells_cells (P := P) g o cs 0 w (fun j hj => own_some hown _ (by omega)) (fun j hj => hown.frozenAt _) h1
  obtain ⟨h2, h3⟩ := own_laid cs o w xs hown hin
  refine ⟨w.setCells g o cs, ?_, h2, h3⟩
  cases hq : P.info? e with
  | none => simp [hq] at hs
  | some i =>
    have hi : i.size = size := by simpa [hq] using hs
    simp [Builtin.copy_, run_underlying hu, Builtin.lenOf, Builtin.firstCells, sizeOf, typeInfo, hq, hi, ← hn, hl, hst]

theorem wp_copy_row {w : World} {op : Oper} {a : Act} {K : Act → World → Prop} {Q : Exit → Act → World → Prop} (d s : Operand) (dT sT : TypeId)
    (ho : op.op = .call { callee := .builtin .copy, args := #[d, s], argTypes := #[dT, sT] }) (hu : P.underlying dT = some (.slice e)) (hs : (P.info? e).map (·.size) = some size)
    (hown : w.ownsRow base e size (.slice (some ⟨g, 0, none⟩) n cap) n xs) (o dLen dCap : Nat) (hd : a.eval d = .slice (some ⟨g, o, none⟩) dLen dCap) (ad : Addr) (sLen sCap : Nat) (hx : a.eval s = .slice (some ad) sLen sCap)
    (cs : List Value) (hn : cs.length = Nat.min sLen dLen * size) (hsrc : ∀ j v, cs[j]? = some v → w.cell? (ad.add j) = some v) (hin : o + cs.length ≤ n * size) (h1 : ∀ v ∈ cs, v.oneCell' = true)
    (h : ∀ w', w'.ownsRow base e size (.slice (some ⟨g, 0, none⟩) n cap) n (lay xs o cs) → w.grownBy w' (some g) → K (a.put op.dst (goInt (Nat.min sLen dLen))) w') : op.wp P a w K Q := by
  obtain ⟨w', hr, h2, h3⟩ := run_copy_row (P := P) w dT sT op.type o dLen dCap ad sLen sCap cs hu hs hown hn hsrc hin h1
  unfold Oper.wp execOp
  simp only [ho, resolve, invoke, builtin, Sem.run_bind, Sem.run_pure, Result.andThen_ok, List.map_toArray, List.map_cons, List.map_nil, hd, hx, hr]
  exact h w' h2 h3
theorem wpList_copy_row {w : World} {ops : Array Oper} {rest : List Oper} {op : Oper} {a : Act} {Q : Exit → Act → World → Prop} (hgd : op.guard = none) (d s : Operand) (dT sT : TypeId)
    (ho : op.op = .call { callee := .builtin .copy, args := #[d, s], argTypes := #[dT, sT] }) (hu : P.underlying dT = some (.slice e)) (hs : (P.info? e).map (·.size) = some size)
    (hown : w.ownsRow base e size (.slice (some ⟨g, 0, none⟩) n cap) n xs) (o dLen dCap : Nat) (hd : a.eval d = .slice (some ⟨g, o, none⟩) dLen dCap) (ad : Addr) (sLen sCap : Nat) (hx : a.eval s = .slice (some ad) sLen sCap)
    (cs : List Value) (hn : cs.length = Nat.min sLen dLen * size) (hsrc : ∀ j v, cs[j]? = some v → w.cell? (ad.add j) = some v) (hin : o + cs.length ≤ n * size) (h1 : ∀ v ∈ cs, v.oneCell' = true)
    (h : ∀ w', w'.ownsRow base e size (.slice (some ⟨g, 0, none⟩) n cap) n (lay xs o cs) → w.grownBy w' (some g) → wpList P ops Q rest (a.put op.dst (goInt (Nat.min sLen dLen))) w') : wpList P ops Q (op :: rest) a w :=
  wpList_plain hgd fun _ hK => wp_copy_row d s dT sT ho hu hs hown o dLen dCap hd ad sLen sCap hx cs hn hsrc hin h1 fun w' h2 h3 => hK _ _ (h w' h2 h3)
theorem step_copy_row {w : World} {ops : Array Oper} {op : Oper} {a : Act} {K : Act → World → Prop} {Q : Exit → Act → World → Prop} {E : Prop} (hgd : op.guard = none) (d s : Operand) (dT sT : TypeId)
    (ho : op.op = .call { callee := .builtin .copy, args := #[d, s], argTypes := #[dT, sT] }) (hu : P.underlying dT = some (.slice e)) (hs : (P.info? e).map (·.size) = some size)
    (hown : w.ownsRow base e size (.slice (some ⟨g, 0, none⟩) n cap) n xs) (o dLen dCap : Nat) (hd : a.eval d = .slice (some ⟨g, o, none⟩) dLen dCap) (ad : Addr) (sLen sCap : Nat) (hx : a.eval s = .slice (some ad) sLen sCap)
    (cs : List Value) (hn : cs.length = Nat.min sLen dLen * size) (hsrc : ∀ j v, cs[j]? = some v → w.cell? (ad.add j) = some v) (hin : o + cs.length ≤ n * size) (h1 : ∀ v ∈ cs, v.oneCell' = true)
    (h : ∀ w', w'.ownsRow base e size (.slice (some ⟨g, 0, none⟩) n cap) n (lay xs o cs) → w.grownBy w' (some g) → K (a.put op.dst (goInt (Nat.min sLen dLen))) w') :
    if Region.wanted op (yielded ops a.tmps) = true then op.wp P a w K Q else E := by
  have hw : Region.wanted op (yielded ops a.tmps) = true := by simp [Region.wanted, hgd]
  rw [if_pos hw]
  exact wp_copy_row d s dT sT ho hu hs hown o dLen dCap hd ad sLen sCap hx cs hn hsrc hin h1 h

/-- 'clear(s)', s the elements of an own row from o on. -/
theorem run_clear_row (w : World) (t ty : TypeId) (z : Value) (ht : P.underlying t = some (.slice e)) (hv : ∀ w, (zeroValue e).run P w = .ok z w) (hz : z.cells.size = size) (h1 : ∀ v ∈ z.cells.toList, v.oneCell' = true) (hs0 : 0 < size)
    (hown : w.ownsRow base e size (.slice (some ⟨g, 0, none⟩) n cap) n xs) (o m c : Nat) (hin : o + m * size ≤ n * size) (hm : 0 < m) :
    ∃ w', (Builtin.clear_ #[t] ty #[.slice (some ⟨g, o, none⟩) m c]).run P w = .ok (.tuple #[]) w' ∧
      w'.ownsRow base e size (.slice (some ⟨g, 0, none⟩) n cap) n (lay xs o (Builtin.zeroCells z.cells m).toList) ∧ w.grownBy w' (some g) := by
  have hl : (Builtin.zeroCells z.cells m).toList.length = m * size := by simp [Builtin.zeroCells, hz]
  have ho : ∀ v ∈ (Builtin.zeroCells z.cells m).toList, v.oneCell' = true := by
    intro v hv'
    simp only [Builtin.zeroCells, Array.toList_map, List.mem_map] at hv'
    obtain ⟨i, _, rfl⟩ := hv'
    have hlt : i % z.cells.size < z.cells.size := Nat.mod_lt _ (by rw [hz]; exact hs0)
    rw [getElem!_pos z.cells (i % z.cells.size) hlt]
    exact h1 _ (by simp)
  have hst := run_storeCells_cells (P := P) g o (Builtin.zeroCells z.cells m).toList 0 w (fun j hj => own_some hown _ (by omega)) (fun j hj => hown.frozenAt _) ho
  obtain ⟨h2, h3⟩ := own_laid (Builtin.zeroCells z.cells m).toList o w xs hown (by omega)
  refine ⟨_, ?_, h2, h3⟩
  obtain ⟨k, rfl⟩ : ∃ k, m = k + 1 := ⟨m - 1, by omega⟩
  simp [Builtin.clear_, run_underlying ht, hv, hst]

theorem wpList_clear_row {w : World} {ops : Array Oper} {rest : List Oper} {op : Oper} {a : Act} {Q : Exit → Act → World → Prop} (hgd : op.guard = none) (s : Operand) (t : TypeId)
    (hop : op.op = .call { callee := .builtin .clear, args := #[s], argTypes := #[t] }) (z : Value) (ht : P.underlying t = some (.slice e)) (hv : ∀ w, (zeroValue e).run P w = .ok z w) (hz : z.cells.size = size) (h1 : ∀ v ∈ z.cells.toList, v.oneCell' = true) (hs0 : 0 < size)
    (hown : w.ownsRow base e size (.slice (some ⟨g, 0, none⟩) n cap) n xs) (o m c : Nat) (hd : a.eval s = .slice (some ⟨g, o, none⟩) m c) (hin : o + m * size ≤ n * size) (hm : 0 < m)
    (h : ∀ w', w'.ownsRow base e size (.slice (some ⟨g, 0, none⟩) n cap) n (lay xs o (Builtin.zeroCells z.cells m).toList) → w.grownBy w' (some g) → wpList P ops Q rest (a.put op.dst (.tuple #[])) w') : wpList P ops Q (op :: rest) a w :=
  wpList_plain hgd fun K hK => by
    obtain ⟨w', hr, h2, h3⟩ := run_clear_row (P := P) w t op.type z ht hv hz h1 hs0 hown o m c hin hm
    unfold Oper.wp execOp
    simp only [hop, resolve, invoke, builtin, Sem.run_bind, Sem.run_pure, Result.andThen_ok, List.map_toArray, List.map_cons, List.map_nil, hd, hr]
    exact hK _ _ (h w' h2 h3)

/-- 'append(s, make([]T, k)...)' where there is no room: a new row of the call's own. -/
theorem run_append_zeros (w : World) (t tn ty : TypeId) (i : TypeInfo) (z : Value) (bytes : Nat) (kq kn : IntKind) (ht : P.underlying t = some (.slice e)) (htn : P.underlying tn = some (.int kn)) (hi : P.info? e = some i) (hz : i.zero = some z)
    (hsize : i.size = size) (hby : i.bytes = bytes) (hzs : z.cells.size = size) (hs0 : 0 < size) (ad : Addr) (sLen sCap : Nat) (olds : List Value) (hol : olds.length = sLen * size) (hold : ∀ j v, olds[j]? = some v → w.cell? (ad.add j) = some v)
    (k : Nat) (h0 : 0 < k) (hg : sCap < sLen + k) (h63 : sLen + k ≤ maxLen) (hbytes : (sLen + k) * bytes ≤ 140737488355328) (hb : base ≤ w.heap.size) :
    ∃ cap' w', (Builtin.append_ #[t, tn] ty #[.slice (some ad) sLen sCap, .int kq k]).run P w = .ok (.slice (some ⟨w.heap.size, 0, none⟩) (sLen + k) cap') w' ∧
      w'.ownsRow base e size (.slice (some ⟨w.heap.size, 0, none⟩) (sLen + k) cap') (sLen + k) (olds ++ (Builtin.zeroCells z.cells k).toList) ∧ w.grownBy w' none := by
  subst hsize hby
  have h63' : ((sLen + k : Nat) : Int) ≤ 9223372036854775807 := by simp [maxLen] at h63; omega
  have hk48 : k * i.bytes ≤ 281474976710656 := by
    have : k * i.bytes ≤ (sLen + k) * i.bytes := Nat.mul_le_mul_right _ (by omega)
    omega
  have hold' : (Builtin.firstCells i.size sLen (.slice (some ad) sLen sCap)).run P w.drew = .ok olds.toArray w.drew :=
    run_firstCells_some w.drew i.size sLen ad sLen sCap olds hol hold
  have hr := Lib.run_append_grow_zeros (P := P) w t tn ty e i z kq kn ht htn hi hz (some ad) sLen sCap olds hold' k h0 hs0 hg h63' hk48 (growslice_fits hg hbytes)
  have hG := grownCap_ge w (sLen + k) sCap e
  have hGm := grownCap_le_maxLen w (sLen + k) sCap e h63
  have hzl : ∀ q, (Builtin.zeroCells z.cells q).toList.length = q * i.size := fun q => by simp [Builtin.zeroCells, hzs]
  generalize grownCap w (sLen + k) sCap e = G at *
  refine ⟨G, _, hr, ?_, ⟨rfl, rfl, rfl, by show w.heap.size ≤ (w.heap.push _).size; simp, fun q hq _ => by show (w.heap.push _)[q]? = _; rw [Array.getElem?_push, if_neg (by omega)]⟩⟩
  refine ⟨by rw [List.length_append, hol, hzl, Nat.add_mul], .inr ⟨w.heap.size, G, olds.toArray ++ Builtin.zeroCells z.cells k ++ Builtin.zeroCells z.cells (G - (sLen + k)), rfl, hb, heap_alloc_new w.drew _, hG, hGm, ?_, ?_⟩⟩
  · have e1 : (Builtin.zeroCells z.cells k).size = k * i.size := by simpa using hzl k
    have e2 : (Builtin.zeroCells z.cells (G - (sLen + k))).size = (G - (sLen + k)) * i.size := by simpa using hzl (G - (sLen + k))
    simp only [Array.size_append, List.size_toArray, hol, e1, e2]
    rw [← Nat.add_mul, ← Nat.add_mul]
    congr 1; omega
  · simp only [Array.toList_append, List.append_assoc]
    rw [← List.append_assoc]
    refine List.take_left' ?_
    rw [List.length_append, hol, hzl, Nat.add_mul]
end
end Go.Proofs.YthhemdjggdgaaaaDoor
