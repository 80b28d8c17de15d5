import Derived.Test.YtbfagfnclgfmhaaIns2
namespace Go.Proofs.Ytbfagfnclgfmhaa
open Go.RowKit

section
variable {P : Program} {base : Nat} {e : TypeId} {size : Nat} {g n cap : Nat} {xs : List Value}
/-- 'append(s[:k], ..)' that stays within an own row's elements. -/
theorem run_append_over (w : World) (t ty : TypeId) (k : Nat) (ad : Addr) (m mc : Nat) (cs : List Value) (i : TypeInfo) (ht : P.underlying t = some (.slice e)) (hi : P.info? e = some i) (hsize : i.size = size)
    (hown : w.ownsRow base e size (.slice (some ⟨g, 0, none⟩) n cap) n xs) (hkm : k + m ≤ n) (hn : n ≤ cap) (hcs : cs.length = m * size) (hsrc : ∀ j v, cs[j]? = some v → w.cell? (ad.add j) = some v) (h1 : ∀ v ∈ cs, v.oneCell' = true) :
    ∃ w', (Builtin.append_ #[t, t] ty #[.slice (some ⟨g, 0, none⟩) k cap, .slice (some ad) m mc]).run P w = .ok (.slice (some ⟨g, 0, none⟩) (k + m) cap) w' ∧
      w'.ownsRow base e size (.slice (some ⟨g, 0, none⟩) n cap) n (lay xs (k * size) cs) ∧ w.grownBy w' (some g) := by
  subst hsize
  have hle : k * i.size + m * i.size ≤ n * i.size := by rw [← Nat.add_mul]; exact Nat.mul_le_mul_right _ hkm
  have hl := run_loadCells_list (P := P) w ad cs hsrc
  rw [hcs] at hl
  have hst := run_storeCells_cells (P := P) g (k * i.size) cs 0 w (fun j hj => own_some hown _ (by omega)) (fun j hj => hown.frozenAt _) h1
  obtain ⟨h2, h3⟩ := own_laid cs (k * i.size) w xs hown (by omega)
  refine ⟨_, ?_, h2, h3⟩
  have hroom : k + m ≤ cap := by omega
  simp only [Nat.add_zero] at hst
  simp [Builtin.append_, run_underlying ht, sizeOf, typeInfo, hi, Builtin.lenOf, Builtin.firstCells, hl, hroom, hst, Addr.add_lit]
end

/-- One is taken out. -/
def deld (ps : List Pin) (i : Nat) : List Pin := ps.take i ++ ps.drop (i + 1)
theorem deld_length (ps : List Pin) (i : Nat) (h : i < ps.length) : (deld ps i).length = ps.length - 1 := by unfold deld; simp; omega
theorem lay_del (ps : List Pin) (i : Nat) (h : i < ps.length) (zs : List Value) :
    (lay (lay (pcs ps) (i * 2) (pcs (ps.drop (i + 1)))) ((ps.length - 1) * 2) zs).take ((ps.length - 1) * 2) = pcs (deld ps i) := by
  have e1 : (pcs (ps.take i)).length = i * 2 := by rw [pcs_length, List.length_take]; omega
  have e3 : (pcs (ps.drop (i + 1))).length = (ps.length - (i + 1)) * 2 := by rw [pcs_length, List.length_drop]
  have e2 : (lay (pcs ps) (i * 2) (pcs (ps.drop (i + 1)))).length = ps.length * 2 := by rw [lay_length, pcs_length]; rw [e3, pcs_length]; omega
  have e4 : (lay (pcs ps) (i * 2) (pcs (ps.drop (i + 1)))).take ((ps.length - 1) * 2) = pcs (deld ps i) := by
    unfold lay deld
    rw [pcs_take, pcs_append]
    refine List.take_left' ?_
    rw [List.length_append, e1, e3]; omega
  have e5 : ((lay (pcs ps) (i * 2) (pcs (ps.drop (i + 1)))).take ((ps.length - 1) * 2)).length = (ps.length - 1) * 2 := by rw [List.length_take, e2]; omega
  rw [← e4]
  obtain ⟨L, hL⟩ : ∃ L, lay (pcs ps) (i * 2) (pcs (ps.drop (i + 1))) = L := ⟨_, rfl⟩
  rw [hL] at e5 ⊢
  unfold lay
  rw [List.append_assoc, List.take_left' e5]

def DelPost (base : Nat) (w : World) (n : Nat) (qs : List Pin) (e : Ending) (w' : World) : Prop :=
  ∃ (A' : Option Addr) (c' : Nat), e = .returned (.slice A' (n - 1) c') ∧ Own base w' A' (n - 1) c' qs ∧ Below base w w'

set_option maxHeartbeats 2000000 in
theorem delete_any (base : Nat) (w : World) (g n c i : Nat) (ps : List Pin) (ho : Own base w (some ⟨g, 0, none⟩) n c ps) (hi : i < n) (hb : base ≤ w.heap.size) (hn : n ≤ 1000) :
    Calls Try.prog 24 #[.slice (some ⟨g, 0, none⟩) n c, .int .i64 i, .int .i64 ((i : Int) + 1)] w (DelPost base w n (deld ps i)) := by
  obtain ⟨i0, hi0, hz0, hz1, hz2⟩ := info_parts pin_info
  have hlen := ho.reads.len
  have hlt := ho.lt
  have hcap := ho.cap
  have e3 : (pcs (ps.drop (i + 1))).length = (n - (i + 1)) * 2 := by rw [pcs_length, List.length_drop, hlen]
  have hcells : ∀ j v, (pcs ps)[j]? = some v → w.cell? ⟨g, j, none⟩ = some v := by
    intro j v hj
    rw [← hj]
    have hjl : j < (pcs ps).length := (List.getElem?_eq_some_iff.1 hj).1
    rw [pcs_length] at hjl
    exact World.ownsRow.cellAt ho _ (by omega)
  have hsrc : ∀ j v, (pcs (ps.drop (i + 1)))[j]? = some v → w.cell? ((⟨g, (i + 1) * 2, none⟩ : Addr).add j) = some v := by
    intro j v hj
    rw [Addr.add_lit]
    rw [← pcs_drop, List.getElem?_drop] at hj
    exact hcells _ v hj
  have hsrc' : c = i + 1 → ∀ j v, (pcs (ps.drop (i + 1)))[j]? = some v → w.cell? ((⟨g, 0, none⟩ : Addr).add j) = some v := by
    intro hc j v hj
    have hjl : j < (pcs (ps.drop (i + 1))).length := (List.getElem?_eq_some_iff.1 hj).1
    rw [e3] at hjl; omega
  obtain ⟨w1, hrun, ho1, hg1⟩ : ∃ w1, (Builtin.append_ #[24, 24] 24 #[.slice (some ⟨g, 0, none⟩) i c, .slice (if c = i + 1 then some ⟨g, 0, none⟩ else some ⟨g, (i + 1) * 2, none⟩) (n - (i + 1)) (c - (i + 1))]).run Try.prog w.drew = .ok (.slice (some ⟨g, 0, none⟩) (n - 1) c) w1 ∧
      w1.ownsRow base 41 2 (.slice (some ⟨g, 0, none⟩) n c) n (lay (pcs ps) (i * 2) (pcs (ps.drop (i + 1)))) ∧ w.drew.grownBy w1 (some g) := by
    by_cases hc : c = i + 1
    · rw [if_pos hc]
      obtain ⟨w1, h1, h2, h3⟩ := run_append_over (P := Try.prog) w.drew 24 24 i ⟨g, 0, none⟩ (n - (i + 1)) (c - (i + 1)) _ i0 Try.underlying24 hi0 hz1 (World.ownsRow.drew ho) (by omega) hcap.1 e3 (hsrc' hc) (one_pin _)
      rw [show i + (n - (i + 1)) = n - 1 by omega] at h1
      exact ⟨w1, h1, h2, h3⟩
    · rw [if_neg hc]
      obtain ⟨w1, h1, h2, h3⟩ := run_append_over (P := Try.prog) w.drew 24 24 i ⟨g, (i + 1) * 2, none⟩ (n - (i + 1)) (c - (i + 1)) _ i0 Try.underlying24 hi0 hz1 (World.ownsRow.drew ho) (by omega) hcap.1 e3 hsrc (one_pin _)
      rw [show i + (n - (i + 1)) = n - 1 by omega] at h1
      exact ⟨w1, h1, h2, h3⟩
  have hzv : ∀ w, (zeroValue 41).run Try.prog w = .ok (.agg #[.int .u64 0, .int .i64 0]) w := fun w => by simp [zeroValue, typeInfo, hi0, hz0]
  have hfin := lay_del ps i (by omega) (Builtin.zeroCells (Value.agg #[.int .u64 0, .int .i64 0]).cells 1).toList
  rw [hlen] at hfin
  have hw1 : IntKind.i64.wrap ((i : Int) + 1) = (i : Int) + 1 := by rw [IntKind.wrap_i64]; omega
  have hb1 : (0 : Int) ≤ (i : Int) + 1 := by omega
  have hin2 : (i : Int) + 1 ≤ (n : Int) := by omega
  have hin3 : (i : Int) ≤ (i : Int) + 1 := by omega
  have htn : ((i : Int) + 1).toNat = i + 1 := by omega
  have hne : ¬ ((i : Int) = (i : Int) + 1) := by omega
  have hin : (i : Int) ≤ (n : Int) := by omega
  have hni : ¬ (n = i) := by omega
  have hc1 : ¬ (c = n - 1) := by omega
  have hc2 : (i : Int) ≤ (c : Int) := by omega
  have hc3 : (n : Int) ≤ (c : Int) := by omega
  have hn1 : ((n - 1 : Nat) : Int) ≤ (n : Int) := by omega
  have e8 : n - (n - 1) = 1 := by omega
  have q1 : (n - 1) * 2 + 1 * 2 ≤ n * 2 := by omega
  have HO1 := hide ho1
  have HG1 := hide hg1
  have HFIN := hide hfin
  have HLT := hide hlt
  clear ho hlen hlt hcap hcells hsrc hsrc' ho1 hg1 hfin
  have q2 : 0 < 1 := by omega
  have q3 : 0 < 2 := by omega
  by_cases hci : c = i + 1
  · subst hci
    rw [if_pos rfl] at hrun
    go_enter Try.func24, Try.ntmps24
    go_wp2_with fail
    obtain ⟨w2, hw2⟩ : ∃ w2, w2 = w.drew := ⟨_, rfl⟩
    have B2 : Hid (Below base w w2) := by rw [hw2]; exact (Below.refl _ _).drew
    have HS2 : Hid (w2.heap.size = w.heap.size) := by rw [hw2]; rfl
    rw [← hw2] at hrun HG1
    refine wp_region_still_tail 6 (by kernel_rfl) (by kernel_rfl) ?_
    show wpStill Try.prog _ w.drew (fun a' => wpList Try.prog _ _ _ a' w.drew) _ _
    rw [← hw2]
    clear hw2
    simp only [List.take_succ_cons, List.take_zero, List.drop_succ_cons, List.drop_zero]
    repeat still_step
    refine wpStill_nil ?_
    go_wp2_with (first | (at_builtin; refine Lib.wpList_append_run _ rfl _ _ _ _ rfl _ _ rfl rfl _ _ hrun ?_) | ((with_reducible show wpList _ _ _ (⟨_, .call ⟨.builtin .clear, _, _⟩, _, _, _, _⟩ :: _) _ _); refine wpList_clear_row rfl (.tmp 31) 24 rfl _ Try.underlying24 hzv rfl (by intro v hv; simp [Value.cells] at hv; rcases hv with rfl | rfl <;> rfl) q3 HO1.out ((n - 1) * 2) 1 (i + 1 - (n - 1)) rfl q1 q2 ?_; intro w3 ho3 hg3; have HO3 := hide ho3; have HG3 := hide hg3; clear ho3 hg3))
    go_ret
    have ho3 := own_narrower (size := 2) HO3.out (m := n - 1) (by omega)
    rw [HFIN.out] at ho3
    exact ⟨_, _, rfl, ho3, (B2.out.grown HG1.out (Nat.le_trans hb B2.out.size) (fun k hk => by injection hk with hk; have := HLT.out; omega)).grown HG3.out (Nat.le_trans hb (Nat.le_trans B2.out.size HG1.out.size)) (fun k hk => by injection hk with hk; have := HLT.out; omega)⟩
  · rw [if_neg hci] at hrun
    go_enter Try.func24, Try.ntmps24
    go_wp2_with fail
    obtain ⟨w2, hw2⟩ : ∃ w2, w2 = w.drew := ⟨_, rfl⟩
    have B2 : Hid (Below base w w2) := by rw [hw2]; exact (Below.refl _ _).drew
    have HS2 : Hid (w2.heap.size = w.heap.size) := by rw [hw2]; rfl
    rw [← hw2] at hrun HG1
    refine wp_region_still_tail 6 (by kernel_rfl) (by kernel_rfl) ?_
    show wpStill Try.prog _ w.drew (fun a' => wpList Try.prog _ _ _ a' w.drew) _ _
    rw [← hw2]
    clear hw2
    simp only [List.take_succ_cons, List.take_zero, List.drop_succ_cons, List.drop_zero]
    repeat still_step
    refine wpStill_nil ?_
    go_wp2_with (first | (at_builtin; refine Lib.wpList_append_run _ rfl _ _ _ _ rfl _ _ rfl rfl _ _ hrun ?_) | ((with_reducible show wpList _ _ _ (⟨_, .call ⟨.builtin .clear, _, _⟩, _, _, _, _⟩ :: _) _ _); refine wpList_clear_row rfl (.tmp 31) 24 rfl _ Try.underlying24 hzv rfl (by intro v hv; simp [Value.cells] at hv; rcases hv with rfl | rfl <;> rfl) q3 HO1.out ((n - 1) * 2) 1 (c - (n - 1)) rfl q1 q2 ?_; intro w3 ho3 hg3; have HO3 := hide ho3; have HG3 := hide hg3; clear ho3 hg3))
    go_ret
    have ho3 := own_narrower (size := 2) HO3.out (m := n - 1) (by omega)
    rw [HFIN.out] at ho3
    exact ⟨_, _, rfl, ho3, (B2.out.grown HG1.out (Nat.le_trans hb B2.out.size) (fun k hk => by injection hk with hk; have := HLT.out; omega)).grown HG3.out (Nat.le_trans hb (Nat.le_trans B2.out.size HG1.out.size)) (fun k hk => by injection hk with hk; have := HLT.out; omega)⟩
end Go.Proofs.Ytbfagfnclgfmhaa
