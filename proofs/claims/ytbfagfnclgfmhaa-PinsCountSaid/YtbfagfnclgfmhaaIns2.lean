import Derived.Test.YtbfagfnclgfmhaaIns
namespace Go.Proofs.Ytbfagfnclgfmhaa
open Go.RowKit

set_option maxHeartbeats 2000000 in
/-- There is no room. -/
theorem ins_grow (base b2 : Nat) (w : World) (g n c i vb vc : Nat) (ps : List Pin) (x : Pin) (ho : Own base w (some ⟨g, 0, none⟩) n c ps) (hv : Own b2 w (some ⟨vb, 0, none⟩) 1 vc [x]) (hi : i < n) (hroom : c < n + 1) (hb : base ≤ w.heap.size) (hn : n ≤ 1000) :
    Calls Try.prog 23 #[.slice (some ⟨g, 0, none⟩) n c, .int .i64 i, .slice (some ⟨vb, 0, none⟩) 1 vc] w (InsPost base w n (insd ps i x)) := by
  obtain ⟨i0, hi0, hz0, hz1, hz2⟩ := info_parts pin_info
  have hlen := ho.reads.len
  have hlt := ho.lt
  have hltv := hv.lt
  have hcap := ho.cap
  have e1 : (pcs (ps.take i)).length = i * 2 := by rw [pcs_length, List.length_take]; omega
  have e3 : (pcs (ps.drop i)).length = (n - i) * 2 := by rw [pcs_length, List.length_drop, hlen]
  have hcells : ∀ j v, (pcs ps)[j]? = some v → w.cell? ⟨g, j, none⟩ = some v := by
    intro j v hj
    rw [← hj]
    have hjl : j < (pcs ps).length := (List.getElem?_eq_some_iff.1 hj).1
    rw [pcs_length] at hjl
    exact World.ownsRow.cellAt ho _ (by omega)
  have hold : ∀ j v, (pcs (ps.take i))[j]? = some v → w.cell? ((⟨g, 0, none⟩ : Addr).add j) = some v := by
    intro j v hj
    rw [Addr.add_lit, Nat.zero_add]
    rw [← pcs_take, List.getElem?_take] at hj
    split at hj
    · exact hcells j v hj
    · cases hj
  have hsrc : ∀ j v, (pcs (ps.drop i))[j]? = some v → w.cell? ((⟨g, i * 2, none⟩ : Addr).add j) = some v := by
    intro j v hj
    rw [Addr.add_lit]
    rw [← pcs_drop, List.getElem?_drop] at hj
    exact hcells _ v hj
  have hsv : ∀ j v, (pcs [x])[j]? = some v → w.cell? ((⟨vb, 0, none⟩ : Addr).add j) = some v := fun j v hj => World.ownsRow.cells hv rfl j v hj
  obtain ⟨G, w1, hrun, hown, hg⟩ := run_append_zeros (P := Try.prog) (base := base) w 24 3 24 i0 _ 16 .i64 .i64 Try.underlying24 Try.underlying3 hi0 hz0 hz1 hz2 rfl (by omega) ⟨g, 0, none⟩ i c (pcs (ps.take i)) e1 hold (n + 1 - i) (by omega) (by omega) (by simp only [maxLen]; omega) (by omega) hb
  rw [show i + (n + 1 - i) = n + 1 by omega] at hrun hown
  rw [show ((n + 1 - i : Nat) : Int) = (n : Int) + 1 - (i : Int) by omega] at hrun
  have hGn : n + 1 ≤ G ∧ G ≤ maxLen := by
    rcases hown.2 with ⟨h', _⟩ | ⟨g', cap', cur, h', hb, hg, hnc, hcm, _⟩
    · cases h'
    · injection h' with _ _ h'; subst h'; exact ⟨hnc, hcm⟩
  have hzl : (Builtin.zeroCells (Value.agg #[.int .u64 0, .int .i64 0]).cells (n + 1 - i)).toList.length = (ps.length + 1 - i) * 2 := by
    rw [hlen]; simp [Builtin.zeroCells, Value.cells]
  have hfin := lay_new ps i x _ (by omega) hzl
  have hwz : ((n : Int) + 1 - (i : Int)) = ((n + 1 - i : Nat) : Int) := by omega
  have hw1 : IntKind.i64.wrap ((i : Int) + 1) = (i : Int) + 1 := by rw [IntKind.wrap_i64]; omega
  have hb1 : (0 : Int) ≤ (i : Int) + 1 := by omega
  have hin2 : (i : Int) + 1 ≤ (n : Int) + 1 := by omega
  have htn : ((i : Int) + 1).toNat = i + 1 := by omega
  have hz2' : ¬ ((i : Int) = (n : Int)) := by omega
  have hin : (i : Int) ≤ (n : Int) := by omega
  have hin1 : (i : Int) ≤ (n : Int) + 1 := by omega
  have hc1 : ¬ (c = i) := by omega
  have hc2 : ¬ (G = i) := by omega
  have hc3 : ¬ (G = i + 1) := by omega
  have hic : (i : Int) ≤ (c : Int) := by omega
  have hroomz : ((c : Int) < (n : Int) + 1) := by omega
  have hs2 : (Try.prog.info? 41).map (·.size) = some 2 := by kernel_rfl
  have HS1 : Hid (∀ j v, (pcs (ps.drop i))[j]? = some v → w1.cell? ((⟨g, i * 2, none⟩ : Addr).add j) = some v) := hide (fun j v hj => hg.cell (hsrc j v hj) (by rw [block_of_add]; intro h; cases h))
  have HV1 : Hid (∀ j v, (pcs [x])[j]? = some v → w1.cell? ((⟨vb, 0, none⟩ : Addr).add j) = some v) := hide (fun j v hj => hg.cell (hsv j v hj) (by rw [block_of_add]; intro h; cases h))
  have HG1 := hide hg
  have HO1 := hide hown
  have HFIN := hide hfin
  have H1d := hide (one_pin (ps.drop i))
  have H1x := hide (one_pin [x])
  have HLT := hide hlt
  have HLTV := hide hltv
  have e6 : (pcs [x]).length = Nat.min 1 (n + 1 - i) * 2 := by rw [show Nat.min 1 (n + 1 - i) = 1 from Nat.min_eq_left (by omega)]; rfl
  have e7 : i * 2 + (pcs [x]).length ≤ (n + 1) * 2 := by show i * 2 + 2 ≤ _; omega
  have e4 : (pcs (ps.drop i)).length = Nat.min (n - i) (n - i) * 2 := by rw [e3, show Nat.min (n - i) (n - i) = n - i from Nat.min_self _]
  have e5 : (i + 1) * 2 + (pcs (ps.drop i)).length ≤ (n + 1) * 2 := by omega
  have hBig : Hid (base ≤ w.heap.size) := hb
  have HGn := hide hGn
  obtain ⟨N1, hN1⟩ : ∃ N1, N1 = w.heap.size := ⟨_, rfl⟩
  rw [← hN1] at hrun HO1
  have HN1 := hide hN1
  clear ho hv hlen hlt hltv hcap hcells hold hsrc hsv hg hown hfin hzl hGn hwz hN1
  go_enter Try.func23, Try.ntmps23
  go_wp2_with (first | (at_builtin; refine Lib.wpList_append_run _ rfl _ _ _ _ rfl _ _ rfl rfl _ _ hrun ?_) | ((with_reducible show wpList _ _ _ (⟨_, .call ⟨.builtin .copy, _, _⟩, _, _, _, _⟩ :: _) _ _); refine wpList_copy_row rfl (.tmp 43) (.tmp 44) 24 24 rfl Try.underlying24 hs2 HO1.out (i * 2) (n + 1 - i) (G - i) rfl ⟨vb, 0, none⟩ 1 vc rfl (pcs [x]) e6 HV1.out e7 H1x.out ?_; intro w2 ho2 hg2; have HO2 := hide ho2; have HG2 := hide hg2; clear ho2 hg2))
  obtain ⟨w3, hw3⟩ : ∃ w3, w3 = w2.drew := ⟨_, rfl⟩
  have HO3 : Hid (w3.ownsRow base 41 2 (.slice (some ⟨N1, 0, none⟩) (n + 1) G) (n + 1) (lay (pcs (ps.take i) ++ (Builtin.zeroCells (Value.agg #[.int .u64 0, .int .i64 0]).cells (n + 1 - i)).toList) (i * 2) (pcs [x]))) := by rw [hw3]; exact HO2.out
  have HS3 : Hid (∀ j v, (pcs (ps.drop i))[j]? = some v → w3.cell? ((⟨g, i * 2, none⟩ : Addr).add j) = some v) := by
    rw [hw3]
    exact fun j v hj => HG2.out.cell (HS1.out j v hj) (by rw [block_of_add]; intro h; injection h with h; have := HLT.out; have := HN1.out; simp only at h; omega)
  have B3 : Hid (Below base w w3) := by
    rw [hw3]
    exact (((Below.refl _ _).grown HG1.out hBig.out (fun k hk => by cases hk)).grown HG2.out (Nat.le_trans hBig.out HG1.out.size) (fun k hk => by injection hk with hk; have := HN1.out; have := hBig.out; omega)).drew
  refine wp_region_still_tail 8 (by kernel_rfl) (by kernel_rfl) ?_
  show wpStill Try.prog _ w2.drew (fun a' => wpList Try.prog _ _ _ a' w2.drew) _ _
  rw [← hw3]
  clear hw3
  simp only [List.take_succ_cons, List.take_zero, List.drop_succ_cons, List.drop_zero]
  repeat still_step
  refine wpStill_nil ?_
  go_wp2_with ((with_reducible show wpList _ _ _ (⟨_, .call ⟨.builtin .copy, _, _⟩, _, _, _, _⟩ :: _) _ _); refine wpList_copy_row rfl (.tmp 50) (.tmp 53) 24 24 rfl Try.underlying24 hs2 HO3.out ((i + 1) * 2) (n - i) (G - (i + 1)) rfl ⟨g, i * 2, none⟩ (n - i) (c - i) rfl (pcs (ps.drop i)) e4 HS3.out e5 H1d.out ?_; intro w4 ho4 hg4; have HO4 := hide ho4; have HG4 := hide hg4; clear ho4 hg4)
  go_ret
  have ho4 := HO4.out
  rw [HFIN.out] at ho4
  exact ⟨_, _, rfl, ho4, B3.out.grown HG4.out (Nat.le_trans hBig.out B3.out.size) (fun k hk => by injection hk with hk; have := HN1.out; have := hBig.out; omega)⟩

/-- One is put in. -/
theorem insert_any (base b2 : Nat) (w : World) (A : Option Addr) (n c i vb vc : Nat) (ps : List Pin) (x : Pin) (ho : Own base w A n c ps) (hv : Own b2 w (some ⟨vb, 0, none⟩) 1 vc [x]) (hvb : ∀ k, (Value.slice A n c).ownBlock = some k → vb ≠ k) (hi : i ≤ n) (hb : base ≤ w.heap.size) (hn : n ≤ 1000) :
    Calls Try.prog 23 #[.slice A n c, .int .i64 i, .slice (some ⟨vb, 0, none⟩) 1 vc] w (InsPost base w n (insd ps i x)) := by
  by_cases h : i = n
  · subst h; exact ins_end base b2 w A i c vb vc ps x ho hv hb hn
  · obtain ⟨g, rfl⟩ : ∃ g, A = some ⟨g, 0, none⟩ := by
      rcases ho.2 with ⟨h', h0⟩ | ⟨g', cap', cur, h', _⟩
      · omega
      · injection h' with h' _ _; exact ⟨g', h'⟩
    by_cases hr : n + 1 ≤ c
    · exact ins_shift base b2 w g n c i vb vc ps x ho hv (hvb g rfl) (by omega) hr hn
    · exact ins_grow base b2 w g n c i vb vc ps x ho hv (by omega) (by omega) hb hn
end Go.Proofs.Ytbfagfnclgfmhaa
