import Derived.Test.YthhemdjggdgaaaaDoorPg
import Derived.Lib.Overlaps
import Derived.Laws.Externs
import Derived.Deep.RegionLaw
namespace Go.Proofs.YthhemdjggdgaaaaDoor
open Go.RowKit

def insd (ps : List Pg) (i : Nat) (x : Pg) : List Pg := ps.take i ++ x :: ps.drop i

theorem insd_end (ps : List Pg) (n : Nat) (h : ps.length = n) (x : Pg) : insd ps n x = ps ++ [x] := by
  unfold insd; rw [List.take_of_length_le (by omega), List.drop_of_length_le (by omega)]
theorem pcs_insd (ps : List Pg) (i : Nat) (x : Pg) : pcs (insd ps i x) = pcs (ps.take i) ++ pcs [x] ++ pcs (ps.drop i) := by
  unfold insd; rw [pcs_append, show x :: ps.drop i = [x] ++ ps.drop i from rfl, pcs_append, List.append_assoc]
/-- Laid over whole: what stands ahead, and what is laid. -/
theorem lay_tail (a b vs : List Value) (h : b.length = vs.length) : lay (a ++ b) a.length vs = a ++ vs := by
  unfold lay; rw [List.take_left, List.drop_of_length_le (by simp; omega), List.append_nil]
theorem lay_mid (a b d vs : List Value) (h : b.length = vs.length) : lay (a ++ b ++ d) a.length vs = a ++ vs ++ d := by
  unfold lay
  have e1 : (a ++ b ++ d).take a.length = a := by rw [List.append_assoc, List.take_left]
  have e2 : (a ++ b ++ d).drop (a.length + vs.length) = d := by rw [← h, ← List.length_append, List.drop_left]
  rw [e1, e2]
theorem lay_new (ps : List Pg) (i : Nat) (x : Pg) (ys : List Value) (hi : i ≤ ps.length) (hy : ys.length = (ps.length + 1 - i) * 2) :
    lay (lay (pcs (ps.take i) ++ ys) (i * 2) (pcs [x])) ((i + 1) * 2) (pcs (ps.drop i)) = pcs (insd ps i x) := by
  have e1 : (pcs (ps.take i)).length = i * 2 := by rw [pcs_length, List.length_take]; omega
  have e2 : (pcs [x]).length = 2 := rfl
  have e3 : (pcs (ps.drop i)).length = (ps.length - i) * 2 := by rw [pcs_length, List.length_drop]
  have e4 : ys = ys.take 2 ++ ys.drop 2 := (List.take_append_drop 2 ys).symm
  rw [← e1, e4, ← List.append_assoc, lay_mid _ _ _ _ (by rw [List.length_take, e2]; omega),
    show (i + 1) * 2 = (pcs (ps.take i) ++ pcs [x]).length by rw [List.length_append, e1, e2]; omega, lay_tail _ _ _ (by rw [List.length_drop, e3]; omega), pcs_insd]
theorem lay_shift (ps : List Pg) (i : Nat) (x : Pg) (ys : List Value) (hi : i ≤ ps.length) (hy : ys.length = 2) :
    lay (lay (pcs ps ++ ys) ((i + 1) * 2) (pcs (ps.drop i))) (i * 2) (pcs [x]) = pcs (insd ps i x) := by
  have e1 : (pcs (ps.take i)).length = i * 2 := by rw [pcs_length, List.length_take]; omega
  have e2 : (pcs [x]).length = 2 := rfl
  have e3 : (pcs (ps.drop i)).length = (ps.length - i) * 2 := by rw [pcs_length, List.length_drop]
  have e0 : pcs ps = pcs (ps.take i) ++ pcs (ps.drop i) := by rw [← pcs_append, List.take_append_drop]
  obtain ⟨zs, hz⟩ : ∃ zs, pcs (ps.drop i) ++ ys = zs := ⟨_, rfl⟩
  have e5 : zs.length = (ps.length - i) * 2 + 2 := by rw [← hz, List.length_append, e3, hy]
  have e4 : pcs ps ++ ys = (pcs (ps.take i) ++ zs.take 2) ++ zs.drop 2 := by rw [e0, List.append_assoc, hz, List.append_assoc, List.take_append_drop]
  have e6 : (pcs (ps.take i) ++ zs.take 2).length = (i + 1) * 2 := by rw [List.length_append, e1, List.length_take]; omega
  rw [e4, ← e6, lay_tail _ _ _ (by rw [List.length_drop, e5, e3]; omega), ← e1, lay_mid _ _ _ _ (by rw [List.length_take, e5, e2]; omega), pcs_insd]

def Beside (o : Option Nat) (w w' : World) : Prop := ∀ q, q < w.heap.size → o ≠ some q → w'.heap[q]? = w.heap[q]?
def InsPost (base : Nat) (w : World) (A : Option Addr) (n c : Nat) (qs : List Pg) (e : Ending) (w' : World) : Prop :=
  ∃ (A' : Option Addr) (c' : Nat), e = .returned (.slice A' (n + 1) c') ∧ Own base w' A' (n + 1) c' qs ∧ Below base w w' ∧ Beside (Value.slice A n c).ownBlock w w'

set_option maxHeartbeats 1000000 in
/-- At the end. -/
theorem ins_end (base b2 : Nat) (w : World) (A : Option Addr) (n c vb vc : Nat) (ps : List Pg) (x : Pg) (ho : Own base w A n c ps) (hv : Own b2 w (some ⟨vb, 0, none⟩) 1 vc [x]) (hb : base ≤ w.heap.size) (hn : n ≤ 1000) :
    Calls Tryd.prog 42 #[.slice A n c, .int .i64 n, .slice (some ⟨vb, 0, none⟩) 1 vc] w (InsPost base w A n c (insd ps n x)) := by
  obtain ⟨i0, hi0, hz0, hz1, hz2⟩ := info_parts page_info
  have hlen := ho.reads.len
  rw [insd_end ps n hlen]
  have hlt := fun k hk => (World.ownsRow.lt ho k hk).1
  have HO := hide ho
  have HLT := hide hlt
  have HR := hide hv.reads
  have H1 := hide (one_page [x])
  clear ho hv hlen hlt
  by_cases hcn : c = n
  all_goals
    go_enter Tryd.func42, Tryd.ntmps42
    go_wp2_with (at_builtin; refine wpList_append_any _ rfl (.tmp 23) (.tmp 24) _ rfl base 56 i0 _ 2 32 Tryd.underlying29 hi0 hz0 hz1 hz2 rfl (by omega) (.slice A n c) n (pcs ps) rfl HO.out w.heap.size (some ⟨vb, 0, none⟩) 1 vc (pcs [x]) rfl HR.out H1.out (by simp only [maxLen]; omega) (by omega) hb ?_; intro v1 w1 hown1 hg1 hat1)
    go_ret
    rw [← pcs_append] at hown1
    obtain ⟨A', c', rfl⟩ : ∃ A' c', v1 = .slice A' (n + 1) c' := by
      rcases hown1.2 with ⟨rfl, h0⟩ | ⟨g, cap, cur, rfl, _⟩
      · omega
      · exact ⟨_, _, rfl⟩
    exact ⟨A', c', rfl, hown1, (Below.refl _ _).grown hg1 hb HLT.out, fun q hq hne => hg1.block q hq (fun e => hne e.symm)⟩

set_option maxHeartbeats 2000000 in
/-- There is room. -/
theorem ins_shift (base b2 : Nat) (w : World) (g n c i vb vc : Nat) (ps : List Pg) (x : Pg) (ho : Own base w (some ⟨g, 0, none⟩) n c ps) (hv : Own b2 w (some ⟨vb, 0, none⟩) 1 vc [x]) (hvb : vb ≠ g) (hi : i < n) (hroom : n + 1 ≤ c) (hn : n ≤ 1000) :
    Calls Tryd.prog 42 #[.slice (some ⟨g, 0, none⟩) n c, .int .i64 i, .slice (some ⟨vb, 0, none⟩) 1 vc] w (InsPost base w (some ⟨g, 0, none⟩) n c (insd ps i x)) := by
  have hlen := ho.reads.len
  obtain ⟨cur, hh, hcs⟩ := ho.heap
  obtain ⟨curv, hhv, hcv⟩ := hv.heap
  have hlt := ho.lt
  have hcap := ho.cap
  have hov : ∀ lb cb, (callFunc 55 #[.slice (some ⟨vb, 0, none⟩) 1 vc, .slice (some ⟨g, (i + 1) * 2, none⟩) lb cb]).run Tryd.prog w = .ok (.value (.bool false)) w := fun lb cb => by
    rw [run_callFunc_extern Tryd.func55 (by kernel_rfl) (by kernel_rfl) (by kernel_rfl) (e := Extern.SlicesOverlaps.overlaps #[29, 29] #[4]) (by kernel_rfl),
      Lib.run_overlaps_apart w 29 4 56 Tryd.underlying29 2 (fun w => by obtain ⟨i0, hi0, hz0, hz1, hz2⟩ := info_parts page_info; simp [sizeOf, typeInfo, hi0, hz1]) ⟨vb, 0, none⟩ ⟨g, (i + 1) * 2, none⟩ 1 vc lb cb hvb 56 56 curv.size cur.size
        (by unfold World.shape?; rw [hhv]) (by unfold World.shape?; rw [hh]) (by omega) (frozen_of_row w vb 0 curv 56 hhv) (frozen_of_row w vb _ curv 56 hhv)]
    rfl
  obtain ⟨ys, hw, hyl⟩ := own_wider (w := w) (m := n + 1) ho hroom (by omega)
  rw [show (n + 1 - n) * 2 = 2 by omega] at hyl
  have hfin := lay_shift ps i x ys (by omega) hyl
  have e3 : (pcs (ps.drop i)).length = (n - i) * 2 := by rw [pcs_length, List.length_drop, hlen]
  have hsrc : ∀ j v, (pcs (ps.drop i))[j]? = some v → w.cell? ((⟨g, i * 2, none⟩ : Addr).add j) = some v := by
    intro j v hj
    rw [Addr.add_lit, ← hj, ← pcs_drop, List.getElem?_drop]
    have hjl : j < (pcs (ps.drop i)).length := (List.getElem?_eq_some_iff.1 hj).1
    exact World.ownsRow.cellAt ho _ (by omega)
  have hsv : ∀ j v, (pcs [x])[j]? = some v → w.cell? ((⟨vb, 0, none⟩ : Addr).add j) = some v := fun j v hj => World.ownsRow.cells hv rfl j v hj
  have hw1 : IntKind.i64.wrap ((i : Int) + 1) = (i : Int) + 1 := by rw [IntKind.wrap_i64]; omega
  have hb1 : (0 : Int) ≤ (i : Int) + 1 := by omega
  have hin2 : (i : Int) + 1 ≤ (n : Int) + 1 := by omega
  have htn : ((i : Int) + 1).toNat = i + 1 := by omega
  have hz2 : ¬ ((i : Int) = (n : Int)) := by omega
  have hin : (i : Int) ≤ (n : Int) := by omega
  have hin1 : (i : Int) ≤ (n : Int) + 1 := by omega
  have hc1 : ¬ (c = i) := by omega
  have hc2 : ¬ (c = i + 1) := by omega
  have hroomz : ¬ ((c : Int) < (n : Int) + 1) := by omega
  have hroomy : ((n : Int) + 1) ≤ (c : Int) := by omega
  have hs2 : (Tryd.prog.info? 56).map (·.size) = some 2 := by kernel_rfl
  have HW := hide hw
  have HFIN := hide hfin
  have HSRC := hide hsrc
  have HSV := hide hsv
  have H1d := hide (one_page (ps.drop i))
  have H1x := hide (one_page [x])
  have HLT := hide hlt
  clear ho hv hlen hh hcs hhv hcv hcap hw hfin hsrc hsv hlt
  go_enter Tryd.func42, Tryd.ntmps42
  go_wp2_with (simp only [hov])
  obtain ⟨w2, hw2⟩ : ∃ w2, w2 = w.drew := ⟨_, rfl⟩
  have HW2 : Hid (w2.ownsRow base 56 2 (.slice (some ⟨g, 0, none⟩) (n + 1) c) (n + 1) (pcs ps ++ ys)) := by rw [hw2]; exact HW.out
  have HS2 : Hid (∀ j v, (pcs (ps.drop i))[j]? = some v → w2.cell? ((⟨g, i * 2, none⟩ : Addr).add j) = some v) := by rw [hw2]; exact HSRC.out
  have HV2 : Hid (∀ j v, (pcs [x])[j]? = some v → w2.cell? ((⟨vb, 0, none⟩ : Addr).add j) = some v) := by rw [hw2]; exact HSV.out
  have B2 : Hid (Below base w w2) := by rw [hw2]; exact (Below.refl _ _).drew
  have HG2 : Hid (g < w2.heap.size) := by rw [hw2]; exact HLT.out.2
  have K2 : Hid (∀ q : Nat, w2.heap[q]? = w.heap[q]?) := by rw [hw2]; exact fun q => rfl
  refine wp_region_still_tail 8 (by kernel_rfl) (by kernel_rfl) ?_
  show wpStill Tryd.prog _ w.drew (fun a' => wpList Tryd.prog _ _ _ a' w.drew) _ _
  rw [← hw2]
  clear hw2
  simp only [List.take_succ_cons, List.take_zero, List.drop_succ_cons, List.drop_zero]
  repeat still_step
  refine wpStill_nil ?_
  have e4 : (pcs (ps.drop i)).length = Nat.min (n + 1 - i) (n - i) * 2 := by rw [e3, show Nat.min (n + 1 - i) (n - i) = n - i from Nat.min_eq_right (by omega)]
  have e5 : (i + 1) * 2 + (pcs (ps.drop i)).length ≤ (n + 1) * 2 := by omega
  have e6 : (pcs [x]).length = Nat.min 1 (n + 1 - i) * 2 := by rw [show Nat.min 1 (n + 1 - i) = 1 from Nat.min_eq_left (by omega)]; rfl
  have e7 : i * 2 + (pcs [x]).length ≤ (n + 1) * 2 := by show i * 2 + 2 ≤ _; omega
  go_wp2_with (first | ((with_reducible show wpList _ _ _ (⟨_, .call ⟨.builtin .copy, _, _⟩, _, _, _, _⟩ :: _) _ _); refine wpList_copy_row rfl (.tmp 73) (.tmp 76) 29 29 rfl Tryd.underlying29 hs2 HW2.out ((i + 1) * 2) (n - i) (c - (i + 1)) rfl ⟨g, i * 2, none⟩ (n + 1 - i) (c - i) rfl (pcs (ps.drop i)) e4 HS2.out e5 H1d.out ?_; intro w3 ho3 hg3; have HO3 := hide ho3; have HG3 := hide hg3; clear ho3 hg3; have HV3 : Hid (∀ j v, (pcs [x])[j]? = some v → w3.cell? ((⟨vb, 0, none⟩ : Addr).add j) = some v) := hide (fun j v hj => HG3.out.cell (HV2.out j v hj) (by rw [block_of_add]; intro h; injection h with h; exact hvb h))) | ((with_reducible show wpList _ _ _ (⟨_, .call ⟨.builtin .copy, _, _⟩, _, _, _, _⟩ :: _) _ _); refine wpList_copy_row rfl (.tmp 80) (.tmp 81) 29 29 rfl Tryd.underlying29 hs2 HO3.out (i * 2) (n + 1 - i) (c - i) rfl ⟨vb, 0, none⟩ 1 vc rfl (pcs [x]) e6 HV3.out e7 H1x.out ?_; intro w4 ho4 hg4))
  go_ret
  rw [HFIN.out] at ho4
  exact ⟨_, _, rfl, ho4, ((B2.out.grown HG3.out (by have := HLT.out; have := HG2.out; omega) (fun k hk => by injection hk with hk; have := HLT.out; omega)).grown hg4 (by have := HLT.out; have := HG2.out; have := HG3.out.size; omega) (fun k hk => by injection hk with hk; have := HLT.out; omega)), fun q hq hne => (hg4.block q (Nat.lt_of_lt_of_le hq (Nat.le_trans B2.out.size HG3.out.size)) (fun e => hne e.symm)).trans ((HG3.out.block q (Nat.lt_of_lt_of_le hq B2.out.size) (fun e => hne e.symm)).trans (K2.out q))⟩
set_option maxHeartbeats 2000000 in
/-- There is no room. -/
theorem ins_grow (base b2 : Nat) (w : World) (g n c i vb vc : Nat) (ps : List Pg) (x : Pg) (ho : Own base w (some ⟨g, 0, none⟩) n c ps) (hv : Own b2 w (some ⟨vb, 0, none⟩) 1 vc [x]) (hi : i < n) (hroom : c < n + 1) (hb : base ≤ w.heap.size) (hn : n ≤ 1000) :
    Calls Tryd.prog 42 #[.slice (some ⟨g, 0, none⟩) n c, .int .i64 i, .slice (some ⟨vb, 0, none⟩) 1 vc] w (InsPost base w (some ⟨g, 0, none⟩) n c (insd ps i x)) := by
  obtain ⟨i0, hi0, hz0, hz1, hz2⟩ := info_parts page_info
  have hlen := ho.reads.len
  have hlt := ho.lt
  have hltv := hv.lt
  have hcap := ho.cap
  have e1 : (pcs (ps.take i)).length = i * 2 := by rw [pcs_length, List.length_take]; omega
  have e3 : (pcs (ps.drop i)).length = (n - i) * 2 := by rw [pcs_length, List.length_drop, hlen]
  have hcells : ∀ j v, (pcs ps)[j]? = some v → w.cell? ⟨g, j, none⟩ = some v := by
    intro j v hj
    rw [← hj]
    have hjl : j < (pcs ps).length := (List.getElem?_eq_some_iff.1 hj).1
    rw [pcs_length] at hjl
    exact World.ownsRow.cellAt ho _ (by omega)
  have hold : ∀ j v, (pcs (ps.take i))[j]? = some v → w.cell? ((⟨g, 0, none⟩ : Addr).add j) = some v := by
    intro j v hj
    rw [Addr.add_lit, Nat.zero_add]
    rw [← pcs_take, List.getElem?_take] at hj
    split at hj
    · exact hcells j v hj
    · cases hj
  have hsrc : ∀ j v, (pcs (ps.drop i))[j]? = some v → w.cell? ((⟨g, i * 2, none⟩ : Addr).add j) = some v := by
    intro j v hj
    rw [Addr.add_lit]
    rw [← pcs_drop, List.getElem?_drop] at hj
    exact hcells _ v hj
  have hsv : ∀ j v, (pcs [x])[j]? = some v → w.cell? ((⟨vb, 0, none⟩ : Addr).add j) = some v := fun j v hj => World.ownsRow.cells hv rfl j v hj
  obtain ⟨G, w1, hrun, hown, hg⟩ := run_append_zeros (P := Tryd.prog) (base := base) w 29 3 29 i0 _ 32 .i64 .i64 Tryd.underlying29 Tryd.underlying3 hi0 hz0 hz1 hz2 rfl (by omega) ⟨g, 0, none⟩ i c (pcs (ps.take i)) e1 hold (n + 1 - i) (by omega) (by omega) (by simp only [maxLen]; omega) (by omega) hb
  rw [show i + (n + 1 - i) = n + 1 by omega] at hrun hown
  rw [show ((n + 1 - i : Nat) : Int) = (n : Int) + 1 - (i : Int) by omega] at hrun
  have hGn : n + 1 ≤ G ∧ G ≤ maxLen := by
    rcases hown.2 with ⟨h', _⟩ | ⟨g', cap', cur, h', hb, hg, hnc, hcm, _⟩
    · cases h'
    · injection h' with _ _ h'; subst h'; exact ⟨hnc, hcm⟩
  have hzl : (Builtin.zeroCells (Value.agg #[.int .i64 0, .slice none 0 0]).cells (n + 1 - i)).toList.length = (ps.length + 1 - i) * 2 := by
    rw [hlen]; simp [Builtin.zeroCells, Value.cells]
  have hfin := lay_new ps i x _ (by omega) hzl
  have hwz : ((n : Int) + 1 - (i : Int)) = ((n + 1 - i : Nat) : Int) := by omega
  have hw1 : IntKind.i64.wrap ((i : Int) + 1) = (i : Int) + 1 := by rw [IntKind.wrap_i64]; omega
  have hb1 : (0 : Int) ≤ (i : Int) + 1 := by omega
  have hin2 : (i : Int) + 1 ≤ (n : Int) + 1 := by omega
  have htn : ((i : Int) + 1).toNat = i + 1 := by omega
  have hz2' : ¬ ((i : Int) = (n : Int)) := by omega
  have hin : (i : Int) ≤ (n : Int) := by omega
  have hin1 : (i : Int) ≤ (n : Int) + 1 := by omega
  have hc1 : ¬ (c = i) := by omega
  have hc2 : ¬ (G = i) := by omega
  have hc3 : ¬ (G = i + 1) := by omega
  have hic : (i : Int) ≤ (c : Int) := by omega
  have hroomz : ((c : Int) < (n : Int) + 1) := by omega
  have hs2 : (Tryd.prog.info? 56).map (·.size) = some 2 := by kernel_rfl
  have HS1 : Hid (∀ j v, (pcs (ps.drop i))[j]? = some v → w1.cell? ((⟨g, i * 2, none⟩ : Addr).add j) = some v) := hide (fun j v hj => hg.cell (hsrc j v hj) (by rw [block_of_add]; intro h; cases h))
  have HV1 : Hid (∀ j v, (pcs [x])[j]? = some v → w1.cell? ((⟨vb, 0, none⟩ : Addr).add j) = some v) := hide (fun j v hj => hg.cell (hsv j v hj) (by rw [block_of_add]; intro h; cases h))
  have HG1 := hide hg
  have HO1 := hide hown
  have HFIN := hide hfin
  have H1d := hide (one_page (ps.drop i))
  have H1x := hide (one_page [x])
  have HLT := hide hlt
  have HLTV := hide hltv
  have e6 : (pcs [x]).length = Nat.min 1 (n + 1 - i) * 2 := by rw [show Nat.min 1 (n + 1 - i) = 1 from Nat.min_eq_left (by omega)]; rfl
  have e7 : i * 2 + (pcs [x]).length ≤ (n + 1) * 2 := by show i * 2 + 2 ≤ _; omega
  have e4 : (pcs (ps.drop i)).length = Nat.min (n - i) (n - i) * 2 := by rw [e3, show Nat.min (n - i) (n - i) = n - i from Nat.min_self _]
  have e5 : (i + 1) * 2 + (pcs (ps.drop i)).length ≤ (n + 1) * 2 := by omega
  have hBig : Hid (base ≤ w.heap.size) := hb
  have HGn := hide hGn
  obtain ⟨N1, hN1⟩ : ∃ N1, N1 = w.heap.size := ⟨_, rfl⟩
  rw [← hN1] at hrun HO1
  have HN1 := hide hN1
  clear ho hv hlen hlt hltv hcap hcells hold hsrc hsv hg hown hfin hzl hGn hwz hN1
  go_enter Tryd.func42, Tryd.ntmps42
  go_wp2_with (first | (at_builtin; refine Lib.wpList_append_run _ rfl _ _ _ _ rfl _ _ rfl rfl _ _ hrun ?_) | ((with_reducible show wpList _ _ _ (⟨_, .call ⟨.builtin .copy, _, _⟩, _, _, _, _⟩ :: _) _ _); refine wpList_copy_row rfl (.tmp 43) (.tmp 44) 29 29 rfl Tryd.underlying29 hs2 HO1.out (i * 2) (n + 1 - i) (G - i) rfl ⟨vb, 0, none⟩ 1 vc rfl (pcs [x]) e6 HV1.out e7 H1x.out ?_; intro w2 ho2 hg2; have HO2 := hide ho2; have HG2 := hide hg2; clear ho2 hg2))
  obtain ⟨w3, hw3⟩ : ∃ w3, w3 = w2.drew := ⟨_, rfl⟩
  have HO3 : Hid (w3.ownsRow base 56 2 (.slice (some ⟨N1, 0, none⟩) (n + 1) G) (n + 1) (lay (pcs (ps.take i) ++ (Builtin.zeroCells (Value.agg #[.int .i64 0, .slice none 0 0]).cells (n + 1 - i)).toList) (i * 2) (pcs [x]))) := by rw [hw3]; exact HO2.out
  have HS3 : Hid (∀ j v, (pcs (ps.drop i))[j]? = some v → w3.cell? ((⟨g, i * 2, none⟩ : Addr).add j) = some v) := by
    rw [hw3]
    exact fun j v hj => HG2.out.cell (HS1.out j v hj) (by rw [block_of_add]; intro h; injection h with h; have := HLT.out; have := HN1.out; simp only at h; omega)
  have K3 : Hid (∀ q : Nat, q < w.heap.size → w3.heap[q]? = w.heap[q]?) := by
    rw [hw3]
    exact fun q hq => (HG2.out.block q (Nat.lt_of_lt_of_le hq HG1.out.size) (fun e => by injection e with e; have := HN1.out; omega)).trans (HG1.out.block q hq (fun e => by cases e))
  have B3 : Hid (Below base w w3) := by
    rw [hw3]
    exact (((Below.refl _ _).grown HG1.out hBig.out (fun k hk => by cases hk)).grown HG2.out (Nat.le_trans hBig.out HG1.out.size) (fun k hk => by injection hk with hk; have := HN1.out; have := hBig.out; omega)).drew
  refine wp_region_still_tail 8 (by kernel_rfl) (by kernel_rfl) ?_
  show wpStill Tryd.prog _ w2.drew (fun a' => wpList Tryd.prog _ _ _ a' w2.drew) _ _
  rw [← hw3]
  clear hw3
  simp only [List.take_succ_cons, List.take_zero, List.drop_succ_cons, List.drop_zero]
  repeat still_step
  refine wpStill_nil ?_
  go_wp2_with ((with_reducible show wpList _ _ _ (⟨_, .call ⟨.builtin .copy, _, _⟩, _, _, _, _⟩ :: _) _ _); refine wpList_copy_row rfl (.tmp 50) (.tmp 53) 29 29 rfl Tryd.underlying29 hs2 HO3.out ((i + 1) * 2) (n - i) (G - (i + 1)) rfl ⟨g, i * 2, none⟩ (n - i) (c - i) rfl (pcs (ps.drop i)) e4 HS3.out e5 H1d.out ?_; intro w4 ho4 hg4; have HO4 := hide ho4; have HG4 := hide hg4; clear ho4 hg4)
  go_ret
  have ho4 := HO4.out
  rw [HFIN.out] at ho4
  exact ⟨_, _, rfl, ho4, B3.out.grown HG4.out (Nat.le_trans hBig.out B3.out.size) (fun k hk => by injection hk with hk; have := HN1.out; have := hBig.out; omega), fun q hq hne => (HG4.out.block q (Nat.lt_of_lt_of_le hq B3.out.size) (fun e => by injection e with e; have := HN1.out; omega)).trans (K3.out q hq)⟩

/-- One is put in. -/
theorem insert_any (base b2 : Nat) (w : World) (A : Option Addr) (n c i vb vc : Nat) (ps : List Pg) (x : Pg) (ho : Own base w A n c ps) (hv : Own b2 w (some ⟨vb, 0, none⟩) 1 vc [x]) (hvb : ∀ k, (Value.slice A n c).ownBlock = some k → vb ≠ k) (hi : i ≤ n) (hb : base ≤ w.heap.size) (hn : n ≤ 1000) :
    Calls Tryd.prog 42 #[.slice A n c, .int .i64 i, .slice (some ⟨vb, 0, none⟩) 1 vc] w (InsPost base w A n c (insd ps i x)) := by
  by_cases h : i = n
  · subst h; exact ins_end base b2 w A i c vb vc ps x ho hv hb hn
  · obtain ⟨g, rfl⟩ : ∃ g, A = some ⟨g, 0, none⟩ := by
      rcases ho.2 with ⟨h', h0⟩ | ⟨g', cap', cur, h', _⟩
      · omega
      · injection h' with h' _ _; exact ⟨g', h'⟩
    by_cases hr : n + 1 ≤ c
    · exact ins_shift base b2 w g n c i vb vc ps x ho hv (hvb g rfl) (by omega) hr hn
    · exact ins_grow base b2 w g n c i vb vc ps x ho hv (by omega) (by omega) hb hn
end Go.Proofs.YthhemdjggdgaaaaDoor
