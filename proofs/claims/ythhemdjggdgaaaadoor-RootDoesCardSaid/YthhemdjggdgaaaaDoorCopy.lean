/- The reference's Copy. -/
import Derived.Test.YthhemdjggdgaaaaDoorOwn
namespace Go.Proofs.YthhemdjggdgaaaaDoor
open Go.RowKit
set_option linter.unusedVariables false

theorem gcell {W w1 : World} {row : Option Nat} (hg : W.grownBy w1 row) (hr : ∀ g, row = some g → W.heap.size ≤ g) : (∀ b o, b < W.heap.size → w1.cell? ⟨b, o, none⟩ = W.cell? ⟨b, o, none⟩) ∧ (∀ b o, b < W.heap.size → w1.frozen? ⟨b, o, none⟩ = W.frozen? ⟨b, o, none⟩) :=
  bcell ((Below.refl _ _).grown hg (Nat.le_refl _) hr)
theorem grown_below {W w1 : World} (hg : W.grownBy w1 (Value.slice none 0 0).ownBlock) : Below W.heap.size W w1 := (Below.refl _ _).grown hg (Nat.le_refl _) (fun k hk => by simp [Value.ownBlock] at hk)

theorem Bx.made_ (w : World) (b : Nat) (hb : b = w.heap.size) (v0 v1 v2 : Value) : Bx (w.alloc (.cells #[v0, v1, v2] 31)) b v0 v1 v2 := by subst hb; exact Bx.made w v0 v1 v2

/-- A block of three cells that are a disk's is none of octets, and none of pages. -/
theorem row_setbox {base e size n c b i : Nat} {w : World} {A : Option Addr} {xs : List Value} {v0 v1 v2 u : Value} (h : w.ownsRow base e size (.slice A n c) n xs) (k : Bx w b v0 v1 v2) (hne : e ≠ 31) : (w.setCell ⟨b, i, none⟩ u).ownsRow base e size (.slice A n c) n xs := by
  refine ownsRow_setCell_other h (fun hq => ?_) u
  have hA : A = some ⟨b, 0, none⟩ := by
    rcases h.2 with ⟨h', _⟩ | ⟨g', cap', cur, h', _⟩
    · rw [h'] at hq; cases hq
    · rw [h'] at hq
      have hq : g' = b := by injection hq
      injection h' with h1 _ _
      rw [h1, hq]
  subst hA
  obtain ⟨cur, h1, _⟩ := row_heap h
  unfold Bx at k
  rw [k] at h1
  injection h1 with h1
  injection h1 with _ h1
  exact hne h1.symm
theorem OB.setbox {base n c b i : Nat} {w : World} {A : Option Addr} {bs : Bs} {v0 v1 v2 u : Value} (h : OB base w A n c bs) (k : Bx w b v0 v1 v2) : OB base (w.setCell ⟨b, i, none⟩ u) A n c bs := row_setbox h k (by decide)
theorem Own.setbox {base n c b i : Nat} {w : World} {A : Option Addr} {ps : List Pg} {v0 v1 v2 u : Value} (h : Own base w A n c ps) (k : Bx w b v0 v1 v2) : Own base (w.setCell ⟨b, i, none⟩ u) A n c ps := row_setbox h k (by decide)
/-- Octets stay where pages grow. -/
theorem OB.growns {base bb n c N C : Nat} {w w' : World} {A B : Option Addr} {bs : Bs} {ps : List Pg} (h : OB base w A n c bs) (k : Own bb w B N C ps) (hg : w.grownBy w' (Value.slice B N C).ownBlock) : OB base w' A n c bs := by
  rcases k.2 with ⟨h', h0⟩ | ⟨g, cap', cur, h', _⟩
  · rw [h'] at hg
    exact row_below h ((Below.refl _ _).grown hg (Nat.le_refl _) (fun k hk => by simp [Value.ownBlock] at hk))
  · have hk := k
    rw [h'] at hg
    injection h' with h1 h2 h3
    subst h1 h3
    exact h.page hk hg
theorem nth_snoc (qs : List Pg) (x : Pg) : nth (qs ++ [x]) qs.length = x := by unfold nth; simp [List.getD_eq_getElem?_getD]
theorem nth_left (qs : List Pg) (x : Pg) (i : Nat) (h : i < qs.length) : nth (qs ++ [x]) i = nth qs i := by
  unfold nth; rw [List.getD_eq_getElem?_getD, List.getElem?_append_left h, ← List.getD_eq_getElem?_getD]
theorem qn_take (qs : Wet) (k i : Nat) (h : i < k) : qn (qs.take k) i = qn qs i := by
  unfold qn; rw [List.getD_eq_getElem?_getD, List.getElem?_take_of_lt h, ← List.getD_eq_getElem?_getD]

def CopyCut (w : World) (d : Dk) (n : Nat) (A : Option Addr) (c : Nat) (B : Option Addr) (m e' : Nat) (bo : Nat) (wx : World) : Prop :=
  ∃ (A' : Option Addr) (c' : Nat), w.heap.size + 2 ≤ bo ∧ Bx wx bo (.slice A' n c') (.slice none 0 0) (.int .i64 d.left) ∧ Bx wx w.heap.size (.slice A n c) (.slice B m e') (.int .i64 d.left) ∧
    Bx wx (w.heap.size + 1) (.slice none 0 0) (.slice none 0 0) (.int .i64 0) ∧ OB (w.heap.size + 2) wx A' n c' d.dry ∧ (∀ q, (Value.slice A' n c').ownBlock = some q → q ≠ bo) ∧ Below w.heap.size w wx

set_option maxRecDepth 100000 in
set_option maxHeartbeats 4000000 in
theorem copy_any (w : World) (A : Option Addr) (n c : Nat) (B : Option Addr) (m e' : Nat) (d : Dk) (hr : DR w A n B m d) (hn : n ≤ 300000) (hm : m ≤ 1000) (hp32 : ∀ i, i < d.wet.length → (qn d.wet i).2.length ≤ 300000) :
    Calls Tryd.prog 10 #[.agg #[.slice A n c, .slice B m e', .int .i64 d.left]] w (OPost w d) := by
  obtain ⟨i0, hi0, hz0, hz1, hz2⟩ := info_parts u8_info
  obtain ⟨i1, hj0, hy0, hy1, hy2⟩ := info_parts page_info
  have hw := hr.wlen
  obtain ⟨hd, ps, hp, hpc⟩ := hr
  have HD0 := hide hd
  have HP0 := hide hp
  have HC := hide hpc
  have HLn := hide hp32
  have HW := hide hw
  have H1 := hide (byt_one d.dry)
  clear hd hp hpc hp32 hw
  go_enter Tryd.func10, Tryd.ntmps10
  go_upto_region 1 with fail
  go_cut [3] (fun s3 wx => ∃ bo, s3 = .pointer (some ⟨bo, 0, none⟩) ∧ CopyCut w d n A c B m e' bo wx)
  case first =>
    obtain ⟨W0, hW0⟩ : ∃ W0, W0 = ((w.alloc (.cells #[.slice A n c, .slice B m e', .int .i64 d.left] 31)).alloc (.cells #[.slice none 0 0, .slice none 0 0, .int .i64 0] 31)) := ⟨_, rfl⟩
    have HX : Hid (Bx W0 w.heap.size (.slice A n c) (.slice B m e') (.int .i64 d.left)) := by rw [hW0]; exact (Bx.made w _ _ _).alloc _
    have HZ : Hid (Bx W0 (w.heap.size + 1) (.slice none 0 0) (.slice none 0 0) (.int .i64 0)) := by
      have := Bx.made (w.alloc (.cells #[.slice A n c, .slice B m e', .int .i64 d.left] 31)) (.slice none 0 0) (.slice none 0 0) (.int .i64 0)
      rw [box_size] at this
      rw [hW0]; exact this
    have HB : Hid (Below w.heap.size w W0) := by rw [hW0]; exact below_alloc2 w _ _
    have HS : Hid (W0.heap.size = w.heap.size + 2) := by
      show _ = _
      rw [hW0]; simp
    have HD : Hid (BR W0 A n d.dry) := HD0.out.below (by rw [hW0]; exact below_alloc2 w _ _)
    have HNA : Hid (Bx (W0.drew.alloc (.cells #[.slice none 0 0, .slice none 0 0, .int .i64 0] 31)) (w.heap.size + 1 + 1) (.slice none 0 0) (.slice none 0 0) (.int .i64 0)) :=
      Bx.made_ _ _ (by show _ = W0.heap.size; rw [HS.out]) _ _ _
    rw [hW0] at HX HZ HB HS HD HNA
    clear hW0
    go_region_law (refine step_append_any _ rfl (.const (.slice none 0 0)) (.tmp 7) 28 rfl (w.heap.size + 2) 5 i0 _ 1 1 Tryd.underlying28 hi0 hz0 hz1 hz2 rfl (by omega) (.slice none 0 0) 0 [] rfl (row_nil _ _ _ _) _ A n c (byt d.dry) rfl (by first | exact HD.out | exact Reads.alloc HD.out (Nat.le_refl _) _) H1.out (by simp only [maxLen]; omega) (by omega) (by simp) ?_; intro v1 w1 hown1 hg1 hat1; rw [Nat.zero_add, List.nil_append] at hown1; obtain ⟨A', c', rfl⟩ := row_slice hown1; have hb1 := grown_below hg1; have HX1 := hide (Bx.below (by first | exact HX.out | exact Bx.alloc HX.out _) hb1); have HZ1 := hide (Bx.below (by first | exact HZ.out | exact Bx.alloc HZ.out _) hb1); have k2 := HX1.out.c2; have k3 : ∀ o, (w1.alloc o).cell? ⟨w.heap.size, 2, none⟩ = some (.int .i64 d.left) := fun o => (HX1.out.alloc o).c2; (try have HN1 := hide (Bx.below HNA.out hb1)); (try have n0 := HN1.out.c0); (try have n1 := HN1.out.c1); (try have n2 := HN1.out.c2); (try have p0 := HN1.out.f 0); (try have p1 := HN1.out.f 1); (try have p2 := HN1.out.f 2); have HO1 := hide hown1; have HG1 := hide hg1; have HAT := hide hat1; have HB1 := hide hb1; have HBB : Hid (Below w.heap.size w w1) := hide (Below.then_ (by first | exact HB.out.drew | exact HB.out.drew.alloc HB.out.size _) hb1 (by simp; omega)); clear hown1 hg1 hat1 hb1)
    all_goals
      go_wp2_with fail
      go_meet
      have hbb := HBB.out
      have hsz := HB1.out.size
      simp at hsz
      first
        | exact ⟨_, rfl, A', c', by omega, Bx.made _ _ _ _, HX1.out.alloc _, HZ1.out.alloc _, World.ownsRow.alloc HO1.out _, fun q hq => by have := (World.ownsRow.lt HO1.out q hq).2; omega, hbb.alloc hbb.size _⟩
        | (have hne : ∀ q, (Value.slice A' n c').ownBlock = some q → q ≠ w.heap.size + 1 + 1 := fun q hq => by
             rcases HAT.out with h | h
             · rw [hq] at h; cases h
             · rw [hq] at h; injection h with h; rw [h]; simp
           have hz3 := HN1.out.set0 (u := .slice A' n c') |>.set1 (u := .slice none 0 0) |>.set2 (u := .int .i64 d.left)
           have ho3 : ∀ (W : World) (i : Nat) (u : Value), OB (w.heap.size + 2) W A' n c' d.dry → OB (w.heap.size + 2) (W.setCell ⟨w.heap.size + 1 + 1, i, none⟩ u) A' n c' d.dry := fun W i u h => ownsRow_setCell_other h (fun e => hne _ e rfl) u
           exact ⟨_, rfl, A', c', by omega, hz3, ((HX1.out.other (by simp; omega)).other (by simp; omega)).other (by simp; omega), ((HZ1.out.other (by simp)).other (by simp)).other (by simp), ho3 _ _ _ (ho3 _ _ _ (ho3 _ _ _ HO1.out)), hne, ((hbb.setCell (by simp; omega) _).setCell (by simp; omega) _).setCell (by simp; omega) _⟩)
  case rest =>
    obtain ⟨bo, rfl, A', c', hbo, hxo, hx, hz, ho, hne, hb⟩ := hcut
    have HXO := hide hxo
    have HX := hide hx
    have HZ := hide hz
    have HO := hide ho
    have HNE := hide hne
    have HB := hide hb
    have k1 := hx.c1
    have HQ0 : Hid (∀ q, (Value.slice A' n c').ownBlock = some q → q < wc.heap.size) := fun q hq => (World.ownsRow.lt ho q hq).2
    have HSz : Hid (w.heap.size + 2 ≤ wc.heap.size) := by
      have := hxo.lt
      show _ ≤ _
      omega
    clear hxo hx hz ho hne hb
    go_wp2_with fail
    go_loopw [15] (fun v wr => ∃ (k : Nat) (B' : Option Addr) (e2 : Nat) (qs : List Pg), v = .int .i64 k ∧ k ≤ m ∧ Hid (Bx wr bo (.slice A' n c') (.slice B' k e2) (.int .i64 d.left)) ∧ Hid (Bx wr (w.heap.size + 1) (.slice none 0 0) (.slice none 0 0) (.int .i64 0)) ∧
      Hid (OB (w.heap.size + 2) wr A' n c' d.dry) ∧ Hid (Own (w.heap.size + 2) wr B' k e2 qs) ∧ Hid (PO wc.heap.size wr qs (d.wet.take k)) ∧ Hid (∀ q, (Value.slice B' k e2).ownBlock = some q → q ≠ bo) ∧ Hid (Below w.heap.size w wr) ∧ Hid (wc.heap.size ≤ wr.heap.size)) (fun v _ => m - (intOf v).toNat)
    case atStart => exact ⟨0, none, 0, [], rfl, by omega, HXO, HZ, HO, Own.nil _ _, ⟨by simp, fun i hi => by simp at hi⟩, (fun q hq => by simp [Value.ownBlock] at hq), HB, Nat.le_refl _⟩
    case round =>
      obtain ⟨k, B', e2, qs, rfl, hk, HXO, HZ, HO, HP, HPO, HNB, HB, HSc⟩ := hrel
      clear k1
      by_cases hkm : k < m
      · have hkz : (k : Int) < (m : Int) := by omega
        obtain ⟨ad, rfl, c0, c1⟩ := (HP0.out.below HB.out).cell k hkm
        have hpk := HC.out.2 k (by have := HC.out.1; rw [this, HW.out]; exact hkm)
        obtain ⟨p, hp⟩ : ∃ p, nth ps k = p := ⟨_, rfl⟩
        rw [hp] at c0 c1 hpk
        obtain ⟨pa, pA, pn, pc⟩ := p
        have hpn : pn ≤ 300000 := by
          have := HLn.out k (by rw [HW.out]; exact hkm)
          have := hpk.2.len
          simp only at this
          omega
        clear hp
        obtain ⟨W1, hW1⟩ : ∃ W1, W1 = (wr.alloc (.cells #[.int .i64 pa, .slice pA pn pc] 56)).drew := ⟨_, rfl⟩
        have hbw : Below wr.heap.size wr W1 := by rw [hW1]; exact (below_alloc _ _).drew
        have HR1 : Hid (BR W1 pA pn (qn d.wet k).2) := hpk.2.below (Below.then_ HB.out hbw HB.out.size)
        have HXO1 := hide (HXO.out.below hbw)
        have HPA : Hid (pa = (qn d.wet k).1) := hpk.1
        have HB1' := hide (byt_one (qn d.wet k).2)
        have q1 := (HXO.out.alloc (.cells #[.int .i64 pa, .slice pA pn pc] 56)).c1
        rw [hW1] at HR1 HXO1
        have HBW : Hid (Below wr.heap.size wr W1) := hbw
        rw [hW1] at HBW
        have hszr := HXO.out.lt
        clear hbw hW1 hpk
        go_upto_region 5 with fail
        go_region_law (first
            | (refine step_append_any _ rfl (.const (.slice none 0 0)) (.tmp 24) 28 rfl wc.heap.size 5 i0 _ 1 1 Tryd.underlying28 hi0 hz0 hz1 hz2 rfl (by omega) (.slice none 0 0) 0 [] rfl (row_nil _ _ _ _) _ pA pn pc (byt (qn d.wet k).2) rfl HR1.out HB1'.out (by simp only [maxLen]; omega) (by omega) (Nat.le_trans HSc.out (by simp)) ?_; intro v1 w1 hown1 hg1 hat1; rw [Nat.zero_add, List.nil_append] at hown1; obtain ⟨AB, cB, rfl⟩ := row_slice hown1; have hb1 := grown_below hg1; have hs1 : wr.heap.size + 1 ≤ w1.heap.size := (by have := hb1.size; simpa using this); have x1 := HXO1.out.below hb1; have oc1 := x1.c1; have pc0 : w1.cell? ⟨wr.heap.size, 0, none⟩ = some (.int .i64 pa) := (hb1.cell (p := ⟨wr.heap.size, 0, none⟩) (by simp)).trans (box_cell wr _ _ 0 _ rfl); have pc1 : w1.cell? ⟨wr.heap.size, 1, none⟩ = some (.slice pA pn pc) := (hb1.cell (p := ⟨wr.heap.size, 1, none⟩) (by simp)).trans (box_cell wr _ _ 1 _ rfl); have oc2 : ∀ o, (w1.alloc o).cell? ⟨bo, 1, none⟩ = some (.slice B' k e2) := fun o => (x1.alloc o).c1; have qc0 : ∀ o, (w1.alloc o).cell? ⟨wr.heap.size, 0, none⟩ = some (.int .i64 pa) := fun o => (World.cell?_alloc_lt w1 o ⟨wr.heap.size, 0, none⟩ hs1).trans pc0; have qc1 : ∀ o, (w1.alloc o).cell? ⟨wr.heap.size, 1, none⟩ = some (.slice pA pn pc) := fun o => (World.cell?_alloc_lt w1 o ⟨wr.heap.size, 1, none⟩ hs1).trans pc1; have HO1 := hide hown1; have HX1 := hide x1; have HB1 := hide hb1; clear hown1 hg1 hat1 x1 hb1)
            | (refine step_append_any _ rfl (.tmp 20) (.tmp 27) 29 rfl (w.heap.size + 2) 56 i1 _ 2 32 Tryd.underlying29 hj0 hy0 hy1 hy2 rfl (by omega) (.slice B' k e2) k (pcs qs) rfl (Own.alloc ((HP.out.below HBW.out).below HB1.out) _) _ (some ⟨w1.heap.size, 0, none⟩) 1 1 (pcs [(pa, AB, pn, cB)]) rfl (Own.made w1 (pa, AB, pn, cB)).reads (one_page _) (by simp only [maxLen]; omega) (by omega) (by first | (simp; done) | (simp; omega)) ?_; intro v2 w2 hown2 hg2 hat2; obtain ⟨A2, c2, rfl⟩ := row_slice hown2; have x2 := (HX1.out.alloc _).grown hg2 (fun h => HNB.out bo h.symm rfl); have n1 := x2.c1; have n2 := x2.f 1; have pb2 := hg2.block wr.heap.size (Nat.lt_of_lt_of_le hs1 (by simp)) (fun h => Nat.lt_irrefl _ (World.ownsRow.lt HP.out _ h.symm).2); have r0 := (World.cell?_of_block (a := ⟨wr.heap.size, 0, none⟩) pb2).trans (qc0 _); have r1 := (World.cell?_of_block (a := ⟨wr.heap.size, 1, none⟩) pb2).trans (qc1 _); clear pb2; have HX2 := hide x2; have HO2 := hide hown2; have HG2 := hide hg2; have HAT2 := hide hat2; clear x2 hown2 hg2 hat2))
        all_goals
          go_wp2_with fail
          go_roundw
          case rel =>
            have hb2 := (Below.then_ HBW.out HB1.out (by simp)).alloc (by have := HBW.out.size; have := HB1.out.size; simp at *; omega) (.cells #[.int .i64 pa, .slice AB pn cB] 56)
            have hp2 := HP.out.below hb2
            have hlen := HP.out.len
            have grow : ∀ {bb : Nat} {A3 : Option Addr} {n3 c3 : Nat} {b3 : Bs}, OB bb wr A3 n3 c3 b3 → OB bb (w2.setCell ⟨bo, 1, none⟩ (.slice A2 (k + 1) c2)) A3 n3 c3 b3 := fun h => ((h.below hb2).growns hp2 HG2.out).setbox HX2.out
            have hne2 : ∀ q, (Value.slice A2 (k + 1) c2).ownBlock = some q → q ≠ bo := fun q hq => by
              rcases HAT2.out with h | h
              · rw [hq] at h; exact HNB.out q h.symm
              · rw [hq] at h; injection h with h; have := HB1.out.size; simp at h this; omega
            have hbb : Below w.heap.size w (w2.setCell ⟨bo, 1, none⟩ (.slice A2 (k + 1) c2)) :=
              ((Below.then_ HB.out hb2 HB.out.size).grown HG2.out (by have := HB.out.size; have := HB1.out.size; simp at *; omega) (fun q hq => by have := (World.ownsRow.lt HP.out q hq).1; omega)).setCell (by simp; omega) _
            have hzz : Bx (w2.setCell ⟨bo, 1, none⟩ (.slice A2 (k + 1) c2)) (w.heap.size + 1) (.slice none 0 0) (.slice none 0 0) (.int .i64 0) :=
              ((HZ.out.below hb2).grown HG2.out (fun h => by have := (World.ownsRow.lt HP.out _ h.symm).1; omega)).other (by simp; omega)
            have hown : Own (w.heap.size + 2) w2 A2 (k + 1) c2 (qs ++ [(pa, AB, pn, cB)]) := by
              have := HO2.out
              rw [← pcs_append] at this
              exact this
            have hnew : OB wc.heap.size (w2.setCell ⟨bo, 1, none⟩ (.slice A2 (k + 1) c2)) AB pn cB (qn d.wet k).2 := ((OB.alloc (show OB _ _ _ _ _ _ from HO1.out) _).growns hp2 HG2.out).setbox HX2.out
            have hszw : wc.heap.size ≤ (w2.setCell ⟨bo, 1, none⟩ (.slice A2 (k + 1) c2)).heap.size := by have h1 := HSc.out; have h2 := HB1.out.size; have h3 := HG2.out.size; simp [World.setCell] at h2 h3 ⊢; omega
            refine ⟨k + 1, A2, c2, qs ++ [(pa, AB, pn, cB)], by go_num, by omega, hide HX2.out.set1, hide hzz, hide (grow HO.out), hide (hown.setbox HX2.out), hide ⟨?_, fun i hi => ?_⟩, hide hne2, hide hbb, hide hszw⟩
            · rw [List.length_append, hlen, List.length_take, HW.out]; simp; omega
            · rw [List.length_append, hlen] at hi
              simp only [List.length_cons, List.length_nil] at hi
              rw [qn_take _ _ _ (by omega)]
              by_cases e : i = k
              · subst e
                rw [← hlen, nth_snoc, hlen]
                exact ⟨HPA.out, hnew⟩
              · rw [nth_left _ _ _ (by omega)]
                have := HPO.out.2 i (by omega)
                rw [qn_take _ _ _ (by omega)] at this
                exact ⟨this.1, grow this.2⟩
          case measure => simp [intOf]; omega
      · have hkz : ¬ (k : Int) < (m : Int) := by omega
        have hke : k = m := by omega
        have m0 := HXO.out.c0
        have m1 := HXO.out.c1
        have m2 := HXO.out.c2
        have z0 := HZ.out.c0
        have z1 := HZ.out.c1
        have z2 := HZ.out.c2
        have y0 := HZ.out.f 0
        have y1 := HZ.out.f 1
        have y2 := HZ.out.f 2
        go_wp2_with fail
        have hz3 := HZ.out.set0 (u := .slice A' n c') |>.set1 (u := .slice B' m e2) |>.set2 (u := .int .i64 d.left)
        have r0 := hz3.c0
        have r1 := hz3.c1
        have r2 := hz3.c2
        refine bodyPost_ret (v := .agg #[.slice A' n c', .slice B' m e2, .int .i64 d.left]) (by simp [results, Tryd.results10, go_sem, r0, r1, r2]) rfl ⟨A', n, c', B', m, e2, rfl, ?_, ?_⟩
        · subst hke
          have hpo := HPO.out
          rw [List.take_of_length_le (by rw [HW.out]; omega)] at hpo
          have hdo : DX (w.heap.size + 2) wr A' n c' B' k e2 d := ⟨HO.out, qs, HP.out, hpo.mono HSz.out, fun i hi q hq hq2 => by
            have h1 := HQ0.out q hq
            have h2 := (World.ownsRow.lt (hpo.2 i hi).2 q hq2).1
            omega⟩
          exact ((((hdo.set (by simp)).set (by simp)).set (by simp))).mono (by omega)
        · exact ((HB.out.setCell (by simp) _).setCell (by simp) _).setCell (by simp) _
end Go.Proofs.YthhemdjggdgaaaaDoor
