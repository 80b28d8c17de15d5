/- A sector written, by the reference. -/
import Derived.Test.YthhemdjggdgaaaaDoorWrite
namespace Go.Proofs.YthhemdjggdgaaaaDoor
open Go.RowKit
set_option linter.unusedVariables false

section
variable {base b' : Nat} {w : World} {p : Pg} {q : Int × Bs} {ps rs : List Pg} {qs ts : Wet}
theorem PO.cons_iff : PO base w (p :: ps) (q :: qs) ↔ (p.1 = q.1 ∧ OB base w p.2.1 p.2.2.1 p.2.2.2 q.2) ∧ PO base w ps qs := by
  constructor
  · intro h
    exact ⟨h.2 0 (by simp), by simpa using h.1, fun i hi => h.2 (i + 1) (by simpa using hi)⟩
  · rintro ⟨h1, h2⟩
    refine ⟨by simpa using h2.1, fun i hi => ?_⟩
    cases i with
    | zero => exact h1
    | succ i => exact h2.2 i (by simpa using hi)
theorem PO.nil_ : PO base w [] [] := ⟨rfl, fun i hi => by simp at hi⟩
theorem PO.filter (f : Int → Bool) : ∀ {ps : List Pg} {qs : Wet}, PO base w ps qs → PO base w (ps.filter fun p => f p.1) (qs.filter fun q => f q.1)
  | [], [], _ => PO.nil_
  | [], _ :: _, h => by have := h.1; simp at this
  | _ :: _, [], h => by have := h.1; simp at this
  | p :: ps, q :: qs, h => by
    obtain ⟨h1, h2⟩ := PO.cons_iff.1 h
    have ih := PO.filter f h2
    rw [List.filter_cons, List.filter_cons, h1.1]
    split
    · exact PO.cons_iff.2 ⟨h1, ih⟩
    · exact ih
theorem PO.app : ∀ {ps : List Pg} {qs : Wet}, PO base w ps qs → PO base w rs ts → PO base w (ps ++ rs) (qs ++ ts)
  | [], [], _, h => h
  | [], _ :: _, h, _ => by have := h.1; simp at this
  | _ :: _, [], h, _ => by have := h.1; simp at this
  | p :: ps, q :: qs, h, k => by
    obtain ⟨h1, h2⟩ := PO.cons_iff.1 h
    exact PO.cons_iff.2 ⟨h1, PO.app h2 k⟩
end
theorem made_reads (w : World) (x : Pg) (b : Nat) (hb : b = w.heap.size) : PR (w.alloc (.cells #[.int .i64 x.1, .slice x.2.1 x.2.2.1 x.2.2.2] 56)) (some ⟨b, 0, none⟩) 1 [x] := by
  subst hb; exact (Own.made w x).reads
def lows (ps : List Pg) (s : Int) : List Pg := ps.filter fun p => decide (p.1 < s)
def highs (ps : List Pg) (s : Int) : List Pg := ps.filter fun p => decide (s < p.1)
theorem lows_len (ps : List Pg) (s : Int) (k : Nat) : (lows (ps.take k) s).length ≤ k := by
  have h1 := List.length_filter_le (fun p : Pg => decide (p.1 < s)) (ps.take k)
  rw [List.length_take] at h1
  unfold lows; omega
theorem highs_len (ps : List Pg) (s : Int) (k : Nat) : (highs (ps.take k) s).length ≤ k := by
  have h1 := List.length_filter_le (fun p : Pg => decide (s < p.1)) (ps.take k)
  rw [List.length_take] at h1
  unfold highs; omega
theorem take_nth {ps : List Pg} {k : Nat} (hk : k < ps.length) : ps.take (k + 1) = ps.take k ++ [nth ps k] := by
  rw [nth_lt hk, List.take_append_getElem hk]
theorem lows_in {ps : List Pg} {s : Int} {k : Nat} {p : Pg} (hk : k < ps.length) (hp : nth ps k = p) (h : p.1 < s) : lows (ps.take (k + 1)) s = lows (ps.take k) s ++ [p] := by
  subst hp; rw [take_nth hk]; unfold lows; rw [List.filter_append]; simp [h]
theorem lows_out {ps : List Pg} {s : Int} {k : Nat} {p : Pg} (hk : k < ps.length) (hp : nth ps k = p) (h : ¬ p.1 < s) : lows (ps.take (k + 1)) s = lows (ps.take k) s := by
  subst hp; rw [take_nth hk]; unfold lows; rw [List.filter_append]; simp [h]
theorem highs_in {ps : List Pg} {s : Int} {k : Nat} {p : Pg} (hk : k < ps.length) (hp : nth ps k = p) (h : s < p.1) : highs (ps.take (k + 1)) s = highs (ps.take k) s ++ [p] := by
  subst hp; rw [take_nth hk]; unfold highs; rw [List.filter_append]; simp [h]
theorem highs_out {ps : List Pg} {s : Int} {k : Nat} {p : Pg} (hk : k < ps.length) (hp : nth ps k = p) (h : ¬ s < p.1) : highs (ps.take (k + 1)) s = highs (ps.take k) s := by
  subst hp; rw [take_nth hk]; unfold highs; rw [List.filter_append]; simp [h]
theorem put_po {base : Nat} {w : World} {ps : List Pg} {qs : Wet} {x : Pg} {bs : Bs} (h : PO base w ps qs) (hx : OB base w x.2.1 x.2.2.1 x.2.2.2 bs) : PO base w (lows ps x.1 ++ [x] ++ highs ps x.1) (putW qs x.1 bs) := by
  rw [List.append_assoc]
  exact PO.app (PO.filter (fun z => decide (z < x.1)) h) (PO.cons_iff.2 ⟨⟨rfl, hx⟩, PO.filter (fun z => decide (x.1 < z)) h⟩)

set_option maxRecDepth 100000 in
set_option maxHeartbeats 4000000 in
theorem rwrite_any (w : World) (A : Option Addr) (n c : Nat) (B : Option Addr) (m e' : Nat) (d : Dk) (s : Int) (C : Option Addr) (nb cb : Nat) (bs : Bs) (hr : DR w A n B m d) (hbs : BR w C nb bs) (hn : n ≤ 300000) (hm : m ≤ 1000) :
    Calls Tryd.prog 33 #[.agg #[.slice A n c, .slice B m e', .int .i64 d.left], .int .i64 s, .slice C nb cb] w (DPost w (writeS d s bs).1 (writeS d s bs).2) := by
  obtain ⟨i0, hi0, hz0, hz1, hz2⟩ := info_parts u8_info
  obtain ⟨i1, hj0, hy0, hy1, hy2⟩ := info_parts page_info
  obtain ⟨W0, hW0⟩ : ∃ W0, W0 = ((w.alloc (.cells #[.slice A n c, .slice B m e', .int .i64 d.left] 31)).alloc (.cells #[.slice none 0 0, .slice none 0 0, .int .i64 0] 31)) := ⟨_, rfl⟩
  have hb0 : Below w.heap.size w W0 := by rw [hW0]; exact below_alloc2 w _ _
  have HX0 : Hid (Bx W0 w.heap.size (.slice A n c) (.slice B m e') (.int .i64 d.left)) := by rw [hW0]; exact (Bx.made w _ _ _).alloc _
  have HZ0 : Hid (Bx W0 (w.heap.size + 1) (.slice none 0 0) (.slice none 0 0) (.int .i64 0)) := by
    rw [hW0]; exact Bx.made_ _ _ (by simp) _ _ _
  have HB0 : Hid (Below w.heap.size w W0) := hb0
  have HS0 : Hid (w.heap.size + 2 ≤ W0.heap.size) := by
    show _ ≤ _
    rw [hW0]; simp
  have HR0 : Hid (DR W0 A n B m d) := hr.below hb0
  have HBS := hide hbs
  have hbl := hbs.len
  have hwl := hr.wlen
  rw [hW0] at HX0 HZ0 HB0 HS0 HR0
  clear hW0 hbs hb0
  by_cases hI : Is d s
  · have HI := hide (isb_true hI)
    by_cases h32 : nb = 32
    · subst h32
      have hok := writeS_ok hI (by omega : bs.length = 32)
      by_cases h0 : d.left = 0
      · have HS : Hid (writeS d s bs = (Dk.zero, 11)) := hok.trans (write0_dead s bs h0)
        have HDS := hide (deedS_dead h0)
        have HG := hide hI.1
        clear hI hok hr h0
        go_enter Tryd.func33, Tryd.ntmps33
        go_wp2_with (first
          | (go_at_call 50; refine (ris_any _ A n c B m e' d s HR0.out hn hm).mono ?_; rintro e w1 ⟨rfl, hb⟩; rw [HI.out]; have X1 := HX0.out.below hb; have k0 := X1.c0; have k1 := X1.c1; have k2 := X1.c2; have HX1 := hide X1; have HZ1 := hide (HZ0.out.below hb); have HR1 := hide (HR0.out.below hb); have HS1 := hide (Nat.le_trans HS0.out hb.size); have HB1 := hide (Below.then_ HB0.out hb HB0.out.size); clear X1 hb)
          | (go_at_call 51; refine (rdeed_any _ A n c B m e' d HR1.out HG.out hn hm).mono ?_; rw [HDS.out]; rintro e w2 ⟨A2, n2, c2, B2, m2, e2, rfl, ho, hb⟩; have X2 := HX1.out.below hb; have k0 := X2.c0; have k1 := X2.c1; have k2 := X2.c2; have f0 := X2.f 0; have f1 := X2.f 1; have f2 := X2.f 2; have Z3 := (HZ1.out.below hb).beside (k := w.heap.size) (u := .slice A2 n2 c2) (v := .slice B2 m2 e2) (t := .int .i64 Dk.zero.left) (by omega); have z0 := Z3.c0; have z1 := Z3.c1; have z2 := Z3.c2; have y0 := Z3.f 0; have y1 := Z3.f 1; have y2 := Z3.f 2; have HZ3 := hide Z3; have HB3 := hide (below_boxed (Below.then_ HB1.out hb HB1.out.size) (b := w.heap.size) (u := .slice A2 n2 c2) (v := .slice B2 m2 e2) (t := .int .i64 Dk.zero.left) (Nat.le_refl _)); clear X2 Z3 ho hb))
        have hz6 := HZ3.out.boxed (u := .slice none 0 0) (v := .slice none 0 0) (t := .int .i64 0)
        have r0 := hz6.c0
        have r1 := hz6.c1
        have r2 := hz6.c2
        rw [HS.out]
        refine bodyPost_ret (v := .tuple #[.agg #[.slice none 0 0, .slice none 0 0, .int .i64 0], .int .i64 11]) (by simp [results, Tryd.results33, go_sem, r0, r1, r2]) rfl ⟨_, _, _, _, _, _, rfl, DO.zero _ _, ?_⟩
        exact below_boxed HB3.out (by omega)
      · obtain ⟨l, hl⟩ : ∃ l, dec d.left = l := ⟨_, rfl⟩
        have HS : Hid (writeS d s bs = (d.put s bs l, 0)) := hok.trans (write0_ok s bs rfl h0 hl)
        have HDS : Hid (deedS d = (d.leave l, 0)) := by rw [← hl]; exact deedS_ok h0
        have HG := hide hI.1
        have hD : d.dry.length ≤ 300000 := by have := hI.1.whole; have := hI.1.max; omega
        have hW : d.wet.length ≤ 1000 := by omega
        clear hI hok hr h0 hwl hl
        go_enter Tryd.func33, Tryd.ntmps33
        go_wp2_with (first
          | (go_at_call 50; refine (ris_any _ A n c B m e' d s HR0.out hn hm).mono ?_; rintro e w1 ⟨rfl, hb⟩; rw [HI.out]; have X1 := HX0.out.below hb; have k0 := X1.c0; have k1 := X1.c1; have k2 := X1.c2; have HX1 := hide X1; have HZ1 := hide (HZ0.out.below hb); have HR1 := hide (HR0.out.below hb); have HS1 := hide (Nat.le_trans HS0.out hb.size); have HB1 := hide (Below.then_ HB0.out hb HB0.out.size); clear X1 hb)
          | (go_at_call 51; refine (rdeed_any _ A n c B m e' d HR1.out HG.out hn hm).mono ?_; rw [HDS.out]; rintro e w2 ⟨A2, n2, c2, B2, m2, e2, rfl, ho, hb⟩; have X2 := HX1.out.below hb; have k0 := X2.c0; have k1 := X2.c1; have k2 := X2.c2; have f0 := X2.f 0; have f1 := X2.f 1; have f2 := X2.f 2; have X3 := X2.boxed (u := .slice A2 n2 c2) (v := .slice B2 m2 e2) (t := .int .i64 (d.leave l).left); have q1 := X3.c1; have HX3 := hide X3; have HZ3 := hide ((HZ1.out.below hb).beside (k := w.heap.size) (u := .slice A2 n2 c2) (v := .slice B2 m2 e2) (t := .int .i64 (d.leave l).left) (by omega)); have HD3 := hide ((ho.mono HS1.out).boxed (b := w.heap.size) (u := .slice A2 n2 c2) (v := .slice B2 m2 e2) (t := .int .i64 (d.leave l).left) (by omega)).do; have HB3 := hide (below_boxed (Below.then_ HB1.out hb HB1.out.size) (b := w.heap.size) (u := .slice A2 n2 c2) (v := .slice B2 m2 e2) (t := .int .i64 (d.leave l).left) (Nat.le_refl _)); have HS3 := hide (Nat.le_trans HS1.out hb.size); have hN2 := ho.nlen; have hM2 := ho.wlen; have hn4 : n2 ≤ 300000 := Nat.le_trans (Nat.le_of_eq hN2.symm) hD; have hm4 : m2 ≤ 1000 := Nat.le_trans (Nat.le_of_eq hM2.symm) hW; clear X2 X3 ho hb))
        generalize hW3 : (((w2.setCell ⟨w.heap.size, 0, none⟩ (.slice A2 n2 c2)).setCell ⟨w.heap.size, 1, none⟩ (.slice B2 m2 e2)).setCell ⟨w.heap.size, 2, none⟩ (.int .i64 (d.leave l).left)) = W3 at HX3 HZ3 HD3 HB3 q1 ⊢
        have HS3' : Hid (w.heap.size + 2 ≤ W3.heap.size) := by show _ ≤ _; rw [← hW3, heap_boxed]; exact HS3.out
        obtain ⟨o1, ps, o2, o3⟩ := HD3.out
        have HDRY : Hid (OB (w.heap.size + 2) W3 A2 n2 c2 d.dry) := o1
        have HPS : Hid (Own (w.heap.size + 2) W3 B2 m2 e2 ps) := o2
        have HPO : Hid (PO (w.heap.size + 2) W3 ps d.wet) := o3
        have HPL : Hid (ps.length = m2) := o2.len
        clear hW3 o1 o2 o3 f0 f1 f2 k0 k1 k2 q1 HX1 HZ1 HR1 HS1 HB1 HX0 HZ0 HR0 HS0 HB0 HD3 HS3 HDS HI HG hN2 hM2
        obtain ⟨S, hSq⟩ : ∃ S, S = W3.heap.size := ⟨_, rfl⟩
        have HSQ := hide hSq
        have hS3 : w.heap.size + 2 ≤ S := by rw [hSq]; exact HS3'.out
        clear HS3' hSq
        go_loopw [9, 36] (fun u v wr => ∃ (k : Nat) (B' : Option Addr) (n' e' : Nat), u = .slice B' n' e' ∧ v = .int .i64 k ∧ k ≤ m2 ∧ n' ≤ k ∧ Hid (Own S wr B' n' e' (lows (ps.take k) s)) ∧ Hid (Below S W3 wr)) (fun _ v _ => m2 - (intOf v).toNat)
        case atStart => exact ⟨0, none, 0, 0, rfl, rfl, by omega, by omega, Own.nil _ _, Below.refl _ _⟩
        case round =>
          obtain ⟨k, B', n', e2', rfl, rfl, hk, hnk, HO, HB⟩ := hrel
          by_cases hkm : k < m2
          · have hkz : (k : Int) < (m2 : Int) := by omega
            have hsz0 : S ≤ wr.heap.size := by have := HB.out.size; have := HSQ.out; omega
            obtain ⟨ad, rfl, c0, c1⟩ := (HPS.out.reads.below (HB.out.mono (Nat.le_of_eq HSQ.out.symm))).cell k hkm
            obtain ⟨p, hp⟩ : ∃ p, nth ps k = p := ⟨_, rfl⟩
            rw [hp] at c0 c1
            obtain ⟨pa, pA, pn, pc⟩ := p
            simp only at c0 c1
            have HPK := hide hp
            have HKL : Hid (k < ps.length) := by show _ < _; rw [HPL.out]; exact hkm
            clear hp
            by_cases hlt : pa < s
            · go_wp2_with (first
                | (at_builtin; refine wpList_append_any _ rfl (.tmp 44) (.tmp 46) 29 rfl S 56 i1 _ 2 32 Tryd.underlying29 hj0 hy0 hy1 hy2 rfl (by omega) (.slice B' n' e2') n' (pcs (lows (ps.take k) s)) rfl ((HO.out.alloc _).alloc _) _ (some ⟨wr.heap.size + 1, 0, none⟩) 1 1 (pcs [(pa, pA, pn, pc)]) rfl (made_reads (wr.alloc (.cells #[.int .i64 pa, .slice pA pn pc] 56)) (pa, pA, pn, pc) _ (by simp)) (one_page _) (by simp only [maxLen]; omega) (by omega) (by simp; omega) ?_; intro v1 w1 hown1 hg1 hat1; obtain ⟨B1, e1, rfl⟩ := row_slice hown1; rw [← pcs_append, ← lows_in HKL.out HPK.out hlt] at hown1; have HO1 := hide hown1; have HB1 := hide (((HB.out.alloc hsz0 (.cells #[.int .i64 pa, .slice pA pn pc] 56)).alloc (by simp; omega) (.cells #[.int .i64 pa, .slice pA pn pc] 56)).grown hg1 (by simp; omega) (fun q hq => (World.ownsRow.lt HO.out q hq).1)); clear hown1 hg1 hat1))
              go_roundw
              case rel => exact ⟨k + 1, B1, n' + 1, e1, rfl, by go_num, by omega, by omega, HO1, HB1⟩
              case measure => simp [intOf]; omega
            · go_wp2_with fail
              go_roundw
              case rel => exact ⟨k + 1, B', n', e2', rfl, by go_num, by omega, by omega, hide (by rw [lows_out HKL.out HPK.out hlt]; exact HO.out.alloc _), hide (HB.out.alloc hsz0 _)⟩
              case measure => simp [intOf]; omega
          · have hkz : ¬ (k : Int) < (m2 : Int) := by omega
            have hsz0 : S ≤ wr.heap.size := by have := HB.out.size; have := HSQ.out; omega
            have hke : k = m2 := by omega
            have HT : Hid (ps.take k = ps) := List.take_of_length_le (by rw [HPL.out]; omega)
            have HBW : Hid (Below w.heap.size w wr) := HB3.out.trans (HB.out.mono (by omega))
            have HBR := hide (HBS.out.below HBW.out)
            have HXw : Bx wr w.heap.size (.slice A2 n2 c2) (.slice B2 m2 e2) (.int .i64 (d.leave l).left) := (HB.out.block w.heap.size (by omega)).trans HX3.out
            have HX4 := hide HXw
            have hx1 := HXw.c1
            clear HXw
            go_wp2_with (first
              | (at_builtin; refine wpList_append_any _ rfl (.const (.slice none 0 0)) (.tmp 51) 28 rfl S 5 i0 _ 1 1 Tryd.underlying28 hi0 hz0 hz1 hz2 rfl (by omega) (.slice none 0 0) 0 [] rfl (row_nil _ _ _ _) _ C 32 cb (byt bs) rfl HBR.out (byt_one bs) (by simp only [maxLen]; omega) (by omega) hsz0 ?_; intro v1 w1 hown1 hg1 hat1; rw [Nat.zero_add, List.nil_append] at hown1; obtain ⟨Cb, cb2, rfl⟩ := row_slice hown1; have hb1 := grown_below hg1; have HC1 : Hid (OB S w1 Cb 32 cb2 bs) := hide hown1; have HO1 := hide (HO.out.below hb1); have HB1 := hide (HB.out.trans (hb1.mono hsz0)); have hs1 : S ≤ w1.heap.size := Nat.le_trans hsz0 hb1.size; have HX5 := hide (HX4.out.below hb1); clear hown1 hg1 hat1 hb1)
              | (at_builtin; refine wpList_append_any _ rfl (.tmp 49) (.tmp 54) 29 rfl S 56 i1 _ 2 32 Tryd.underlying29 hj0 hy0 hy1 hy2 rfl (by omega) (.slice B' n' e2') n' (pcs (lows (ps.take k) s)) rfl (HO1.out.alloc _) _ (some ⟨w1.heap.size, 0, none⟩) 1 1 (pcs [(s, Cb, 32, cb2)]) rfl (made_reads w1 (s, Cb, 32, cb2) _ rfl) (one_page _) (by simp only [maxLen]; omega) (by omega) (by simp; omega) ?_; intro v2 w2 hown2 hg2 hat2; obtain ⟨B2', e3, rfl⟩ := row_slice hown2; rw [← pcs_append, HT.out] at hown2; have x2 := (HX5.out.alloc (.cells #[.int .i64 s, .slice Cb 32 cb2] 56)).grown hg2 (fun h => by have := (World.ownsRow.lt HO1.out _ h.symm).1; omega); have hx5 := x2.c1; have HX6 := hide x2; have HO2 : Hid (Own S w2 B2' (n' + 1) e3 (lows ps s ++ [(s, Cb, 32, cb2)])) := hide hown2; have HC2 : Hid (OB S w2 Cb 32 cb2 bs) := hide ((HC1.out.alloc (.cells #[.int .i64 s, .slice Cb 32 cb2] 56)).growns (HO1.out.alloc (.cells #[.int .i64 s, .slice Cb 32 cb2] 56)) hg2); have HB2 := hide ((HB1.out.alloc hs1 (.cells #[.int .i64 s, .slice Cb 32 cb2] 56)).grown hg2 (by simp; omega) (fun q hq => (World.ownsRow.lt HO1.out q hq).1)); have hs2 : S ≤ w2.heap.size := Nat.le_trans hs1 (Nat.le_trans (by simp) hg2.size); clear hown2 hg2 hat2 x2))
            generalize hX : (s, Cb, 32, cb2) = x at HO2
            have HXQ := hide hX
            clear hX HO HB HO1 HB1 HX4 HX5 hsz0 hx1 HBR HBW hs1 hkz HC1
            go_loopw [9, 59] (fun u v wt => ∃ (j : Nat) (B' : Option Addr) (n3 e' : Nat), u = .slice B' n3 e' ∧ v = .int .i64 j ∧ j ≤ m2 ∧ n3 ≤ n' + 1 + j ∧ Hid (Own S wt B' n3 e' (lows ps s ++ [x] ++ highs (ps.take j) s)) ∧ Hid (OB S wt Cb 32 cb2 bs) ∧ Hid (Below S W3 wt)) (fun _ v _ => m2 - (intOf v).toNat)
            case atStart => exact ⟨0, B2', n' + 1, e3, rfl, rfl, by omega, by omega, by rw [List.take_zero]; exact hide (by rw [show highs [] s = [] from rfl, List.append_nil]; exact HO2.out), HC2, HB2⟩
            case round =>
              obtain ⟨j, B', n3, e4, rfl, rfl, hj, hnj, HO, HC, HB⟩ := hrel
              have hsz0 : S ≤ wr.heap.size := by have := HB.out.size; have := HSQ.out; omega
              by_cases hjm : j < m2
              · have hjz : (j : Int) < (m2 : Int) := by omega
                obtain ⟨ad, rfl, c0, c1⟩ := (HPS.out.reads.below (HB.out.mono (Nat.le_of_eq HSQ.out.symm))).cell j hjm
                obtain ⟨p, hp⟩ : ∃ p, nth ps j = p := ⟨_, rfl⟩
                rw [hp] at c0 c1
                obtain ⟨pa, pA, pn, pc⟩ := p
                simp only at c0 c1
                have HPK := hide hp
                have HKL : Hid (j < ps.length) := by show _ < _; rw [HPL.out]; exact hjm
                clear hp
                by_cases hlt : s < pa
                · go_wp2_with (first
                    | (at_builtin; refine wpList_append_any _ rfl (.tmp 67) (.tmp 69) 29 rfl S 56 i1 _ 2 32 Tryd.underlying29 hj0 hy0 hy1 hy2 rfl (by omega) (.slice B' n3 e4) n3 (pcs (lows ps s ++ [x] ++ highs (ps.take j) s)) rfl ((HO.out.alloc _).alloc _) _ (some ⟨wr.heap.size + 1, 0, none⟩) 1 1 (pcs [(pa, pA, pn, pc)]) rfl (made_reads (wr.alloc (.cells #[.int .i64 pa, .slice pA pn pc] 56)) (pa, pA, pn, pc) _ (by simp)) (one_page _) (by simp only [maxLen]; omega) (by omega) (by simp; omega) ?_; intro v1 w1 hown1 hg1 hat1; obtain ⟨B1, e1, rfl⟩ := row_slice hown1; rw [← pcs_append, List.append_assoc, ← highs_in HKL.out HPK.out hlt] at hown1; have HO1 := hide hown1; have HC1 : Hid (OB S w1 Cb 32 cb2 bs) := hide (((HC.out.alloc (.cells #[.int .i64 pa, .slice pA pn pc] 56)).alloc (.cells #[.int .i64 pa, .slice pA pn pc] 56)).growns ((HO.out.alloc (.cells #[.int .i64 pa, .slice pA pn pc] 56)).alloc (.cells #[.int .i64 pa, .slice pA pn pc] 56)) hg1); have HB1 := hide (((HB.out.alloc hsz0 (.cells #[.int .i64 pa, .slice pA pn pc] 56)).alloc (by simp; omega) (.cells #[.int .i64 pa, .slice pA pn pc] 56)).grown hg1 (by simp; omega) (fun q hq => (World.ownsRow.lt HO.out q hq).1)); clear hown1 hg1 hat1))
                  go_roundw
                  case rel => exact ⟨j + 1, B1, n3 + 1, e1, rfl, by go_num, by omega, by omega, HO1, HC1, HB1⟩
                  case measure => simp [intOf]; omega
                · go_wp2_with fail
                  go_roundw
                  case rel => exact ⟨j + 1, B', n3, e4, rfl, by go_num, by omega, by omega, hide (by rw [highs_out HKL.out HPK.out hlt]; exact HO.out.alloc _), hide (HC.out.alloc _), hide (HB.out.alloc hsz0 _)⟩
                  case measure => simp [intOf]; omega
              · have hjz : ¬ (j : Int) < (m2 : Int) := by omega
                have hje : j = m2 := by omega
                have HT2 : Hid (ps.take j = ps) := List.take_of_length_le (by rw [HPL.out]; omega)
                have HXw : Bx wr w.heap.size (.slice A2 n2 c2) (.slice B2 m2 e2) (.int .i64 (d.leave l).left) := (HB.out.block w.heap.size (by omega)).trans HX3.out
                have HZw : Bx wr (w.heap.size + 1) (.slice none 0 0) (.slice none 0 0) (.int .i64 0) := (HB.out.block (w.heap.size + 1) (by omega)).trans HZ3.out
                have k0 := HXw.c0
                have k1 := HXw.c1
                have k2 := HXw.c2
                have f1 := HXw.f 1
                have q1 := (HXw.set1 (u := .slice B' n3 e4)).c1
                have z0 := HZw.c0
                have z1 := HZw.c1
                have z2 := HZw.c2
                have y0 := HZw.f 0
                have y1 := HZw.f 1
                have y2 := HZw.f 2
                have HZ6 := hide ((HZw.other (a := ⟨w.heap.size, 1, none⟩) (u := .slice B' n3 e4) (by simp)).boxed (u := .slice A2 n2 c2) (v := .slice B' n3 e4) (t := .int .i64 (d.leave l).left))
                clear HXw HZw
                go_wp2_with fail
                have r0 := HZ6.out.c0
                have r1 := HZ6.out.c1
                have r2 := HZ6.out.c2
                rw [HS.out]
                refine bodyPost_ret (v := .tuple #[.agg #[.slice A2 n2 c2, .slice B' n3 e4, .int .i64 (d.leave l).left], .int .i64 0]) (by simp [results, Tryd.results33, go_sem, r0, r1, r2]) rfl ⟨A2, n2, c2, B', n3, e4, rfl, ?_, ?_⟩
                · have hbw : Below W3.heap.size W3 wr := by rw [← HSQ.out]; exact HB.out
                  have a1 := ((((HDRY.out.below hbw).set (a := ⟨w.heap.size, 1, none⟩) (u := .slice B' n3 e4) (by simp)).set (a := ⟨w.heap.size + 1, 0, none⟩) (u := .slice A2 n2 c2) (by simp)).set (a := ⟨w.heap.size + 1, 1, none⟩) (u := .slice B' n3 e4) (by simp)).set (a := ⟨w.heap.size + 1, 2, none⟩) (u := .int .i64 (d.leave l).left) (by simp)
                  have a2 := (((HO.out.set (a := ⟨w.heap.size, 1, none⟩) (u := .slice B' n3 e4) (by simp; omega)).set (a := ⟨w.heap.size + 1, 0, none⟩) (u := .slice A2 n2 c2) (by simp; omega)).set (a := ⟨w.heap.size + 1, 1, none⟩) (u := .slice B' n3 e4) (by simp; omega)).set (a := ⟨w.heap.size + 1, 2, none⟩) (u := .int .i64 (d.leave l).left) (by simp; omega)
                  have a3 := ((((HPO.out.below hbw).set (a := ⟨w.heap.size, 1, none⟩) (u := .slice B' n3 e4) (by simp)).set (a := ⟨w.heap.size + 1, 0, none⟩) (u := .slice A2 n2 c2) (by simp)).set (a := ⟨w.heap.size + 1, 1, none⟩) (u := .slice B' n3 e4) (by simp)).set (a := ⟨w.heap.size + 1, 2, none⟩) (u := .int .i64 (d.leave l).left) (by simp)
                  have a4 := (((HC.out.set (a := ⟨w.heap.size, 1, none⟩) (u := .slice B' n3 e4) (by simp; omega)).set (a := ⟨w.heap.size + 1, 0, none⟩) (u := .slice A2 n2 c2) (by simp; omega)).set (a := ⟨w.heap.size + 1, 1, none⟩) (u := .slice B' n3 e4) (by simp; omega)).set (a := ⟨w.heap.size + 1, 2, none⟩) (u := .int .i64 (d.leave l).left) (by simp; omega)
                  rw [HT2.out] at a2
                  have e := HXQ.out
                  subst e
                  exact ⟨a1.mono (by omega), _, a2.mono (by omega), (put_po (x := (s, Cb, 32, cb2)) a3 (a4.mono (by omega))).mono (by omega)⟩
                · exact below_boxed (((HB3.out.trans (HB.out.mono (by omega)))).setCell (by simp) _) (by omega)
    · have h32z : ((nb : Int) != 32) = true := by rw [bne_iff_ne]; omega
      have HS := hide (writeS_bad (d := d) (k := s) (bs := bs) (fun h => h32 (by omega)))
      clear hI hr
      go_enter Tryd.func33, Tryd.ntmps33
      go_wp2_with (first
        | (go_at_call 50; refine (ris_any _ A n c B m e' d s HR0.out hn hm).mono ?_; rintro e w1 ⟨rfl, hb⟩; rw [HI.out]; have Z1 := HZ0.out.below hb; have z0 := Z1.c0; have z1 := Z1.c1; have z2 := Z1.c2; have y0 := Z1.f 0; have y1 := Z1.f 1; have y2 := Z1.f 2; have HZ1 := hide Z1; have HB1 := hide (Below.then_ HB0.out hb HB0.out.size); clear Z1 hb))
      have hz6 := HZ1.out.boxed (u := .slice none 0 0) (v := .slice none 0 0) (t := .int .i64 0)
      have r0 := hz6.c0
      have r1 := hz6.c1
      have r2 := hz6.c2
      rw [HS.out]
      refine bodyPost_ret (v := .tuple #[.agg #[.slice none 0 0, .slice none 0 0, .int .i64 0], .int .i64 1]) (by simp [results, Tryd.results33, go_sem, r0, r1, r2]) rfl ⟨_, _, _, _, _, _, rfl, DO.zero _ _, ?_⟩
      exact below_boxed HB1.out (by omega)
  · have HI := hide (isb_false hI)
    have HS := hide (writeS_bad (d := d) (k := s) (bs := bs) (fun h => hI h.1))
    clear hI hr
    go_enter Tryd.func33, Tryd.ntmps33
    go_wp2_with (first
      | (go_at_call 50; refine (ris_any _ A n c B m e' d s HR0.out hn hm).mono ?_; rintro e w1 ⟨rfl, hb⟩; rw [HI.out]; have Z1 := HZ0.out.below hb; have z0 := Z1.c0; have z1 := Z1.c1; have z2 := Z1.c2; have y0 := Z1.f 0; have y1 := Z1.f 1; have y2 := Z1.f 2; have HZ1 := hide Z1; have HB1 := hide (Below.then_ HB0.out hb HB0.out.size); clear Z1 hb))
    have hz6 := HZ1.out.boxed (u := .slice none 0 0) (v := .slice none 0 0) (t := .int .i64 0)
    have r0 := hz6.c0
    have r1 := hz6.c1
    have r2 := hz6.c2
    rw [HS.out]
    refine bodyPost_ret (v := .tuple #[.agg #[.slice none 0 0, .slice none 0 0, .int .i64 0], .int .i64 1]) (by simp [results, Tryd.results33, go_sem, r0, r1, r2]) rfl ⟨_, _, _, _, _, _, rfl, DO.zero _ _, ?_⟩
    exact below_boxed HB1.out (by omega)
end Go.Proofs.YthhemdjggdgaaaaDoor
