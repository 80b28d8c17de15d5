/- Write's deed. -/
import Derived.Test.YthhemdjggdgaaaaDoorPut
import Derived.Test.YthhemdjggdgaaaaDoorIns
namespace Go.Proofs.YthhemdjggdgaaaaDoor
open Go.RowKit
set_option linter.unusedVariables false

theorem nth_insd {ps : List Pg} {i : Nat} (x : Pg) (hi : i ≤ ps.length) (j : Nat) : nth (insd ps i x) j = if j < i then nth ps j else if j = i then x else nth ps (j - 1) := by
  unfold nth insd
  have hl : (ps.take i).length = i := by rw [List.length_take]; omega
  rw [List.getD_eq_getElem?_getD, List.getElem?_append, hl]
  split
  · rename_i h; rw [List.getElem?_take_of_lt h, List.getD_eq_getElem?_getD]
  · rename_i h
    split
    · rename_i h2; subst h2; simp
    · rename_i h2
      rw [show j - i = (j - 1 - i) + 1 by omega, List.getElem?_cons_succ, List.getElem?_drop, show i + (j - 1 - i) = j - 1 by omega, List.getD_eq_getElem?_getD]
theorem qn_insd {qs : Wet} {i : Nat} (x : Int × Bs) (hi : i ≤ qs.length) (j : Nat) : qn (qs.take i ++ x :: qs.drop i) j = if j < i then qn qs j else if j = i then x else qn qs (j - 1) := by
  unfold qn
  have hl : (qs.take i).length = i := by rw [List.length_take]; omega
  rw [List.getD_eq_getElem?_getD, List.getElem?_append, hl]
  split
  · rename_i h; rw [List.getElem?_take_of_lt h, List.getD_eq_getElem?_getD]
  · rename_i h
    split
    · rename_i h2; subst h2; simp
    · rename_i h2
      rw [show j - i = (j - 1 - i) + 1 by omega, List.getElem?_cons_succ, List.getElem?_drop, show i + (j - 1 - i) = j - 1 by omega, List.getD_eq_getElem?_getD]
theorem insd_len {ps : List Pg} {i : Nat} (x : Pg) (hi : i ≤ ps.length) : (insd ps i x).length = ps.length + 1 := by unfold insd; simp; omega
/-- Octets that lie from base on, or in a block that X knows. -/
def OBX (base : Nat) (X : Nat → Prop) (w : World) (A : Option Addr) (n c : Nat) (bs : Bs) : Prop := OB 0 w A n c bs ∧ ∀ q, (Value.slice A n c).ownBlock = some q → base ≤ q ∨ X q
theorem OBX.of {base n c : Nat} {X : Nat → Prop} {w : World} {A : Option Addr} {bs : Bs} (h : OB base w A n c bs) : OBX base X w A n c bs := ⟨h.mono (Nat.zero_le _), fun q hq => .inl (World.ownsRow.lt h q hq).1⟩
theorem OBX.set {base n c : Nat} {X : Nat → Prop} {w : World} {A : Option Addr} {bs : Bs} {u : Value} (h : OBX base X w A n c bs) {a : Addr} (ha : a.block < base) (hx : ¬ X a.block) : OBX base X (w.setCell a u) A n c bs :=
  ⟨ownsRow_setCell_other h.1 (fun e => (h.2 _ e).elim (fun h1 => by omega) hx) u, h.2⟩
theorem OBX.below {base n c : Nat} {X : Nat → Prop} {w w' : World} {A : Option Addr} {bs : Bs} (h : OBX base X w A n c bs) (hb : Below w.heap.size w w') : OBX base X w' A n c bs := ⟨h.1.below hb, h.2⟩
theorem OBX.ob {base n c b0 : Nat} {X : Nat → Prop} {w : World} {A : Option Addr} {bs : Bs} (h : OBX base X w A n c bs) (hX : ∀ q, X q → b0 ≤ q) (h0 : b0 ≤ base) : OB b0 w A n c bs := by
  refine ⟨h.1.1, ?_⟩
  rcases h.1.2 with h1 | ⟨g, cap, cur, e, hk, h3⟩
  · exact .inl h1
  · exact .inr ⟨g, cap, cur, e, (h.2 g (by rw [e]; rfl)).elim (fun h4 => by omega) (hX g), h3⟩
def POX (base : Nat) (X : Nat → Prop) (w : World) (ps : List Pg) (qs : Wet) : Prop := ps.length = qs.length ∧ ∀ i, i < ps.length → (nth ps i).1 = (qn qs i).1 ∧ OBX base X w (nth ps i).2.1 (nth ps i).2.2.1 (nth ps i).2.2.2 (qn qs i).2
/-- One page more. -/
theorem PO.more {base : Nat} {X : Nat → Prop} {w : World} {ps : List Pg} {qs : Wet} {i : Nat} {x : Pg} {b : Bs} (h : PO base w ps qs) (hi : i ≤ ps.length) (hx : OBX base X w x.2.1 x.2.2.1 x.2.2.2 b) : POX base X w (insd ps i x) (qs.take i ++ (x.1, b) :: qs.drop i) := by
  have hl := h.1
  refine ⟨by rw [insd_len x hi]; simp; omega, fun j hj => ?_⟩
  rw [insd_len x hi] at hj
  rw [nth_insd x hi, qn_insd _ (by omega)]
  split
  · exact ⟨(h.2 j (by omega)).1, .of (h.2 j (by omega)).2⟩
  · split
    · exact ⟨rfl, hx⟩
    · exact ⟨(h.2 (j - 1) (by omega)).1, .of (h.2 (j - 1) (by omega)).2⟩
theorem PO.put {base : Nat} {X : Nat → Prop} {w : World} {ps : List Pg} {qs : Wet} {i : Nat} {x : Pg} {b : Bs} (h : PO base w ps qs) (hi : i < ps.length) (hx : OBX base X w x.2.1 x.2.2.1 x.2.2.2 b) : POX base X w (ps.set i x) (qs.set i (x.1, b)) := by
  have hl := h.1
  refine ⟨by simp [hl], fun j hj => ?_⟩
  rw [List.length_set] at hj
  by_cases e : i = j
  · subst e
    rw [nth_set_eq x hi, show qn (qs.set i (x.1, b)) i = (x.1, b) by unfold qn; rw [List.getD_eq_getElem?_getD, List.getElem?_set_self (by omega)]; rfl]
    exact ⟨rfl, hx⟩
  · rw [nth_set_ne x e, show qn (qs.set i (x.1, b)) j = qn qs j by unfold qn; rw [List.getD_eq_getElem?_getD, List.getElem?_set_ne e, List.getD_eq_getElem?_getD]]
    exact ⟨(h.2 j hj).1, .of (h.2 j hj).2⟩
/-- A disk of one's own; its pages' octets from base on, or known to X. -/
def DXA (base : Nat) (X : Nat → Prop) (w : World) (A : Option Addr) (n c : Nat) (B : Option Addr) (m e : Nat) (d : Dk) : Prop :=
  OB base w A n c d.dry ∧ ∃ ps, Own base w B m e ps ∧ POX base X w ps d.wet
section
variable {base b0 n c m e : Nat} {X : Nat → Prop} {w w' : World} {A B : Option Addr} {d : Dk}
theorem DXA.set {u : Value} (h : DXA base X w A n c B m e d) {a : Addr} (ha : a.block < base) (hx : ¬ X a.block) : DXA base X (w.setCell a u) A n c B m e d := by
  obtain ⟨h1, ps, h2, h3⟩ := h
  exact ⟨h1.set ha, ps, h2.set ha, h3.1, fun i hi => ⟨(h3.2 i hi).1, (h3.2 i hi).2.set ha hx⟩⟩
theorem DXA.below (h : DXA base X w A n c B m e d) (hb : Below w.heap.size w w') : DXA base X w' A n c B m e d := by
  obtain ⟨h1, ps, h2, h3⟩ := h
  exact ⟨h1.below hb, ps, h2.below hb, h3.1, fun i hi => ⟨(h3.2 i hi).1, (h3.2 i hi).2.below hb⟩⟩
theorem DXA.do (h : DXA base X w A n c B m e d) (hX : ∀ q, X q → b0 ≤ q) (h0 : b0 ≤ base) : DO b0 w A n c B m e d := by
  obtain ⟨h1, ps, h2, h3⟩ := h
  exact ⟨h1.mono h0, ps, h2.mono h0, h3.1, fun i hi => ⟨(h3.2 i hi).1, (h3.2 i hi).2.ob hX h0⟩⟩
theorem DXA.boxed {b : Nat} {u v t : Value} (h : DXA base X w A n c B m e d) (hb : b < base) (hx : ¬ X b) :
    DXA base X (((w.setCell ⟨b, 0, none⟩ u).setCell ⟨b, 1, none⟩ v).setCell ⟨b, 2, none⟩ t) A n c B m e d := ((h.set (a := ⟨b, 0, none⟩) hb hx).set (a := ⟨b, 1, none⟩) hb hx).set (a := ⟨b, 2, none⟩) hb hx
end

theorem PO.page {base bb N C g : Nat} {w w' : World} {ps rs : List Pg} {qs : Wet} (h : PO base w ps qs) (k : Own bb w (some ⟨g, 0, none⟩) N C rs) (hg : w.grownBy w' (some g)) : PO base w' ps qs := ⟨h.1, fun i hi => ⟨(h.2 i hi).1, (h.2 i hi).2.page k hg⟩⟩
theorem own_ne {base bb n c m e : Nat} {w : World} {A B : Option Addr} {bs : Bs} {ps : List Pg} (h : OB base w A n c bs) (k : Own bb w B m e ps) : ∀ q, (Value.slice A n c).ownBlock = some q → (Value.slice B m e).ownBlock ≠ some q := by
  intro q hq hq2
  have hA : A = some ⟨q, 0, none⟩ := by
    rcases h.2 with ⟨h', _⟩ | ⟨g', cap', cur, h', _⟩
    · rw [h'] at hq; cases hq
    · rw [h'] at hq; injection hq with hq; subst hq; injection h' with h' _ _
  have hB : B = some ⟨q, 0, none⟩ := by
    rcases k.2 with ⟨h', _⟩ | ⟨g', cap', cur, h', _⟩
    · rw [h'] at hq2; cases hq2
    · rw [h'] at hq2; injection hq2 with hq2; subst hq2; injection h' with h' _ _
  subst hA hB
  exact row_ne h k (by decide) rfl
theorem OB.beside {base bb n c m e bd : Nat} {w w5 : World} {A B : Option Addr} {bs : Bs} {ps : List Pg} {v : Value} (h : OB base w A n c bs) (k : Own bb w B m e ps) (hs : Beside (Value.slice B m e).ownBlock w w5) (hne : ∀ q, (Value.slice A n c).ownBlock = some q → q ≠ bd) : OB base (w5.setCell ⟨bd, 1, none⟩ v) A n c bs := by
  refine ⟨h.1, ?_⟩
  rcases h.2 with h0 | ⟨q, cap, cur, e, hk, hh, h3⟩
  · exact .inl h0
  · have hq : (Value.slice A n c).ownBlock = some q := by rw [e]; rfl
    exact .inr ⟨q, cap, cur, e, hk, ((Below.heap_setCell _ _ _ q (hne q hq)).trans (hs q (Array.getElem?_eq_some_iff.1 hh).1 (own_ne h k q hq))).trans hh, h3⟩
theorem PO.beside {base bb m e bd : Nat} {w w5 : World} {B : Option Addr} {ps rs : List Pg} {qs : Wet} {v : Value} (h : PO base w rs qs) (k : Own bb w B m e ps) (hs : Beside (Value.slice B m e).ownBlock w w5) (hbd : bd < base) : PO base (w5.setCell ⟨bd, 1, none⟩ v) rs qs :=
  ⟨h.1, fun i hi => ⟨(h.2 i hi).1, (h.2 i hi).2.beside k hs (fun q hq => by have := (World.ownsRow.lt (h.2 i hi).2 q hq).1; omega)⟩⟩
/-- Write's deed is done. -/
def W1Post (w : World) (base bd : Nat) (X : Nat → Prop) (A : Option Addr) (n c : Nat) (d : Dk) (l k : Int) (bs : Bs) (e : Ending) (w' : World) : Prop :=
  e = .returned (.tuple #[]) ∧ ∃ (B2 : Option Addr) (m2 e2 : Nat), Bx w' bd (.slice A n c) (.slice B2 m2 e2) (.int .i64 l) ∧ DXA base X w' A n c B2 m2 e2 (d.put k bs l) ∧ ∃ w1, Below base w w1 ∧ (w' = w1 ∨ w' = w1.setCell ⟨bd, 1, none⟩ (.slice B2 m2 e2))

set_option maxRecDepth 100000 in
set_option maxHeartbeats 2000000 in
theorem write1_any (w : World) (b0 base bd ba bp : Nat) (A : Option Addr) (n c : Nat) (B : Option Addr) (m e' : Nat) (d : Dk) (l k : Int) (pA : Option Addr) (pc : Nat) (bs : Bs)
    (hg : Good d) (hx : Bx w bd (.slice A n c) (.slice B m e') (.int .i64 l)) (hd : DX base w A n c B m e' d)
    (hk : w.cell? ⟨ba, 0, none⟩ = some (.int .i64 k)) (hp0 : w.cell? ⟨bp, 0, none⟩ = some (.int .i64 k)) (hp1 : w.cell? ⟨bp, 1, none⟩ = some (.slice pA 32 pc))
    (ho : OB b0 w pA 32 pc bs) (hbb : ∀ q, (Value.slice pA 32 pc).ownBlock = some q → q < base ∧ q ≠ bd) (hbd : bd < base) (hba : ba < base) (hbp : bp < base) (hbase : base ≤ w.heap.size) (hm : m ≤ 1000) :
    Calls Tryd.prog 40 #[.pointer (some ⟨bd, 0, none⟩), .pointer (some ⟨ba, 0, none⟩), .pointer (some ⟨bp, 0, none⟩)] w (W1Post w base bd (fun q => (Value.slice pA 32 pc).ownBlock = some q) A n c d l k bs) := by
  obtain ⟨o1, ps, o2, o3, o4⟩ := hd
  have HG := hide hg
  have HX := hide hx
  have HSP : Hid (SP base w A n c B m e' ps d.dry d.wet) := ⟨o1, o2, o3, o4⟩
  have HK := hide hk
  have HP0 := hide hp0
  have HP1 := hide hp1
  have HO := hide ho
  have HBB := hide hbb
  have HA := hide (asc_of hg o3.reads)
  have hpl := o2.len
  have k0 := hx.c0
  have k1 := hx.c1
  have k2 := hx.c2
  have HPR : Hid (PR w.drew B m ps) := o2.reads.below (Below.refl _ _).drew
  clear o1 o2 o3 o4 hg hx hp0 hp1 ho hbb
  go_enter Tryd.func40, Tryd.ntmps40
  go_upto_region 0 with fail
  go_cut [4, 5] (fun u v wx => ∃ i : Nat, u = .int .i64 i ∧ v = .bool (there ps k i) ∧ Hid (At ps k i) ∧ Hid (Below w.heap.size w wx))
  case first =>
    go_region_with (first
      | (go_at_call 41; refine (place_any _ A n c B m e' l ps k HPR.out HA.out hm).mono ?_; rintro e w' ⟨i, rfl, hat, hb⟩; replace hb := Below.undrew hb; have HAT := hide hat; have HB := hide hb; clear hat hb))
    all_goals
      go_wp2_with fail
      go_meet
      exact ⟨i, rfl, rfl, HAT, HB⟩
  case rest =>
    obtain ⟨i, rfl, rfl, HAT, HB⟩ := hcut
    have HSC := hide (HSP.out.below HB.out)
    have HXC := hide (HX.out.below HB.out)
    have HOC := hide (HO.out.below HB.out)
    have hws := HB.out.size
    have p0 := (HB.out.cell (p := ⟨bp, 0, none⟩) (Nat.lt_of_lt_of_le hbp hbase)).trans HP0.out
    have p1 := (HB.out.cell (p := ⟨bp, 1, none⟩) (Nat.lt_of_lt_of_le hbp hbase)).trans HP1.out
    have b1 := HXC.out.c1
    have f1 := HXC.out.f 1
    cases ht : there ps k i with
    | true =>
      obtain ⟨hip, hput⟩ := at_set bs HG.out HSP.out.2.2.1 HAT.out ht
      have hiz : (i : Int) < (m : Int) := by omega
      have him : i < m := by omega
      obtain ⟨g, hgB⟩ := HSC.out.2.1.addr (by omega)
      subst hgB
      obtain ⟨a0, a1⟩ := HSC.out.2.1.at i him
      have y0 := HSC.out.2.1.froz (i * 2)
      have y1 := HSC.out.2.1.froz (i * 2 + 1)
      have HIP := hide hip
      have HPUT := hide hput
      clear hip hput k0 k1 k2
      go_upto_region 2 with fail
      go_region_with (fail)
      all_goals
        go_wp2_with fail
        obtain ⟨q1, q2⟩ := HSC.out.2.1.put i (k, pA, 32, pc)
        dsimp only at q1 q2
        have hgl := HSC.out.2.1.lt
        refine bodyPost_ret (v := .tuple #[]) (by simp [results, Tryd.results40, go_sem]) rfl ⟨rfl, some ⟨g, 0, none⟩, m, e', (HXC.out.grown q2 (fun h => by injection h with h; omega)).below (Below.refl _ _).drew, DXA.below ?_ (Below.refl _ _).drew, _, (((HB.out.mono hbase).grown q2 (Nat.le_trans hbase hws) (fun q hq => by injection hq with hq; omega))).drew, Or.inl rfl⟩
        refine ⟨HSC.out.1.page HSC.out.2.1 q2, ps.set i (k, pA, 32, pc), q1, ?_⟩
        show POX base _ _ _ (putW d.wet k bs)
        rw [HPUT.out]
        exact PO.put (HSC.out.2.2.1.page HSC.out.2.1 q2) HIP.out ⟨(HOC.out.page HSC.out.2.1 q2).mono (Nat.zero_le _), fun q hq => .inr hq⟩
    | false =>
      have HPUT := hide (at_ins bs HG.out HSP.out.2.2.1 HAT.out ht)
      have HIP : Hid (i ≤ ps.length) := HAT.out.1
      have him : i ≤ m := by have := HAT.out.1; omega
      clear k0 k1 k2
      obtain ⟨WA, hWA⟩ : ∃ WA, WA = (wc.alloc (.cells #[.int .i64 k, .slice pA 32 pc] 56)).drew := ⟨_, rfl⟩
      have hba1 : Below wc.heap.size wc WA := by rw [hWA]; exact (below_alloc _ _).drew
      have HOw : Hid (Own base WA B m e' ps) := HSC.out.2.1.below hba1
      have HOv : Hid (Own wc.heap.size WA (some ⟨wc.heap.size, 0, none⟩) 1 1 [(k, pA, 32, pc)]) := by rw [hWA]; exact (Own.made wc (k, pA, 32, pc)).below (Below.refl _ _).drew
      have HNE : Hid (∀ q, (Value.slice B m e').ownBlock = some q → wc.heap.size ≠ q) := fun q hq => by have := (World.ownsRow.lt HSC.out.2.1 q hq).2; omega
      have HBS : Hid (base ≤ WA.heap.size) := Nat.le_trans hbase (Nat.le_trans hws hba1.size)
      have HXA : Hid (Bx WA bd (.slice A n c) (.slice B m e') (.int .i64 l)) := HXC.out.below hba1
      have HBA : Hid (Below base w WA) := (Below.then_ HB.out hba1 hws).mono hbase
      have HSA : Hid (SP base WA A n c B m e' ps d.dry d.wet) := HSC.out.below hba1
      have HOA : Hid (OB b0 WA pA 32 pc bs) := HOC.out.below hba1
      rw [hWA] at HOw HOv HBS HXA HBA HSA HOA
      clear hWA hba1
      have b2 : ∀ o, (wc.alloc o).cell? ⟨bd, 1, none⟩ = some (.slice B m e') := fun o => (HXC.out.alloc o).c1
      go_upto_region 3 with fail
      go_region_with (first
        | (go_at_call 42; refine (insert_any base wc.heap.size _ B m e' i wc.heap.size 1 ps (k, pA, 32, pc) HOw.out HOv.out HNE.out him HBS.out hm).mono ?_; rintro e w5 ⟨A', c', rfl, hown, hb, hbs⟩; have X5 : Bx w5 bd (.slice A n c) (.slice B m e') (.int .i64 l) := (hb.block bd hbd).trans HXA.out; have b5 := X5.c1; have f5 := X5.f 1; have HX5 := hide X5; have HW5 := hide hown; have HB5 := hide hb; have HS5 := hide hbs; clear X5 hown hb hbs))
      all_goals
        go_wp2_with fail
        refine bodyPost_end (v := .tuple #[]) (by simp [results, Tryd.results40, go_sem]) rfl ⟨rfl, A', m + 1, c', HX5.out.set1, ?_, w5, HBA.out.trans HB5.out, Or.inr rfl⟩
        refine ⟨HSA.out.1.beside HSA.out.2.1 HS5.out (fun q hq => by have := (World.ownsRow.lt HSA.out.1 q hq).1; omega), insd ps i (k, pA, 32, pc), HW5.out.set hbd, ?_⟩
        show POX base _ _ _ (putW d.wet k bs)
        rw [HPUT.out]
        exact PO.more (HSA.out.2.2.1.beside HSA.out.2.1 HS5.out hbd) HIP.out ⟨(HOA.out.beside HSA.out.2.1 HS5.out (fun q hq => (HBB.out q hq).2)).mono (Nat.zero_le _), fun q hq => .inr hq⟩
end Go.Proofs.YthhemdjggdgaaaaDoor
