/- own: a disk of one's own. -/
import Derived.Test.YthhemdjggdgaaaaDoorBox
namespace Go.Proofs.YthhemdjggdgaaaaDoor
open Go.RowKit
set_option linter.unusedVariables false

theorem Below.then_h {B : Nat} {a b c : World} (h : Below B a b) (k : Below b.heap.size b c) (hB : B ≤ b.heap.size) : Below B a c := h.trans (k.mono hB)

/-- A disk of one's own, no page of which lies where what is dry does. -/
def DX (base : Nat) (w : World) (A : Option Addr) (n c : Nat) (B : Option Addr) (m e : Nat) (d : Dk) : Prop :=
  OB base w A n c d.dry ∧ ∃ ps, Own base w B m e ps ∧ PO base w ps d.wet ∧ ∀ i, i < ps.length → ∀ q, (Value.slice A n c).ownBlock = some q → (Value.slice (nth ps i).2.1 (nth ps i).2.2.1 (nth ps i).2.2.2).ownBlock ≠ some q
section
variable {base b' n c m e : Nat} {w w' : World} {A B : Option Addr} {d : Dk}
theorem DX.do (h : DX base w A n c B m e d) : DO base w A n c B m e d := by obtain ⟨h1, ps, h2, h3, _⟩ := h; exact ⟨h1, ps, h2, h3⟩
theorem DX.below (h : DX base w A n c B m e d) (hb : Below w.heap.size w w') : DX base w' A n c B m e d := by obtain ⟨h1, ps, h2, h3, h4⟩ := h; exact ⟨h1.below hb, ps, h2.below hb, h3.below hb, h4⟩
theorem DX.mono (h : DX base w A n c B m e d) (hb : b' ≤ base) : DX b' w A n c B m e d := by obtain ⟨h1, ps, h2, h3, h4⟩ := h; exact ⟨h1.mono hb, ps, h2.mono hb, h3.mono hb, h4⟩
theorem DX.set {u : Value} (h : DX base w A n c B m e d) {a : Addr} (ha : a.block < base) : DX base (w.setCell a u) A n c B m e d := by obtain ⟨h1, ps, h2, h3, h4⟩ := h; exact ⟨h1.set ha, ps, h2.set ha, h3.set ha, h4⟩
end
/-- A disk of one's own. -/
def OPost (w : World) (d : Dk) (e : Ending) (w' : World) : Prop :=
  ∃ (A : Option Addr) (n c : Nat) (B : Option Addr) (m e' : Nat), e = .returned (.agg #[.slice A n c, .slice B m e', .int .i64 d.left]) ∧ DX w.heap.size w' A n c B m e' d ∧ Below w.heap.size w w'

/-- What lies behind own's first statement. -/
def OwnCut (w : World) (n m : Nat) (d : Dk) (ps : List Pg) (wx : World) : Prop :=
  ∃ (A' B' : Option Addr) (c' e' : Nat), Bx wx w.heap.size (.slice A' n c') (.slice B' m e') (.int .i64 d.left) ∧ Bx wx (w.heap.size + 1) (.slice none 0 0) (.slice none 0 0) (.int .i64 0) ∧
    OB (w.heap.size + 2) wx A' n c' d.dry ∧ Own (w.heap.size + 2) wx B' m e' ps ∧ Below w.heap.size w wx ∧ w.heap.size + 2 ≤ wx.heap.size

/-- The pages from k on are as they were, those ahead are one's own. -/
def Half (base : Nat) (w : World) (ps0 ps : List Pg) (qs : Wet) (k : Nat) : Prop :=
  ps.length = qs.length ∧ (∀ i, i < ps.length → (nth ps i).1 = (qn qs i).1) ∧ (∀ i, i < k → i < ps.length → OB base w (nth ps i).2.1 (nth ps i).2.2.1 (nth ps i).2.2.2 (qn qs i).2) ∧ ∀ i, k ≤ i → nth ps i = nth ps0 i
theorem Half.start {base : Nat} {w w0 : World} {ps : List Pg} {qs : Wet} (h : PC w0 ps qs) : Half base w ps ps qs 0 := ⟨h.1, fun i hi => (h.2 i hi).1, fun i hi => by omega, fun _ _ => rfl⟩
theorem Half.done {base : Nat} {w : World} {ps0 ps : List Pg} {qs : Wet} {k : Nat} (h : Half base w ps0 ps qs k) (hk : ps.length ≤ k) : PO base w ps qs := ⟨h.1, fun i hi => ⟨h.2.1 i hi, h.2.2.1 i (by omega) hi⟩⟩
theorem Half.below {base : Nat} {w w' : World} {ps0 ps : List Pg} {qs : Wet} {k : Nat} (h : Half base w ps0 ps qs k) (hb : Below w.heap.size w w') : Half base w' ps0 ps qs k := ⟨h.1, h.2.1, fun i h1 h2 => (h.2.2.1 i h1 h2).below hb, h.2.2.2⟩
/-- Where a block of pages grows, the octets stay. -/
theorem OB.page {base bb n c N C g : Nat} {w w' : World} {A : Option Addr} {bs : Bs} {ps : List Pg} (h : OB base w A n c bs) (k : Own bb w (some ⟨g, 0, none⟩) N C ps) (hg : w.grownBy w' (some g)) : OB base w' A n c bs := by
  refine row_other h hg (fun q hq => ?_)
  have hA : A = some ⟨q, 0, none⟩ := by
    rcases h.2 with ⟨h', _⟩ | ⟨g', cap', cur, h', _⟩
    · rw [h'] at hq; cases hq
    · rw [h'] at hq; injection hq with hq; subst hq; injection h' with h' _ _
  subst hA
  exact row_ne h k (by decide)
theorem Half.step {base bb N C g : Nat} {w w' : World} {ps0 ps : List Pg} {qs : Wet} {k : Nat} (h : Half base w ps0 ps qs k) (ho : Own bb w (some ⟨g, 0, none⟩) N C ps) (hg : w.grownBy w' (some g)) (hk : k < ps.length) (x : Pg) (hx : x.1 = (nth ps k).1) (hb : OB base w' x.2.1 x.2.2.1 x.2.2.2 (qn qs k).2) :
    Half base w' ps0 (ps.set k x) qs (k + 1) := by
  refine ⟨by rw [List.length_set]; exact h.1, fun i hi => ?_, fun i h1 h2 => ?_, fun i hi => ?_⟩
  · rw [List.length_set] at hi
    by_cases e : k = i
    · subst e; rw [nth_set_eq x hk, hx]; exact h.2.1 k hi
    · rw [nth_set_ne x e]; exact h.2.1 i hi
  · rw [List.length_set] at h2
    by_cases e : k = i
    · subst e; rw [nth_set_eq x hk]; exact hb
    · rw [nth_set_ne x e]; exact (h.2.2.1 i (by omega) h2).page ho hg
  · rw [nth_set_ne x (by omega)]; exact h.2.2.2 i (by omega)

set_option maxRecDepth 100000 in
set_option maxHeartbeats 4000000 in
theorem own_any (w : World) (A : Option Addr) (n c : Nat) (B : Option Addr) (m e' : Nat) (d : Dk) (hr : DR w A n B m d) (hn : n ≤ 300000) (hm : m ≤ 1000) (hp32 : ∀ i, i < d.wet.length → (qn d.wet i).2.length ≤ 300000) :
    Calls Tryd.prog 44 #[.agg #[.slice A n c, .slice B m e', .int .i64 d.left]] w (OPost w d) := by
  have hw := hr.wlen
  obtain ⟨hd, ps, hp, hpc⟩ := hr
  have HD0 := hide hd
  have HP0 := hide hp
  have HC := hide hpc
  have HLn := hide hp32
  have HW := hide hw
  clear hd hp hpc hp32 hw
  go_enter Tryd.func44, Tryd.ntmps44
  go_upto_region 1 with fail
  go_cut [] (fun wx => OwnCut w n m d ps wx)
  case first =>
    obtain ⟨W0, hW0⟩ : ∃ W0, W0 = ((w.alloc (.cells #[.slice A n c, .slice B m e', .int .i64 d.left] 31)).alloc (.cells #[.slice none 0 0, .slice none 0 0, .int .i64 0] 31)) := ⟨_, rfl⟩
    have HX : Hid (Bx W0.drew w.heap.size (.slice A n c) (.slice B m e') (.int .i64 d.left)) := by rw [hW0]; exact (Bx.made w _ _ _).alloc _
    have HZ : Hid (Bx W0.drew (w.heap.size + 1) (.slice none 0 0) (.slice none 0 0) (.int .i64 0)) := by
      have := Bx.made (w.alloc (.cells #[.slice A n c, .slice B m e', .int .i64 d.left] 31)) (.slice none 0 0) (.slice none 0 0) (.int .i64 0)
      rw [box_size] at this
      rw [hW0]; exact this
    have HB : Hid (Below w.heap.size w W0.drew) := by rw [hW0]; exact (below_alloc2 w _ _).drew
    have HBz : Hid (w.heap.size ≤ W0.drew.heap.size) := HB.out.size
    have HS : Hid (w.heap.size + 2 ≤ W0.drew.heap.size) := by
      show _ ≤ _
      rw [hW0]; simp
    have HD : Hid (BR W0.drew A n d.dry) := HD0.out.below (by rw [hW0]; exact (below_alloc2 w _ _).drew)
    have HP : Hid (PR W0.drew B m ps) := HP0.out.below (by rw [hW0]; exact (below_alloc2 w _ _).drew)
    rw [hW0] at HX HZ HB HBz HS HD HP
    clear hW0
    go_region_with (first
      | (go_at_call 38; refine (cloneB_any _ A n c d.dry HD.out hn).mono ?_; rintro e wB ⟨AB, cB, rfl, hb, ho⟩; have HOB := hide (ho.mono HS.out); (try replace HOP := hide (HOP.out.below hb)); replace HX := hide (HX.out.below hb); replace HZ := hide (HZ.out.below hb); replace HD := hide (HD.out.below hb); replace HP := hide (HP.out.below hb); replace HB := hide (Below.then_ HB.out hb HBz.out); replace HBz := hide (Nat.le_trans HBz.out hb.size); replace HS := hide (Nat.le_trans HS.out hb.size); have k0 := HX.out.c0; have k1 := HX.out.c1; have k2 := HX.out.c2; have f0 := HX.out.f 0; have f1 := HX.out.f 1; clear hb ho)
      | (go_at_call 58; refine (cloneP_any _ B m e' ps HP.out hm).mono ?_; rintro e wP ⟨AP, cP, rfl, hb, ho⟩; have HOP := hide (ho.mono HS.out); (try replace HOB := hide (HOB.out.below hb)); replace HX := hide (HX.out.below hb); replace HZ := hide (HZ.out.below hb); replace HD := hide (HD.out.below hb); replace HP := hide (HP.out.below hb); replace HB := hide (Below.then_ HB.out hb HBz.out); replace HBz := hide (Nat.le_trans HBz.out hb.size); replace HS := hide (Nat.le_trans HS.out hb.size); have k0 := HX.out.c0; have k1 := HX.out.c1; have k2 := HX.out.c2; have f0 := HX.out.f 0; have f1 := HX.out.f 1; clear hb ho))
    all_goals
      go_wp2_with fail
      go_meet
      exact ⟨AB, AP, cB, cP, HX.out.set0.set1, (HZ.out.other (by simp)).other (by simp), (HOB.out.set (by simp)).set (by simp), (HOP.out.set (by simp)).set (by simp), (HB.out.setCell (Nat.le_refl _) _).setCell (Nat.le_refl _) _, by have := HS.out; simpa [World.setCell] using this⟩
  case rest =>
    obtain ⟨A', B', c', e2, hx, hz, ho, hp, hb, hs⟩ := hcut
    have HX := hide hx
    have HZ := hide hz
    have HO := hide ho
    have HP := hide hp
    have HB := hide hb
    have HS := hide hs
    have k1 := hx.c1
    have HQ0 : Hid (∀ q, (Value.slice A' n c').ownBlock = some q → q < wc.heap.size) := fun q hq => (World.ownsRow.lt ho q hq).2
    clear hx hz ho hp hb hs
    go_wp2_with fail
    go_loopw [16] (fun v wr => ∃ (k : Nat) (qs : List Pg), v = .int .i64 k ∧ k ≤ m ∧ Hid (Bx wr w.heap.size (.slice A' n c') (.slice B' m e2) (.int .i64 d.left)) ∧ Hid (Bx wr (w.heap.size + 1) (.slice none 0 0) (.slice none 0 0) (.int .i64 0)) ∧
      Hid (OB (w.heap.size + 2) wr A' n c' d.dry) ∧ Hid (Own (w.heap.size + 2) wr B' m e2 qs) ∧ Hid (Half wc.heap.size wr ps qs d.wet k) ∧ Hid (Below w.heap.size w wr) ∧ Hid (wc.heap.size ≤ wr.heap.size)) (fun v _ => m - (intOf v).toNat)
    case atStart => exact ⟨0, ps, rfl, by omega, HX, HZ, HO, HP, Half.start HC.out, HB, Nat.le_refl _⟩
    case round =>
      obtain ⟨k, qs, rfl, hk, HX, HZ, HO, HP, HF, HB, HSc⟩ := hrel
      clear k1
      have k1 := HX.out.c1
      by_cases hkm : k < m
      · have hkz : (k : Int) < (m : Int) := by omega
        obtain ⟨g, hg⟩ := HP.out.addr (by omega)
        subst hg
        obtain ⟨d0, d1⟩ := HP.out.at k hkm
        have hql := HP.out.len
        have hpk := HC.out.2 k (by have := HC.out.1; have := HF.out.1; omega)
        have hsame := HF.out.2.2.2 k (Nat.le_refl _)
        rw [hsame] at d0 d1
        obtain ⟨p, hp⟩ : ∃ p, nth ps k = p := ⟨_, rfl⟩
        rw [hp] at d0 d1 hpk hsame
        obtain ⟨pa, pA, pn, pc⟩ := p
        have HSA := hide hsame
        have hpn : pn ≤ 300000 := by
          have := HLn.out k (by have := HF.out.1; omega)
          have := hpk.2.len
          simp only at this
          omega
        have HQL := hide hql
        clear hp hql hsame
        obtain ⟨W1, hW1⟩ : ∃ W1, W1 = (wr.alloc (.cells #[.int .i64 pa, .slice pA pn pc] 56)).drew := ⟨_, rfl⟩
        have hbw : Below wr.heap.size wr W1 := by rw [hW1]; exact (below_alloc _ _).drew
        have HR1 : Hid (BR W1 pA pn (qn d.wet k).2) := hpk.2.below (Below.then_ HB.out hbw HB.out.size)
        have HX1 := hide (HX.out.below hbw)
        have HZ1 := hide (HZ.out.below hbw)
        have HO1 := hide (HO.out.below hbw)
        have HP1 := hide (HP.out.below hbw)
        have HF1 := hide (HF.out.below hbw)
        have HB1 := hide (Below.then_ HB.out hbw HB.out.size)
        have HS1 := hide (Nat.le_trans HSc.out hbw.size)
        rw [hW1] at HR1 HX1 HZ1 HO1 HP1 HF1 HB1 HS1
        have q1 : (wr.alloc (.cells #[.int .i64 pa, .slice pA pn pc] 56)).cell? ⟨w.heap.size, 1, none⟩ = some (.slice (some ⟨g, 0, none⟩) m e2) := (HX.out.alloc _).c1
        clear hbw hW1 hpk
        go_upto_region 5 with fail
        go_region_with (first
          | (go_at_call 38; refine (cloneB_any _ pA pn pc (qn d.wet k).2 HR1.out hpn).mono ?_; rintro e wB ⟨AB, cB, rfl, hb, ho⟩; have HX2 := hide (HX1.out.below hb); have HZ2 := hide (HZ1.out.below hb); have HO2 := hide (HO1.out.below hb); have HP2 := hide (HP1.out.below hb); have HF2 := hide (HF1.out.below hb); have HB2 := hide (Below.then_ HB1.out hb HB1.out.size); have HS2 := hide (Nat.le_trans HS1.out hb.size); have HOB := hide (ho.mono HS1.out); have m1 := HX2.out.c1; obtain ⟨g0, g1⟩ := HP2.out.at k hkm; have gf := HP2.out.froz (k * 2 + 1); clear hb ho))
        all_goals
          go_wp2_with fail
          go_roundw
          case rel =>
            have hlt := HP2.out.lt
            have hnk : (nth qs k).1 = pa := by rw [HSA.out]
            obtain ⟨h1, h2⟩ := HP2.out.put2 k (pa, AB, pn, cB) hkm hnk
            have hob : OB wc.heap.size (wB.setCell ⟨g, k * 2 + 1, none⟩ (.slice AB pn cB)) AB pn cB (qn d.wet k).2 := HOB.out.page HP2.out h2
            have hdr : OB (w.heap.size + 2) (wB.setCell ⟨g, k * 2 + 1, none⟩ (.slice AB pn cB)) A' n c' d.dry := HO2.out.page HP2.out h2
            refine ⟨k + 1, qs.set k (pa, AB, pn, cB), by go_num, by omega, hide (HX2.out.grown h2 (by intro h; injection h with h; omega)), hide (HZ2.out.grown h2 (by intro h; injection h with h; omega)), hide hdr, hide h1, hide (HF2.out.step HP2.out h2 (by rw [HQL.out]; exact hkm) _ hnk.symm hob), hide (HB2.out.grown h2 HB2.out.size (fun q hq => by injection hq with hq; omega)), hide (Nat.le_trans HS2.out h2.size)⟩
          case measure => simp [intOf]; omega
      · have hkz : ¬ (k : Int) < (m : Int) := by omega
        have hke : k = m := by omega
        have m0 := HX.out.c0
        have m1 := HX.out.c1
        have m2 := HX.out.c2
        have z0 := HZ.out.c0
        have z1 := HZ.out.c1
        have z2 := HZ.out.c2
        have y0 := HZ.out.f 0
        have y1 := HZ.out.f 1
        have y2 := HZ.out.f 2
        go_wp2_with fail
        have hz3 := HZ.out.set0 (u := .slice A' n c') |>.set1 (u := .slice B' m e2) |>.set2 (u := .int .i64 d.left)
        have r0 := hz3.c0
        have r1 := hz3.c1
        have r2 := hz3.c2
        refine bodyPost_ret (v := .agg #[.slice A' n c', .slice B' m e2, .int .i64 d.left]) (by simp [results, Tryd.results44, go_sem, r0, r1, r2]) rfl ⟨A', n, c', B', m, e2, rfl, ?_, ?_⟩
        · have hpo := HF.out.done (by rw [HP.out.len]; omega)
          have hdo : DX (w.heap.size + 2) wr A' n c' B' m e2 d := ⟨HO.out, qs, HP.out, hpo.mono HS.out, fun i hi q hq hq2 => by
            have h1 := HQ0.out q hq
            have h2 := (World.ownsRow.lt (hpo.2 i hi).2 q hq2).1
            omega⟩
          exact ((((hdo.set (by simp)).set (by simp)).set (by simp))).mono (by omega)
        · exact ((HB.out.setCell (by simp) _).setCell (by simp) _).setCell (by simp) _
end Go.Proofs.YthhemdjggdgaaaaDoor
