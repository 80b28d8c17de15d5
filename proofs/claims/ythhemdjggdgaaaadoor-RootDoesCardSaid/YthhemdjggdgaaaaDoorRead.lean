/- Reading. -/
import Derived.Test.YthhemdjggdgaaaaDoorCopy
namespace Go.Proofs.YthhemdjggdgaaaaDoor
open Go.RowKit
set_option linter.unusedVariables false

/-- What is read at a sector. -/
def readB (d : Dk) (k : Int) : Bs := ((d.wet.find? (fun p => p.1 == k)).map (·.2)).getD (sect d.dry k.toNat)
open Classical in
noncomputable def readS (d : Dk) (k : Int) : Bs × Int := if Is d k then (readB d k, 0) else ([], 1)
theorem readS_ok {d : Dk} {k : Int} (h : Is d k) : readS d k = (readB d k, 0) := by unfold readS; rw [if_pos h]
theorem readS_bad {d : Dk} {k : Int} (h : ¬ Is d k) : readS d k = ([], 1) := by unfold readS; rw [if_neg h]
theorem qn_mem {qs : Wet} {p : Int × Bs} (h : p ∈ qs) : ∃ i, i < qs.length ∧ qn qs i = p := by
  obtain ⟨i, hi, rfl⟩ := List.mem_iff_getElem.1 h
  exact ⟨i, hi, qn_lt hi⟩
theorem find_at {d : Dk} (h : Good d) {i : Nat} (hi : i < d.wet.length) : d.wet.find? (fun p => p.1 == (qn d.wet i).1) = some (qn d.wet i) := by
  rw [List.find?_eq_some_iff_getElem]
  refine ⟨by simp, i, hi, (qn_lt hi).symm, fun j hj => ?_⟩
  have := h.lt j i hj hi
  rw [qn_lt (by omega : j < d.wet.length)] at this
  simp only [Bool.not_eq_eq_eq_not, Bool.not_true, beq_eq_false_iff_ne]
  omega
theorem readB_at {d : Dk} (h : Good d) {i : Nat} (hi : i < d.wet.length) : readB d (qn d.wet i).1 = (qn d.wet i).2 := by
  unfold readB; rw [find_at h hi]; rfl
theorem find_none {qs : Wet} {k : Int} (h : ∀ i, i < qs.length → (qn qs i).1 ≠ k) : qs.find? (fun p => p.1 == k) = none := by
  rw [List.find?_eq_none]
  intro p hp
  obtain ⟨i, hi, rfl⟩ := qn_mem hp
  simpa using h i hi
theorem readB_none {d : Dk} {k : Int} (h : ∀ i, i < d.wet.length → (qn d.wet i).1 ≠ k) : readB d k = sect d.dry k.toNat := by
  unfold readB; rw [find_none h]; rfl
theorem asc_of {d : Dk} {w : World} {ps : List Pg} (h : Good d) (hp : PC w ps d.wet) : Asc ps := by
  intro i j hij hj
  rw [(hp.2 i (by omega)).1, (hp.2 j hj).1]
  by_cases e : i = j
  · subst e; exact Int.le_refl _
  · exact Int.le_of_lt (h.lt i j (by omega) (by rw [← hp.1]; exact hj))
/-- The page is there. -/
theorem there_yes {ps : List Pg} {k : Int} {i : Nat} (h : there ps k i = true) : i < ps.length ∧ (nth ps i).1 = k := by
  unfold there at h; simpa using h
/-- There is none. -/
theorem there_no {ps : List Pg} {d : Dk} {w : World} {k : Int} {i : Nat} (hg : Good d) (hp : PC w ps d.wet) (ha : At ps k i) (h : there ps k i = false) : ∀ j, j < d.wet.length → (qn d.wet j).1 ≠ k := by
  intro j hj he
  have hjl : j < ps.length := by rw [hp.1]; exact hj
  have hpj : (nth ps j).1 = k := by rw [(hp.2 j hjl).1, he]
  by_cases h1 : j < i
  · have := ha.2.1 j h1; omega
  · have hin : i < ps.length := by omega
    have h2 := ha.2.2 i (Nat.le_refl _) hin
    have h3 := asc_of hg hp i j (by omega) hjl
    have h4 : (nth ps i).1 = k := by omega
    unfold there at h
    rw [decide_eq_true hin, h4] at h
    simp at h
theorem Good.len32 {d : Dk} (h : Good d) : ∀ i, i < d.wet.length → (qn d.wet i).2.length ≤ 300000 := fun i hi => by rw [h.len i hi]; omega

/-- Octets of one's own, and a number. -/
def RPost (w : World) (bs : Bs) (x : Int) (e : Ending) (w' : World) : Prop :=
  ∃ (A : Option Addr) (n c : Nat), e = .returned (.tuple #[.slice A n c, .int .i64 x]) ∧ OB w.heap.size w' A n c bs ∧ Below w.heap.size w w'

set_option maxRecDepth 100000 in
set_option maxHeartbeats 2000000 in
theorem read_any (w : World) (A : Option Addr) (n c : Nat) (B : Option Addr) (m e' : Nat) (d : Dk) (k : Int) (hr : DR w A n B m d) (hn : n ≤ 300000) (hm : m ≤ 1000) (hc : n ≤ c) :
    Calls Tryd.prog 25 #[.agg #[.slice A n c, .slice B m e', .int .i64 d.left], .int .i64 k] w (RPost w (readS d k).1 (readS d k).2) := by
  have HR := hide hr
  clear hr
  by_cases hi : Is d k
  · have HX := hide (isx_zero hi)
    have HS := hide (readS_ok hi)
    have HG := hide hi.1
    obtain ⟨kn, rfl⟩ : ∃ kn : Nat, k = kn := ⟨k.toNat, by have := hi.2.1; omega⟩
    have hkn : (kn + 1) * 32 ≤ n := by
      have h1 := hi.2.2
      have h2 := hi.1.whole
      rw [HR.out.dlen] at h2
      omega
    clear hi
    go_enter Tryd.func25, Tryd.ntmps25
    go_wp2_with (go_at_call 37; refine (is_any _ _ _ _ _ _ _ d kn (HR.out.alloc _) hn hm).mono ?_; rintro e w1 ⟨rfl, hb⟩; have X1 := (Bx.made w (.slice A n c) (.slice B m e') (.int .i64 d.left)).below hb; have k0 := X1.c0; have k1 := X1.c1; have k2 := X1.c2; have HX1 := hide X1; have HR1 := hide ((HR.out.alloc _).below hb); have HB1 := hide (Below.then (below_alloc _ _) hb); clear hb X1; rw [HX.out])
    obtain ⟨hd, ps, hp, hpc⟩ := HR1.out
    refine (place_any _ A n c B m e' d.left ps kn hp (asc_of HG.out hpc) hm).mono ?_
    rintro e w2 ⟨i, rfl, hat, hb⟩
    have HD := hide (hd.below hb)
    have HP := hide (hp.below hb)
    have HC := hide (hpc.below hb)
    have X2 := HX1.out.below hb
    have j0 := X2.c0
    have j1 := X2.c1
    have j2 := X2.c2
    have HX2 := hide X2
    have HB2 := hide (Below.then HB1.out hb)
    have HA := hide hat
    clear hd hp hpc hb hat X2 k0 k1 k2
    cases ht : there ps kn i with
    | true =>
      have hy := there_yes ht
      have him : i < m := by rw [← HP.out.len]; exact hy.1
      have hiz : (i : Int) < (m : Int) := by omega
      obtain ⟨ad, rfl, c0, c1⟩ := HP.out.cell i him
      have hpk := HC.out.2 i hy.1
      have hwi : i < d.wet.length := by rw [← HC.out.1]; exact hy.1
      have HRB : Hid (readB d kn = (qn d.wet i).2) := by
        show _ = _
        rw [← hy.2, hpk.1]; exact readB_at HG.out hwi
      have hl32 := HG.out.len i hwi
      obtain ⟨p, hp⟩ : ∃ p, nth ps i = p := ⟨_, rfl⟩
      rw [hp] at c0 c1 hpk
      obtain ⟨pa, pA, pn, pc⟩ := p
      have hpn : pn ≤ 300000 := by have := hpk.2.len; simp only at this; omega
      have HPK := hide hpk.2
      clear ht hy hp hpk hl32
      go_wp2_with (go_at_call 38; refine (cloneB_any _ pA pn pc _ HPK.out hpn).mono ?_; rintro e w3 ⟨A3, c3, rfl, hb, ho⟩; have HB3 := hide hb; have HO := hide ho; clear hb ho)
      go_ret2
      rw [HS.out, HRB.out]
      exact ⟨A3, pn, c3, rfl, HO.out.mono HB2.out.size, Below.then HB2.out HB3.out⟩
    | false =>
      have HRB : Hid (readB d kn = sect d.dry kn) := readB_none (there_no HG.out HC.out HA.out ht)
      obtain ⟨ad, hA, _⟩ := HD.out.cell 0 (by omega)
      subst hA
      clear ht
      go_wp2_with (first | (go_at_call 47; refine (dry_any _ (some ad) n c B m e' d.left kn hkn hc hn ad rfl).mono ?_; rintro e w3 ⟨rfl, hb⟩; have HB3 := hide hb; have HD3 := hide ((HD.out.below hb).part (kn * 32) 32 (by omega) (some (ad.add (kn * 32))) (fun _ ad' h => by injection h with h; rw [h])); clear hb) | (go_at_call 38; refine (cloneB_any _ (some (ad.add (kn * 32))) 32 32 _ HD3.out (by omega)).mono ?_; rintro e w4 ⟨A4, c4, rfl, hb, ho⟩; have HB4 := hide hb; have HO := hide ho; clear hb ho))
      go_ret2
      rw [HS.out, HRB.out]
      exact ⟨A4, 32, c4, rfl, HO.out.mono (Nat.le_trans HB2.out.size HB3.out.size), Below.then (Below.then HB2.out HB3.out) HB4.out⟩
  · have HX := hide (isx_one hi)
    have HS := hide (readS_bad hi)
    clear hi
    go_enter Tryd.func25, Tryd.ntmps25
    go_wp2_with (go_at_call 37; refine (is_any _ _ _ _ _ _ _ d k (HR.out.alloc _) hn hm).mono ?_; rintro e w1 ⟨rfl, hb⟩; have HB1 := hide (Below.then (below_alloc _ _) hb); clear hb; rw [HX.out])
    go_ret2
    rw [HS.out]
    exact ⟨none, 0, 0, rfl, OB.nil _ _, HB1.out⟩
end Go.Proofs.YthhemdjggdgaaaaDoor
