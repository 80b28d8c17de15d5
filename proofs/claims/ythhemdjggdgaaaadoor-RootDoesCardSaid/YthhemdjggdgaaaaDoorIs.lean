/- Few, is, place, dry. -/
import Derived.Test.YthhemdjggdgaaaaDoorRchk
namespace Go.Proofs.YthhemdjggdgaaaaDoor
open Go.RowKit

/-- Behind a call nothing that lay there has turned: for the walk. -/
theorem bcell {W w1 : World} (hb : Below W.heap.size W w1) : (∀ b o, b < W.heap.size → w1.cell? ⟨b, o, none⟩ = W.cell? ⟨b, o, none⟩) ∧ (∀ b o, b < W.heap.size → w1.frozen? ⟨b, o, none⟩ = W.frozen? ⟨b, o, none⟩) :=
  ⟨fun b o h => hb.cell (p := ⟨b, o, none⟩) h, fun b o h => hb.frozen (p := ⟨b, o, none⟩) h⟩

/-- Small enough to be played. -/
def few (d : Dk) : Bool := d.wet.all (fun p => decide (p.2.length ≤ 100)) && ((decide (d.dry.length ≤ 4000) || (decide (262144 < d.dry.length) && decide (d.dry.length ≤ 262176))) && decide (d.wet.length ≤ 60))
theorem few_bounds {d : Dk} (h : few d = true) : d.dry.length ≤ 262176 ∧ d.wet.length ≤ 60 ∧ (d.dry.length ≤ 4000 ∨ 262144 < d.dry.length) ∧ ∀ i, i < d.wet.length → (qn d.wet i).2.length ≤ 100 := by
  unfold few at h
  simp only [Bool.and_eq_true, Bool.or_eq_true, decide_eq_true_eq, List.all_eq_true] at h
  refine ⟨by omega, by omega, by omega, fun i hi => ?_⟩
  rw [qn_lt hi]
  exact h.1 _ (List.getElem_mem hi)

set_option maxHeartbeats 2000000 in
theorem few_any (w : World) (A : Option Addr) (n c : Nat) (B : Option Addr) (m e' : Nat) (d : Dk) (l : Int) (hr : DR w A n B m d) (hn : n ≤ maxLen) (hm : m ≤ maxLen) :
    Calls Tryd.prog 9 #[.agg #[.slice A n c, .slice B m e', .int .i64 l]] w fun e w' => e = .returned (.bool (few d)) ∧ Below w.heap.size w w' := by
  have hdl := hr.dlen
  have hwl := hr.wlen
  obtain ⟨_, ps, hp, hpc⟩ := hr
  have HP := hide hp
  have HC := hide hpc
  have HPL := hide hp.len
  have HW := hide hwl
  have HD := hide hdl
  unfold maxLen at hn hm
  clear hp hpc hwl hdl
  obtain ⟨w1, hw1⟩ : ∃ w1, w1 = w.alloc (.cells #[.slice A n c, .slice B m e', .int .i64 l] 31) := ⟨_, rfl⟩
  have HB1 : Hid (Below w.heap.size w w1) := by rw [hw1]; exact below_alloc _ _
  have HC0 : Hid (w1.cell? ⟨w.heap.size, 0, none⟩ = some (.slice A n c)) := by rw [hw1]; exact box_cell _ _ _ _ _ rfl
  have HC1 : Hid (w1.cell? ⟨w.heap.size, 1, none⟩ = some (.slice B m e')) := by rw [hw1]; exact box_cell _ _ _ _ _ rfl
  have hsz : w.heap.size < w1.heap.size := by rw [hw1, box_size]; omega
  have HW1 := hide hw1
  clear hw1
  go_enter Tryd.func9, Tryd.ntmps9
  go_wp2_with fail
  go_loopw [8] (fun v wr => ∃ (k : Nat), v = .int .i64 k ∧ k ≤ m ∧ Hid (∀ i, i < k → (qn d.wet i).2.length ≤ 100) ∧ Hid (Below w1.heap.size w1 wr)) (fun v _ => m - (intOf v).toNat)
  case atStart => exact ⟨0, rfl, by omega, fun i hi => by omega, by rw [← HW1.out]; exact Below.refl _ _⟩
  case round =>
    obtain ⟨k, rfl, hk, HU, HB⟩ := hrel
    by_cases hkm : k < m
    · have hkz : (k : Int) < (m : Int) := by omega
      have HPr : Hid (PR wr B m ps) := hide ((HP.out.below HB1.out).below HB.out)
      obtain ⟨ad, rfl, c0, c1⟩ := HPr.out.cell k hkm
      have hpk := HC.out.2 k (by rw [HPL.out]; exact hkm)
      obtain ⟨p, hp⟩ : ∃ p, nth ps k = p := ⟨_, rfl⟩
      rw [hp] at c0 c1 hpk
      obtain ⟨pa, pA, pn, pc⟩ := p
      have HPN : Hid ((qn d.wet k).2.length = pn) := hpk.2.len
      clear hp hpk
      by_cases q1 : 100 < pn
      · have t1 : decide ((100 : Int) < (pn : Int)) = true := decide_eq_true (by omega)
        have F : Hid (few d = false) := by
          show few d = false
          cases hf : few d with
          | false => rfl
          | true => have := (few_bounds hf).2.2.2 k (by rw [HW.out]; exact hkm); rw [HPN.out] at this; omega
        have hpz : ¬ (pn : Int) ≤ 100 := by omega
        clear q1
        go_wp2_with fail
        go_ret
        exact ⟨by rw [F.out]; rfl, (Below.then HB1.out HB.out).alloc (Below.then HB1.out HB.out).size _⟩
      · have t1 : decide ((100 : Int) < (pn : Int)) = false := decide_eq_false (by omega)
        have HU' : Hid (∀ i, i < k + 1 → (qn d.wet i).2.length ≤ 100) := fun i hi => by
          by_cases e : i = k
          · subst e; rw [HPN.out]; omega
          · exact HU.out i (by omega)
        have hpz : (pn : Int) ≤ 100 := by omega
        clear q1
        go_wp2_with fail
        go_roundw
        case rel => exact ⟨k + 1, by go_num, by omega, HU', hide (HB.out.alloc HB.out.size _)⟩
        case measure => simp [intOf]; omega
    · have hkz : ¬ (k : Int) < (m : Int) := by omega
      have hke : k = m := by omega
      have hall : (d.wet.all fun p => decide (p.2.length ≤ 100)) = true := by
        rw [List.all_eq_true]
        intro p hp
        obtain ⟨i, hi, rfl⟩ := List.mem_iff_getElem.1 hp
        have := HU.out i (by rw [hke, ← HW.out]; exact hi)
        rw [qn_lt hi] at this
        exact decide_eq_true this
      have cb := (HB.out.cell (p := ⟨w.heap.size, 0, none⟩) hsz).trans HC0.out
      have cb1 := (HB.out.cell (p := ⟨w.heap.size, 1, none⟩) hsz).trans HC1.out
      have HF : Hid (few d = ((decide (n ≤ 4000) || (decide (262144 < n) && decide (n ≤ 262176))) && decide (m ≤ 60))) := by
        show _ = _
        unfold few; rw [hall, HD.out, HW.out]; rfl
      have hb := hide (Below.then HB1.out HB.out)
      clear hall hke
      by_cases q1 : n ≤ 4000
      · have t1 : decide ((n : Int) ≤ 4000) = true := decide_eq_true (by omega)
        by_cases q2 : m ≤ 60
        · have t2 : decide ((m : Int) ≤ 60) = true := decide_eq_true (by omega)
          have F : Hid (few d = true) := by show _ = _; rw [HF.out, decide_eq_true q1, decide_eq_true q2]; rfl
          clear q1 q2
          go_wp2_with fail
          go_ret
          exact ⟨by rw [F.out]; rfl, hb.out⟩
        · have t2 : decide ((m : Int) ≤ 60) = false := decide_eq_false (by omega)
          have F : Hid (few d = false) := by show _ = _; rw [HF.out, decide_eq_true q1, decide_eq_false q2]; rfl
          clear q1 q2
          go_wp2_with fail
          go_ret
          exact ⟨by rw [F.out]; rfl, hb.out⟩
      · have t1 : decide ((n : Int) ≤ 4000) = false := decide_eq_false (by omega)
        by_cases q3 : 262144 < n
        · have t3 : decide ((262144 : Int) < (n : Int)) = true := decide_eq_true (by omega)
          by_cases q4 : n ≤ 262176
          · have t4 : decide ((n : Int) ≤ 262176) = true := decide_eq_true (by omega)
            by_cases q2 : m ≤ 60
            · have t2 : decide ((m : Int) ≤ 60) = true := decide_eq_true (by omega)
              have F : Hid (few d = true) := by show _ = _; rw [HF.out, decide_eq_false q1, decide_eq_true q2, decide_eq_true q3, decide_eq_true q4]; rfl
              clear q1 q2 q3 q4
              go_wp2_with fail
              go_ret
              exact ⟨by rw [F.out]; rfl, hb.out⟩
            · have t2 : decide ((m : Int) ≤ 60) = false := decide_eq_false (by omega)
              have F : Hid (few d = false) := by show _ = _; rw [HF.out, decide_eq_false q2]; simp
              clear q1 q2 q3 q4
              go_wp2_with fail
              go_ret
              exact ⟨by rw [F.out]; rfl, hb.out⟩
          · have t4 : decide ((n : Int) ≤ 262176) = false := decide_eq_false (by omega)
            have F : Hid (few d = false) := by show _ = _; rw [HF.out, decide_eq_false q1, decide_eq_false q4]; simp
            clear q1 q3 q4
            go_wp2_with fail
            go_ret
            exact ⟨by rw [F.out]; rfl, hb.out⟩
        · have t3 : decide ((262144 : Int) < (n : Int)) = false := decide_eq_false (by omega)
          have F : Hid (few d = false) := by show _ = _; rw [HF.out, decide_eq_false q1, decide_eq_false q3]; simp
          clear q1 q3
          go_wp2_with fail
          go_ret
          exact ⟨by rw [F.out]; rfl, hb.out⟩

/-- There is such a sector. -/
def Is (d : Dk) (at_ : Int) : Prop := Good d ∧ 0 ≤ at_ ∧ at_ < d.n
open Classical in
noncomputable def isx (d : Dk) (at_ : Int) : Int := if Is d at_ then 0 else 1
theorem isx_zero {d : Dk} {k : Int} (h : Is d k) : isx d k = 0 := by unfold isx; rw [if_pos h]
theorem isx_one {d : Dk} {k : Int} (h : ¬ Is d k) : isx d k = 1 := by unfold isx; rw [if_neg h]

theorem is_any (w : World) (A : Option Addr) (n c : Nat) (B : Option Addr) (m e' : Nat) (d : Dk) (k : Int) (hr : DR w A n B m d) (hn : n ≤ 300000) (hm : m ≤ 1000) :
    Calls Tryd.prog 37 #[.agg #[.slice A n c, .slice B m e', .int .i64 d.left], .int .i64 k] w fun e w' => e = .returned (.int .i64 (isx d k)) ∧ Below w.heap.size w w' := by
  have hdl := hr.dlen
  have HR := hide hr
  obtain ⟨N, hN⟩ : ∃ N, d.n = N := ⟨_, rfl⟩
  have hN2 : n / 32 = N := by rw [← hN, ← hdl]; rfl
  have HN := hide hN
  have hdiv : (n : Int) / 32 = (N : Int) := by omega
  clear hr hdl hN hN2
  by_cases q1 : k < 0
  · have t1 : decide (k < 0) = true := decide_eq_true q1
    have F : Hid (isx d k = 1) := isx_one (fun h => by have := h.2.1; omega)
    clear q1
    go_enter Tryd.func37, Tryd.ntmps37
    go_wp2_with fail
    go_ret
    exact ⟨by rw [F.out]; rfl, below_alloc _ _⟩
  · have t1 : decide (k < 0) = false := decide_eq_false q1
    by_cases q2 : (N : Int) ≤ k
    · have t2 : decide ((N : Int) ≤ k) = true := decide_eq_true q2
      have F : Hid (isx d k = 1) := isx_one (fun h => by have := h.2.2; rw [HN.out] at this; omega)
      clear q1 q2
      go_enter Tryd.func37, Tryd.ntmps37
      go_wp2_with fail
      go_ret
      exact ⟨by rw [F.out]; rfl, below_alloc _ _⟩
    · have t2 : decide ((N : Int) ≤ k) = false := decide_eq_false q2
      have F : Hid (isx d k = chk d) := by
        show _ = _
        rcases Classical.em (Good d) with h | h
        · rw [chk_zero h, isx_zero ⟨h, by omega, by rw [HN.out]; omega⟩]
        · rw [chk_one h, isx_one (fun hh => h hh.1)]
      clear q1 q2
      go_enter Tryd.func37, Tryd.ntmps37
      go_wp2_with (first | (go_at_call 43; refine (check_any _ _ _ _ _ _ _ d (HR.out.below (below_alloc _ _)) hn hm).mono ?_; rintro e w' ⟨rfl, hb⟩; have HB := hide hb; clear hb))
      go_ret
      exact ⟨by rw [F.out]; rfl, Below.then (below_alloc _ _) HB.out⟩

noncomputable def isb (d : Dk) (k : Int) : Bool := isx d k == 0
theorem isb_true {d : Dk} {k : Int} (h : Is d k) : isb d k = true := by unfold isb; rw [isx_zero h]; rfl
theorem isb_false {d : Dk} {k : Int} (h : ¬ Is d k) : isb d k = false := by unfold isb; rw [isx_one h]; rfl
theorem ris_any (w : World) (A : Option Addr) (n c : Nat) (B : Option Addr) (m e' : Nat) (d : Dk) (k : Int) (hr : DR w A n B m d) (hn : n ≤ 300000) (hm : m ≤ 1000) :
    Calls Tryd.prog 50 #[.agg #[.slice A n c, .slice B m e', .int .i64 d.left], .int .i64 k] w fun e w' => e = .returned (.bool (isb d k)) ∧ Below w.heap.size w w' := by
  have hdl := hr.dlen
  have HR := hide hr
  obtain ⟨N, hN⟩ : ∃ N, d.n = N := ⟨_, rfl⟩
  have hN2 : n / 32 = N := by rw [← hN, ← hdl]; rfl
  have HN := hide hN
  have hdiv : (n : Int) / 32 = (N : Int) := by omega
  clear hr hdl hN hN2
  by_cases hg : Good d
  · have HC := hide (chk_zero hg)
    by_cases q1 : 0 ≤ k
    · have t1 : decide (0 ≤ k) = true := decide_eq_true q1
      by_cases q2 : k < (N : Int)
      · have t2 : decide (k < (N : Int)) = true := decide_eq_true q2
        have F : Hid (isb d k = true) := isb_true ⟨hg, q1, by rw [HN.out]; exact q2⟩
        clear q1 q2 hg
        go_enter Tryd.func50, Tryd.ntmps50
        go_wp2_with (first | (go_at_call 32; refine (rcheck_any _ _ _ _ _ _ _ d (HR.out.below (below_alloc _ _)) hn hm).mono ?_; rintro e w' ⟨rfl, hb⟩; obtain ⟨hc, hf⟩ := bcell hb; have HB := hide hb; clear hb; rw [HC.out]))
        go_ret
        exact ⟨by rw [F.out]; rfl, Below.then (below_alloc _ _) HB.out⟩
      · have t2 : decide (k < (N : Int)) = false := decide_eq_false q2
        have F : Hid (isb d k = false) := isb_false (fun h => by have := h.2.2; rw [HN.out] at this; exact q2 this)
        clear q1 q2 hg
        go_enter Tryd.func50, Tryd.ntmps50
        go_wp2_with (first | (go_at_call 32; refine (rcheck_any _ _ _ _ _ _ _ d (HR.out.below (below_alloc _ _)) hn hm).mono ?_; rintro e w' ⟨rfl, hb⟩; obtain ⟨hc, hf⟩ := bcell hb; have HB := hide hb; clear hb; rw [HC.out]))
        go_ret
        exact ⟨by rw [F.out]; rfl, Below.then (below_alloc _ _) HB.out⟩
    · have t1 : decide (0 ≤ k) = false := decide_eq_false q1
      have F : Hid (isb d k = false) := isb_false (fun h => q1 h.2.1)
      clear q1 hg
      go_enter Tryd.func50, Tryd.ntmps50
      go_wp2_with (first | (go_at_call 32; refine (rcheck_any _ _ _ _ _ _ _ d (HR.out.below (below_alloc _ _)) hn hm).mono ?_; rintro e w' ⟨rfl, hb⟩; obtain ⟨hc, hf⟩ := bcell hb; have HB := hide hb; clear hb; rw [HC.out]))
      go_ret
      exact ⟨by rw [F.out]; rfl, Below.then (below_alloc _ _) HB.out⟩
  · have HC := hide (chk_one hg)
    have F : Hid (isb d k = false) := isb_false (fun h => hg h.1)
    clear hg
    go_enter Tryd.func50, Tryd.ntmps50
    go_wp2_with (first | (go_at_call 32; refine (rcheck_any _ _ _ _ _ _ _ d (HR.out.below (below_alloc _ _)) hn hm).mono ?_; rintro e w' ⟨rfl, hb⟩; obtain ⟨hc, hf⟩ := bcell hb; have HB := hide hb; clear hb; rw [HC.out]))
    go_ret
    exact ⟨by rw [F.out]; rfl, Below.then (below_alloc _ _) HB.out⟩
end Go.Proofs.YthhemdjggdgaaaaDoor
