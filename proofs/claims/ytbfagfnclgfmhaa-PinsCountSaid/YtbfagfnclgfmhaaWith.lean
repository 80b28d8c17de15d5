import Derived.Test.YtbfagfnclgfmhaaRmany
import Derived.Test.YtbfagfnclgfmhaaOpn
namespace Go.Proofs.Ytbfagfnclgfmhaa
set_option linter.unusedVariables false
open Go.RowKit

def flt (f : Pin → Bool) (ps : List Pin) (k : Nat) : List Pin := (ps.take k).filter f
theorem flt_zero (f : Pin → Bool) (ps : List Pin) : flt f ps 0 = [] := by unfold flt; simp
theorem flt_all (f : Pin → Bool) (ps : List Pin) {n : Nat} (h : ps.length ≤ n) : flt f ps n = ps.filter f := by unfold flt; rw [List.take_of_length_le h]
theorem flt_yes {f : Pin → Bool} {ps : List Pin} {k : Nat} (hk : k < ps.length) (h : f (nth ps k) = true) : flt f ps (k + 1) = flt f ps k ++ [nth ps k] := by
  unfold flt
  rw [List.take_succ_eq_append_getElem hk, List.filter_append, ← nth_lt hk]
  simp [h]
theorem flt_no {f : Pin → Bool} {ps : List Pin} {k : Nat} (hk : k < ps.length) (h : f (nth ps k) = false) : flt f ps (k + 1) = flt f ps k := by
  unfold flt
  rw [List.take_succ_eq_append_getElem hk, List.filter_append, ← nth_lt hk]
  simp [h]
theorem flt_len (f : Pin → Bool) (ps : List Pin) (k : Nat) : (flt f ps k).length ≤ k := by
  unfold flt
  exact Nat.le_trans (List.length_filter_le _ _) (List.length_take_le _ _)

/-- What an append of one pin leaves. -/
theorem app_one {base : Nat} {W w1 : World} {A : Option Addr} {n c : Nat} {qs : List Pin} {p : Pin} {v : Value} (hown : w1.ownsRow base 41 2 v (n + 1) (pcs qs ++ pcs [p])) :
    ∃ A' c', v = .slice A' (n + 1) c' ∧ Own base w1 A' (n + 1) c' (qs ++ [p]) := by
  rw [← pcs_append] at hown
  rcases hown.2 with ⟨rfl, h0⟩ | ⟨g, cap, cur, rfl, _⟩
  · omega
  · exact ⟨_, _, rfl, hown⟩

def WithPost (w : World) (qs : List Pin) (e : Ending) (w' : World) : Prop :=
  ∃ (A' : Option Addr) (n' c' : Nat), e = .returned (.slice A' n' c') ∧ Own w.heap.size w' A' n' c' qs ∧ Below w.heap.size w w'

def lo (gen : Nat) (p : Pin) : Bool := decide (p.1 < gen)
def hi (gen : Nat) (p : Pin) : Bool := decide (gen < p.1)


set_option maxHeartbeats 2000000 in
theorem with_pos (w : World) (A : Option Addr) (n c : Nat) (ps : List Pin) (gen : Nat) (m : Int) (hm : 0 < m) (hr : PR w A n ps) (hn : n ≤ 1000) :
    Calls Try.prog 33 #[.slice A n c, .int .u64 gen, .int .i64 m] w (WithPost w (wth ps gen m)) := by
  obtain ⟨i0, hi0, hz0, hz1, hz2⟩ := info_parts pin_info
  have HR := hide hr
  have HL := hide hr.len
  clear hr
  obtain ⟨pre, hpre⟩ : ∃ pre, ps.filter (lo gen) ++ [(gen, m)] = pre := ⟨_, rfl⟩
  have HW : Hid (wth ps gen m = pre ++ ps.filter (hi gen)) := by
    show _ = _
    rw [← hpre]
    unfold wth
    rw [if_pos hm]
    rfl
  have HPRE := hide hpre
  clear hpre
  go_enter Try.func33, Try.ntmps33
  go_wp2_with fail
  go_loopw [7, 14] (fun s v wr => ∃ (k : Nat) (A' : Option Addr) (n' c' : Nat), s = .slice A' n' c' ∧ v = .int .i64 k ∧ k ≤ n ∧ n' ≤ k ∧ Hid (Own w.heap.size wr A' n' c' (flt (lo gen) ps k)) ∧ Hid (Below w.heap.size w wr)) (fun _ v _ => n - (intOf v).toNat)
  case atStart => exact ⟨0, none, 0, 0, rfl, rfl, by omega, by omega, by rw [flt_zero]; exact Own.nil _ _, Below.refl _ _⟩
  case round =>
    obtain ⟨k, A', n', c', rfl, rfl, hk, hnk, HO, HB⟩ := hrel
    by_cases hkn : k < n
    · have hkz : (k : Int) < (n : Int) := by omega
      obtain ⟨ad, rfl, c0, c1⟩ := (HR.out.below HB.out).cell k hkn
      obtain ⟨p, hp⟩ : ∃ p, nth ps k = p := ⟨_, rfl⟩
      rw [hp] at c0 c1
      have HP := hide hp
      clear hp
      obtain ⟨pg, pn⟩ := p
      by_cases hpg : pg < gen
      · have t2 : decide ((pg : Int) < (gen : Int)) = true := decide_eq_true (by omega)
        have HF : Hid (flt (lo gen) ps (k + 1) = (flt (lo gen) ps k) ++ [(pg, pn)]) := by
          have := flt_yes (f := lo gen) (ps := ps) (k := k) (by rw [HL.out]; exact hkn) (by rw [HP.out]; exact decide_eq_true hpg)
          rw [HP.out] at this
          show _ = _
          exact this
        have O1 : Hid (Own w.heap.size ((wr.alloc (.cells #[.int .u64 pg, .int .i64 pn] 41)).alloc (.cells #[.int .u64 pg, .int .i64 pn] 41)) A' n' c' (flt (lo gen) ps k)) := (HO.out.alloc _).alloc _
        have R1 : Hid (PR ((wr.alloc (.cells #[.int .u64 pg, .int .i64 pn] 41)).alloc (.cells #[.int .u64 pg, .int .i64 pn] 41)) (some ⟨wr.heap.size + 1, 0, none⟩) 1 [(pg, pn)]) := by
          have := (Own.made (wr.alloc (.cells #[.int .u64 pg, .int .i64 pn] 41)) (pg, pn)).reads
          rw [show (wr.alloc (.cells #[.int .u64 pg, .int .i64 pn] 41)).heap.size = wr.heap.size + 1 from by simp] at this
          exact this
        have B1 : Hid (Below w.heap.size w ((wr.alloc (.cells #[.int .u64 pg, .int .i64 pn] 41)).alloc (.cells #[.int .u64 pg, .int .i64 pn] 41))) := (HB.out.alloc HB.out.size _).alloc (by have := HB.out.size; simp; omega) _
        go_wp2_with (at_builtin; refine wpList_append_any _ rfl (.tmp 22) (.tmp 24) _ rfl w.heap.size 41 i0 _ 2 16 Try.underlying24 hi0 hz0 hz1 hz2 rfl (by omega) (.slice A' n' c') n' (pcs (flt (lo gen) ps k)) rfl O1.out _ _ 1 1 (pcs [(pg, pn)]) rfl R1.out (one_pin _) (by simp only [maxLen]; omega) (by omega) B1.out.size ?_; intro v1 w1 hown1 hg1 hat1; obtain ⟨A2, c2, rfl, ho1⟩ := app_one (W := w1) (A := none) (c := 0) hown1; rw [← HF.out] at ho1; have HO1 := hide ho1; have HG1 := hide hg1; clear hown1 hg1 hat1 ho1)
        go_roundw
        case rel => exact ⟨k + 1, A2, n' + 1, c2, rfl, by go_num, by omega, by omega, HO1, hide (B1.out.grown HG1.out B1.out.size (fun q hq => (World.ownsRow.lt O1.out q hq).1))⟩
        case measure => simp [intOf]; omega
      · have t2 : decide ((pg : Int) < (gen : Int)) = false := decide_eq_false (by omega)
        have HF : Hid (flt (lo gen) ps (k + 1) = flt (lo gen) ps k) := by
          show _ = _
          rw [flt_no (f := lo gen) (ps := ps) (k := k) (by rw [HL.out]; exact hkn) (by rw [HP.out]; exact decide_eq_false hpg)]
        go_wp2_with fail
        go_roundw
        case rel => exact ⟨k + 1, A', n', c', rfl, by go_num, by omega, by omega, by rw [HF.out]; exact HO.out.alloc _, hide (HB.out.alloc HB.out.size _)⟩
        case measure => simp [intOf]; omega
    · have hkz : ¬ (k : Int) < (n : Int) := by omega
      have hke : Hid (k = n) := by show _ = _; omega
      have HF : Hid (pre = flt (lo gen) ps k ++ [(gen, m)]) := by
        show _ = _
        rw [← HPRE.out, hke.out, flt_all _ _ (by rw [HL.out]; exact Nat.le_refl _)]
      have O1 : Hid (Own w.heap.size (wr.alloc (.cells #[.int .u64 gen, .int .i64 m] 41)) A' n' c' (flt (lo gen) ps k)) := HO.out.alloc _
      have R1 : Hid (PR (wr.alloc (.cells #[.int .u64 gen, .int .i64 m] 41)) (some ⟨wr.heap.size, 0, none⟩) 1 [(gen, m)]) := (Own.made wr (gen, m)).reads
      have B1 : Hid (Below w.heap.size w (wr.alloc (.cells #[.int .u64 gen, .int .i64 m] 41))) := HB.out.alloc HB.out.size _
      go_wp2_with (at_builtin; refine wpList_append_any _ rfl (.tmp 29) (.tmp 33) _ rfl w.heap.size 41 i0 _ 2 16 Try.underlying24 hi0 hz0 hz1 hz2 rfl (by omega) (.slice A' n' c') n' (pcs (flt (lo gen) ps k)) rfl O1.out _ _ 1 1 (pcs [(gen, m)]) rfl R1.out (one_pin _) (by simp only [maxLen]; omega) (by omega) B1.out.size ?_; intro v1 w1 hown1 hg1 hat1; obtain ⟨A2, c2, rfl, ho1⟩ := app_one (W := w1) (A := none) (c := 0) hown1; rw [← HF.out] at ho1; have HO1 := hide ho1; have HG1 := hide hg1; clear hown1 hg1 hat1 ho1)
      have HB2 : Hid (Below w.heap.size w w1) := hide (B1.out.grown HG1.out B1.out.size (fun q hq => (World.ownsRow.lt O1.out q hq).1))
      have hn2 : n' + 1 ≤ n + 1 := by omega
      clear O1 R1 B1 HG1 HO HB HF
      have HO := HO1
      have HB := HB2
      clear HO1 HB2
      go_loopw [7, 37] (fun s v wr => ∃ (k : Nat) (A' : Option Addr) (n' c' : Nat), s = .slice A' n' c' ∧ v = .int .i64 k ∧ k ≤ n ∧ n' ≤ n + 1 + k ∧ Hid (Own w.heap.size wr A' n' c' (pre ++ flt (hi gen) ps k)) ∧ Hid (Below w.heap.size w wr)) (fun _ v _ => n - (intOf v).toNat)
      case atStart => exact ⟨0, A2, n' + 1, c2, rfl, rfl, by omega, by omega, by rw [flt_zero, List.append_nil]; exact HO, HB⟩
      case round =>
        obtain ⟨k, A', n', c', rfl, rfl, hk, hnk, HO, HB⟩ := hrel
        by_cases hkn : k < n
        · have hkz : (k : Int) < (n : Int) := by omega
          obtain ⟨ad, rfl, c0, c1⟩ := (HR.out.below HB.out).cell k hkn
          obtain ⟨p, hp⟩ : ∃ p, nth ps k = p := ⟨_, rfl⟩
          rw [hp] at c0 c1
          have HP := hide hp
          clear hp
          obtain ⟨pg, pn⟩ := p
          by_cases hpg : gen < pg
          · have t2 : decide ((gen : Int) < (pg : Int)) = true := decide_eq_true (by omega)
            have HF : Hid (pre ++ flt (hi gen) ps (k + 1) = (pre ++ flt (hi gen) ps k) ++ [(pg, pn)]) := by
              have := flt_yes (f := hi gen) (ps := ps) (k := k) (by rw [HL.out]; exact hkn) (by rw [HP.out]; exact decide_eq_true hpg)
              rw [HP.out] at this
              show _ = _
              rw [this, List.append_assoc]
            have O1 : Hid (Own w.heap.size ((wr.alloc (.cells #[.int .u64 pg, .int .i64 pn] 41)).alloc (.cells #[.int .u64 pg, .int .i64 pn] 41)) A' n' c' (pre ++ flt (hi gen) ps k)) := (HO.out.alloc _).alloc _
            have R1 : Hid (PR ((wr.alloc (.cells #[.int .u64 pg, .int .i64 pn] 41)).alloc (.cells #[.int .u64 pg, .int .i64 pn] 41)) (some ⟨wr.heap.size + 1, 0, none⟩) 1 [(pg, pn)]) := by
              have := (Own.made (wr.alloc (.cells #[.int .u64 pg, .int .i64 pn] 41)) (pg, pn)).reads
              rw [show (wr.alloc (.cells #[.int .u64 pg, .int .i64 pn] 41)).heap.size = wr.heap.size + 1 from by simp] at this
              exact this
            have B1 : Hid (Below w.heap.size w ((wr.alloc (.cells #[.int .u64 pg, .int .i64 pn] 41)).alloc (.cells #[.int .u64 pg, .int .i64 pn] 41))) := (HB.out.alloc HB.out.size _).alloc (by have := HB.out.size; simp; omega) _
            go_wp2_with (at_builtin; refine wpList_append_any _ rfl (.tmp 45) (.tmp 47) _ rfl w.heap.size 41 i0 _ 2 16 Try.underlying24 hi0 hz0 hz1 hz2 rfl (by omega) (.slice A' n' c') n' (pcs (pre ++ flt (hi gen) ps k)) rfl O1.out _ _ 1 1 (pcs [(pg, pn)]) rfl R1.out (one_pin _) (by simp only [maxLen]; omega) (by omega) B1.out.size ?_; intro v1 w1 hown1 hg1 hat1; obtain ⟨A2, c2, rfl, ho1⟩ := app_one (W := w1) (A := none) (c := 0) hown1; rw [← HF.out] at ho1; have HO1 := hide ho1; have HG1 := hide hg1; clear hown1 hg1 hat1 ho1)
            go_roundw
            case rel => exact ⟨k + 1, A2, n' + 1, c2, rfl, by go_num, by omega, by omega, HO1, hide (B1.out.grown HG1.out B1.out.size (fun q hq => (World.ownsRow.lt O1.out q hq).1))⟩
            case measure => simp [intOf]; omega
          · have t2 : decide ((gen : Int) < (pg : Int)) = false := decide_eq_false (by omega)
            have HF : Hid (pre ++ flt (hi gen) ps (k + 1) = pre ++ flt (hi gen) ps k) := by
              show _ = _
              rw [flt_no (f := hi gen) (ps := ps) (k := k) (by rw [HL.out]; exact hkn) (by rw [HP.out]; exact decide_eq_false hpg)]
            go_wp2_with fail
            go_roundw
            case rel => exact ⟨k + 1, A', n', c', rfl, by go_num, by omega, by omega, by rw [HF.out]; exact HO.out.alloc _, hide (HB.out.alloc HB.out.size _)⟩
            case measure => simp [intOf]; omega
        · have hkz : ¬ (k : Int) < (n : Int) := by omega
          have hke : Hid (k = n) := by show _ = _; omega
          go_wp2_with fail
          go_ret
          have ho := HO.out
          rw [hke.out, flt_all _ _ (by rw [HL.out]; exact Nat.le_refl _)] at ho
          refine ⟨A', n', c', rfl, ?_, HB.out⟩
          rw [HW.out]
          exact ho

set_option maxHeartbeats 2000000 in
theorem with_non (w : World) (A : Option Addr) (n c : Nat) (ps : List Pin) (gen : Nat) (m : Int) (hm : ¬ 0 < m) (hr : PR w A n ps) (hn : n ≤ 1000) :
    Calls Try.prog 33 #[.slice A n c, .int .u64 gen, .int .i64 m] w (WithPost w (wth ps gen m)) := by
  obtain ⟨i0, hi0, hz0, hz1, hz2⟩ := info_parts pin_info
  have HR := hide hr
  have HL := hide hr.len
  clear hr
  obtain ⟨pre, hpre⟩ : ∃ pre, ps.filter (lo gen) ++ [] = pre := ⟨_, rfl⟩
  have HW : Hid (wth ps gen m = pre ++ ps.filter (hi gen)) := by
    show _ = _
    rw [← hpre]
    unfold wth
    rw [if_neg hm]
    rfl
  have HPRE := hide hpre
  clear hpre
  go_enter Try.func33, Try.ntmps33
  go_wp2_with fail
  go_loopw [7, 14] (fun s v wr => ∃ (k : Nat) (A' : Option Addr) (n' c' : Nat), s = .slice A' n' c' ∧ v = .int .i64 k ∧ k ≤ n ∧ n' ≤ k ∧ Hid (Own w.heap.size wr A' n' c' (flt (lo gen) ps k)) ∧ Hid (Below w.heap.size w wr)) (fun _ v _ => n - (intOf v).toNat)
  case atStart => exact ⟨0, none, 0, 0, rfl, rfl, by omega, by omega, by rw [flt_zero]; exact Own.nil _ _, Below.refl _ _⟩
  case round =>
    obtain ⟨k, A', n', c', rfl, rfl, hk, hnk, HO, HB⟩ := hrel
    by_cases hkn : k < n
    · have hkz : (k : Int) < (n : Int) := by omega
      obtain ⟨ad, rfl, c0, c1⟩ := (HR.out.below HB.out).cell k hkn
      obtain ⟨p, hp⟩ : ∃ p, nth ps k = p := ⟨_, rfl⟩
      rw [hp] at c0 c1
      have HP := hide hp
      clear hp
      obtain ⟨pg, pn⟩ := p
      by_cases hpg : pg < gen
      · have t2 : decide ((pg : Int) < (gen : Int)) = true := decide_eq_true (by omega)
        have HF : Hid (flt (lo gen) ps (k + 1) = (flt (lo gen) ps k) ++ [(pg, pn)]) := by
          have := flt_yes (f := lo gen) (ps := ps) (k := k) (by rw [HL.out]; exact hkn) (by rw [HP.out]; exact decide_eq_true hpg)
          rw [HP.out] at this
          show _ = _
          exact this
        have O1 : Hid (Own w.heap.size ((wr.alloc (.cells #[.int .u64 pg, .int .i64 pn] 41)).alloc (.cells #[.int .u64 pg, .int .i64 pn] 41)) A' n' c' (flt (lo gen) ps k)) := (HO.out.alloc _).alloc _
        have R1 : Hid (PR ((wr.alloc (.cells #[.int .u64 pg, .int .i64 pn] 41)).alloc (.cells #[.int .u64 pg, .int .i64 pn] 41)) (some ⟨wr.heap.size + 1, 0, none⟩) 1 [(pg, pn)]) := by
          have := (Own.made (wr.alloc (.cells #[.int .u64 pg, .int .i64 pn] 41)) (pg, pn)).reads
          rw [show (wr.alloc (.cells #[.int .u64 pg, .int .i64 pn] 41)).heap.size = wr.heap.size + 1 from by simp] at this
          exact this
        have B1 : Hid (Below w.heap.size w ((wr.alloc (.cells #[.int .u64 pg, .int .i64 pn] 41)).alloc (.cells #[.int .u64 pg, .int .i64 pn] 41))) := (HB.out.alloc HB.out.size _).alloc (by have := HB.out.size; simp; omega) _
        go_wp2_with (at_builtin; refine wpList_append_any _ rfl (.tmp 22) (.tmp 24) _ rfl w.heap.size 41 i0 _ 2 16 Try.underlying24 hi0 hz0 hz1 hz2 rfl (by omega) (.slice A' n' c') n' (pcs (flt (lo gen) ps k)) rfl O1.out _ _ 1 1 (pcs [(pg, pn)]) rfl R1.out (one_pin _) (by simp only [maxLen]; omega) (by omega) B1.out.size ?_; intro v1 w1 hown1 hg1 hat1; obtain ⟨A2, c2, rfl, ho1⟩ := app_one (W := w1) (A := none) (c := 0) hown1; rw [← HF.out] at ho1; have HO1 := hide ho1; have HG1 := hide hg1; clear hown1 hg1 hat1 ho1)
        go_roundw
        case rel => exact ⟨k + 1, A2, n' + 1, c2, rfl, by go_num, by omega, by omega, HO1, hide (B1.out.grown HG1.out B1.out.size (fun q hq => (World.ownsRow.lt O1.out q hq).1))⟩
        case measure => simp [intOf]; omega
      · have t2 : decide ((pg : Int) < (gen : Int)) = false := decide_eq_false (by omega)
        have HF : Hid (flt (lo gen) ps (k + 1) = flt (lo gen) ps k) := by
          show _ = _
          rw [flt_no (f := lo gen) (ps := ps) (k := k) (by rw [HL.out]; exact hkn) (by rw [HP.out]; exact decide_eq_false hpg)]
        go_wp2_with fail
        go_roundw
        case rel => exact ⟨k + 1, A', n', c', rfl, by go_num, by omega, by omega, by rw [HF.out]; exact HO.out.alloc _, hide (HB.out.alloc HB.out.size _)⟩
        case measure => simp [intOf]; omega
    · have hkz : ¬ (k : Int) < (n : Int) := by omega
      have hke : Hid (k = n) := by show _ = _; omega
      have HO1 : Hid (Own w.heap.size wr A' n' c' pre) := by
        have := HO.out
        rw [hke.out, flt_all _ _ (by rw [HL.out]; exact Nat.le_refl _)] at this
        rw [← HPRE.out, List.append_nil]
        exact this
      clear HO
      have HO := HO1
      have hn2 : n' ≤ n + 1 := by omega
      clear HO1
      go_wp2_with fail
      go_loopw [7, 37] (fun s v wr => ∃ (k : Nat) (A' : Option Addr) (n' c' : Nat), s = .slice A' n' c' ∧ v = .int .i64 k ∧ k ≤ n ∧ n' ≤ n + 1 + k ∧ Hid (Own w.heap.size wr A' n' c' (pre ++ flt (hi gen) ps k)) ∧ Hid (Below w.heap.size w wr)) (fun _ v _ => n - (intOf v).toNat)
      case atStart => exact ⟨0, A', n', c', rfl, rfl, by omega, by omega, by rw [flt_zero, List.append_nil]; exact HO, HB⟩
      case round =>
        obtain ⟨k, A', n', c', rfl, rfl, hk, hnk, HO, HB⟩ := hrel
        by_cases hkn : k < n
        · have hkz : (k : Int) < (n : Int) := by omega
          obtain ⟨ad, rfl, c0, c1⟩ := (HR.out.below HB.out).cell k hkn
          obtain ⟨p, hp⟩ : ∃ p, nth ps k = p := ⟨_, rfl⟩
          rw [hp] at c0 c1
          have HP := hide hp
          clear hp
          obtain ⟨pg, pn⟩ := p
          by_cases hpg : gen < pg
          · have t2 : decide ((gen : Int) < (pg : Int)) = true := decide_eq_true (by omega)
            have HF : Hid (pre ++ flt (hi gen) ps (k + 1) = (pre ++ flt (hi gen) ps k) ++ [(pg, pn)]) := by
              have := flt_yes (f := hi gen) (ps := ps) (k := k) (by rw [HL.out]; exact hkn) (by rw [HP.out]; exact decide_eq_true hpg)
              rw [HP.out] at this
              show _ = _
              rw [this, List.append_assoc]
            have O1 : Hid (Own w.heap.size ((wr.alloc (.cells #[.int .u64 pg, .int .i64 pn] 41)).alloc (.cells #[.int .u64 pg, .int .i64 pn] 41)) A' n' c' (pre ++ flt (hi gen) ps k)) := (HO.out.alloc _).alloc _
            have R1 : Hid (PR ((wr.alloc (.cells #[.int .u64 pg, .int .i64 pn] 41)).alloc (.cells #[.int .u64 pg, .int .i64 pn] 41)) (some ⟨wr.heap.size + 1, 0, none⟩) 1 [(pg, pn)]) := by
              have := (Own.made (wr.alloc (.cells #[.int .u64 pg, .int .i64 pn] 41)) (pg, pn)).reads
              rw [show (wr.alloc (.cells #[.int .u64 pg, .int .i64 pn] 41)).heap.size = wr.heap.size + 1 from by simp] at this
              exact this
            have B1 : Hid (Below w.heap.size w ((wr.alloc (.cells #[.int .u64 pg, .int .i64 pn] 41)).alloc (.cells #[.int .u64 pg, .int .i64 pn] 41))) := (HB.out.alloc HB.out.size _).alloc (by have := HB.out.size; simp; omega) _
            go_wp2_with (at_builtin; refine wpList_append_any _ rfl (.tmp 45) (.tmp 47) _ rfl w.heap.size 41 i0 _ 2 16 Try.underlying24 hi0 hz0 hz1 hz2 rfl (by omega) (.slice A' n' c') n' (pcs (pre ++ flt (hi gen) ps k)) rfl O1.out _ _ 1 1 (pcs [(pg, pn)]) rfl R1.out (one_pin _) (by simp only [maxLen]; omega) (by omega) B1.out.size ?_; intro v1 w1 hown1 hg1 hat1; obtain ⟨A2, c2, rfl, ho1⟩ := app_one (W := w1) (A := none) (c := 0) hown1; rw [← HF.out] at ho1; have HO1 := hide ho1; have HG1 := hide hg1; clear hown1 hg1 hat1 ho1)
            go_roundw
            case rel => exact ⟨k + 1, A2, n' + 1, c2, rfl, by go_num, by omega, by omega, HO1, hide (B1.out.grown HG1.out B1.out.size (fun q hq => (World.ownsRow.lt O1.out q hq).1))⟩
            case measure => simp [intOf]; omega
          · have t2 : decide ((gen : Int) < (pg : Int)) = false := decide_eq_false (by omega)
            have HF : Hid (pre ++ flt (hi gen) ps (k + 1) = pre ++ flt (hi gen) ps k) := by
              show _ = _
              rw [flt_no (f := hi gen) (ps := ps) (k := k) (by rw [HL.out]; exact hkn) (by rw [HP.out]; exact decide_eq_false hpg)]
            go_wp2_with fail
            go_roundw
            case rel => exact ⟨k + 1, A', n', c', rfl, by go_num, by omega, by omega, by rw [HF.out]; exact HO.out.alloc _, hide (HB.out.alloc HB.out.size _)⟩
            case measure => simp [intOf]; omega
        · have hkz : ¬ (k : Int) < (n : Int) := by omega
          have hke : Hid (k = n) := by show _ = _; omega
          go_wp2_with fail
          go_ret
          have ho := HO.out
          rw [hke.out, flt_all _ _ (by rw [HL.out]; exact Nat.le_refl _)] at ho
          refine ⟨A', n', c', rfl, ?_, HB.out⟩
          rw [HW.out]
          exact ho

theorem with_any (w : World) (A : Option Addr) (n c : Nat) (ps : List Pin) (gen : Nat) (m : Int) (hr : PR w A n ps) (hn : n ≤ 1000) :
    Calls Try.prog 33 #[.slice A n c, .int .u64 gen, .int .i64 m] w (WithPost w (wth ps gen m)) := by
  by_cases hm : 0 < m
  · exact with_pos w A n c ps gen m hm hr hn
  · exact with_non w A n c ps gen m hm hr hn
end Go.Proofs.Ytbfagfnclgfmhaa
