/- The reference's reading: the same. -/
import Derived.Test.YthhemdjggdgaaaaDoorRead
namespace Go.Proofs.YthhemdjggdgaaaaDoor
open Go.RowKit
set_option linter.unusedVariables false

/-- Where a first one is. -/
theorem find_first {qs : Wet} {k : Int} {i : Nat} (hi : i < qs.length) (he : (qn qs i).1 = k) (h : ∀ j, j < i → (qn qs j).1 ≠ k) : qs.find? (fun p => p.1 == k) = some (qn qs i) := by
  rw [List.find?_eq_some_iff_getElem]
  refine ⟨by simpa using he, i, hi, (qn_lt hi).symm, fun j hj => ?_⟩
  have := h j hj
  rw [qn_lt (by omega : j < qs.length)] at this
  simpa using this

set_option maxRecDepth 100000 in
set_option maxHeartbeats 2000000 in
theorem rread_any (w : World) (A : Option Addr) (n c : Nat) (B : Option Addr) (m e' : Nat) (d : Dk) (k : Int) (hr : DR w A n B m d) (hn : n ≤ 300000) (hm : m ≤ 1000) (hc : n ≤ c) :
    Calls Tryd.prog 35 #[.agg #[.slice A n c, .slice B m e', .int .i64 d.left], .int .i64 k] w (RPost w (readS d k).1 (readS d k).2) := by
  obtain ⟨i0, hi0, hz0, hz1, hz2⟩ := info_parts u8_info
  have HR := hide hr
  have HW := hide hr.wlen
  clear hr
  by_cases hi : Is d k
  · have HX := hide (isb_true hi)
    have HS := hide (readS_ok hi)
    have HG := hide hi.1
    obtain ⟨kn, rfl⟩ : ∃ kn : Nat, k = kn := ⟨k.toNat, by have := hi.2.1; omega⟩
    have hkn : (kn + 1) * 32 ≤ n := by
      have h1 := hi.2.2
      have h2 := hi.1.whole
      rw [HR.out.dlen] at h2
      omega
    clear hi
    go_enter Tryd.func35, Tryd.ntmps35
    go_wp2_with (go_at_call 50; refine (ris_any _ _ _ _ _ _ _ d kn (HR.out.alloc _) hn hm).mono ?_; rintro e w1 ⟨rfl, hb⟩; have X1 := (Bx.made w (.slice A n c) (.slice B m e') (.int .i64 d.left)).below hb; have k0 := X1.c0; have k1 := X1.c1; have k2 := X1.c2; have HX1 := hide X1; have HR1 := hide ((HR.out.alloc _).below hb); have HB1 := hide (Below.then (below_alloc _ _) hb); clear hb X1; rw [HX.out])
    obtain ⟨hd, ps, hp, hpc⟩ := HR1.out
    have HD := hide hd
    have HP := hide hp
    have HC := hide hpc
    have HPL := hide hp.len
    clear hd hp hpc
    go_loopw [15] (fun v wr => ∃ j : Nat, v = .int .i64 j ∧ j ≤ m ∧ Hid (∀ i, i < j → (qn d.wet i).1 ≠ kn) ∧ Hid (Below w1.heap.size w1 wr)) (fun v _ => m - (intOf v).toNat)
    case atStart => exact ⟨0, rfl, by omega, fun i hi => by omega, Below.refl _ _⟩
    case round =>
      obtain ⟨j, rfl, hj, HN, HB⟩ := hrel
      clear k0 k1 k2
      have k0 := (HX1.out.below HB.out).c0
      by_cases hjm : j < m
      · have hjz : (j : Int) < (m : Int) := by omega
        obtain ⟨ad, rfl, c0, c1⟩ := (HP.out.below HB.out).cell j hjm
        have hpk := HC.out.2 j (by rw [HPL.out]; exact hjm)
        obtain ⟨p, hp⟩ : ∃ p, nth ps j = p := ⟨_, rfl⟩
        rw [hp] at c0 c1 hpk
        obtain ⟨pa, pA, pn, pc⟩ := p
        have HPA : Hid (pa = (qn d.wet j).1) := hpk.1
        have hl32 := HG.out.len j (by rw [HW.out]; exact hjm)
        have hpn : pn ≤ 300000 := by have := hpk.2.len; simp only at this; omega
        have HRP := hide (hpk.2.below HB.out)
        have HO1 := hide (byt_one (qn d.wet j).2)
        clear hp hpk hl32
        by_cases hpa : pa = kn
        · have t1 : (pa == (kn : Int)) = true := beq_iff_eq.2 hpa
          have HRB : Hid (readB d kn = (qn d.wet j).2) := by
            show _ = _
            unfold readB
            rw [find_first (by rw [HW.out]; exact hjm) (by rw [← HPA.out]; exact hpa) HN.out]; rfl
          have HR2 : Hid (BR (wr.alloc (.cells #[.int .i64 pa, .slice pA pn pc] 56)) pA pn (qn d.wet j).2) := HRP.out.alloc _
          have HBB := hide (Below.then HB1.out HB.out)
          have hsz := HBB.out.size
          subst hpa
          go_wp2_with (at_builtin; refine wpList_append_any _ rfl (.const (.slice none 0 0)) (.tmp 24) _ rfl w.heap.size 5 i0 _ 1 1 Tryd.underlying28 hi0 hz0 hz1 hz2 rfl (by omega) (.slice none 0 0) 0 [] rfl (row_nil _ _ _ _) _ pA pn pc (byt (qn d.wet j).2) rfl HR2.out HO1.out (by simp only [maxLen]; omega) (by omega) (by simp; omega) ?_; intro v1 w2 hown1 hg1 hat1; rw [Nat.zero_add, List.nil_append] at hown1; obtain ⟨A', c', rfl⟩ := row_slice hown1; have HO := hide hown1; have HB2 := hide (grown_below hg1); clear hown1 hg1 hat1)
          go_ret2
          rw [HS.out, HRB.out]
          exact ⟨A', pn, c', rfl, HO.out, Below.then (HBB.out.alloc HBB.out.size _) HB2.out⟩
        · have t1 : (pa == (kn : Int)) = false := beq_eq_false_iff_ne.2 hpa
          have HN' : Hid (∀ i, i < j + 1 → (qn d.wet i).1 ≠ kn) := fun i hi => by
            by_cases e : i = j
            · subst e; rw [← HPA.out]; exact hpa
            · exact HN.out i (by omega)
          clear hpa
          go_wp2_with fail
          go_roundw
          case rel => exact ⟨j + 1, by go_num, by omega, HN', hide (HB.out.alloc HB.out.size _)⟩
          case measure => simp [intOf]; omega
      · have hjz : ¬ (j : Int) < (m : Int) := by omega
        have hje : j = m := by omega
        have HRB : Hid (readB d kn = sect d.dry kn) := readB_none (fun i hi => HN.out i (by rw [hje, ← HW.out]; exact hi))
        obtain ⟨ad, hA, _⟩ := HD.out.cell 0 (by omega)
        subst hA
        have e32 : 32 * kn + 32 - 32 * kn = 32 := by omega
        have HR2 : Hid (BR wr (some (ad.add (32 * kn))) (32 * kn + 32 - 32 * kn) (sect d.dry kn)) := by
          show BR _ _ _ _
          rw [e32]
          exact (HD.out.below HB.out).part (kn * 32) 32 (by omega) (some (ad.add (32 * kn))) (fun _ ad' h => by injection h with h; rw [h, Nat.mul_comm])
        have HE := hide e32
        have HO1 := hide (byt_one (sect d.dry kn))
        have HBB := hide (Below.then HB1.out HB.out)
        have hsz := HBB.out.size
        have h1 : 32 * (kn : Int) + 32 ≤ (n : Int) := by omega
        have h2 : 32 * (kn : Int) + 32 ≤ (c : Int) := by omega
        have h3 : (kn : Int) ≤ 300000 := by omega
        have h4 : ¬ c = kn * 32 := by omega
        clear hje e32
        go_wp2_with (at_builtin; refine wpList_append_any _ rfl (.const (.slice none 0 0)) (.tmp 34) _ rfl w.heap.size 5 i0 _ 1 1 Tryd.underlying28 hi0 hz0 hz1 hz2 rfl (by omega) (.slice none 0 0) 0 [] rfl (row_nil _ _ _ _) _ (some (ad.add (32 * kn))) (32 * kn + 32 - 32 * kn) (c - 32 * kn) (byt (sect d.dry kn)) rfl HR2.out HO1.out (by simp only [maxLen]; omega) (by omega) hsz ?_; intro v1 w2 hown1 hg1 hat1; rw [Nat.zero_add, List.nil_append, HE.out] at hown1; obtain ⟨A', c', rfl⟩ := row_slice hown1; have HO := hide hown1; have HB2 := hide (grown_below hg1); clear hown1 hg1 hat1)
        go_ret2
        rw [HS.out, HRB.out]
        exact ⟨A', 32, c', rfl, HO.out, Below.then HBB.out HB2.out⟩
  · have HX := hide (isb_false hi)
    have HS := hide (readS_bad hi)
    clear hi
    go_enter Tryd.func35, Tryd.ntmps35
    go_wp2_with (go_at_call 50; refine (ris_any _ _ _ _ _ _ _ d k (HR.out.alloc _) hn hm).mono ?_; rintro e w1 ⟨rfl, hb⟩; have HB1 := hide (Below.then (below_alloc _ _) hb); clear hb; rw [HX.out])
    go_ret2
    rw [HS.out]
    exact ⟨none, 0, 0, rfl, OB.nil _ _, HB1.out⟩
end Go.Proofs.YthhemdjggdgaaaaDoor
