import Derived.Test.YtbfagfnclgfmhaaLst
import Derived.Laws.StructEq
import Derived.Deep.QuietTactic
namespace Go.Proofs.Ytbfagfnclgfmhaa
open Go.RowKit

/-- Only draws. -/
def Drw (w w' : World) : Prop := ∃ q, w' = w.drewN q
theorem Drw.refl (w : World) : Drw w w := ⟨0, rfl⟩
theorem Drw.step {w w' : World} (h : Drw w w') (n : Nat) : Drw w (w'.drewN n) := by
  obtain ⟨q, rfl⟩ := h
  exact ⟨q + n, by rw [World.drewN_drewN]⟩
theorem Drw.cell {w w' : World} (h : Drw w w') (a : Addr) : w'.cell? a = w.cell? a := by
  obtain ⟨q, rfl⟩ := h; rfl
theorem Drw.below {w w' : World} (h : Drw w w') (B : Nat) : Below B w w' := by
  obtain ⟨q, rfl⟩ := h; exact ⟨rfl, rfl, rfl, Nat.le_refl _, fun _ _ => rfl⟩

theorem ext_nth {ps qs : List Pin} (h : ps.length = qs.length) (he : ∀ i, i < ps.length → nth ps i = nth qs i) : ps = qs := by
  apply List.ext_getElem h
  intro i h1 h2
  have := he i h1
  rwa [nth_lt h1, nth_lt h2] at this

theorem equal_any (w : World) (A B : Option Addr) (n m c d : Nat) (ps qs : List Pin) (hx : PR w A n ps) (hy : PR w B m qs) (hn : n ≤ 1000) :
    Calls Try.prog 25 #[.slice A n c, .slice B m d] w fun e w' => e = .returned (.bool (decide (ps = qs))) ∧ Drw w w' := by
  have HX := hide hx
  have HY := hide hy
  have lx := hide hx.len
  have ly := hide hy.len
  clear hx hy
  by_cases hnm : n = m
  · have t1 : ((n : Int) != (m : Int)) = false := by rw [bne_eq_false_iff_eq]; omega
    have HNM := hide hnm
    have hnm1 : n ≤ m := by omega
    clear hnm
    go_enter Try.func25, Try.ntmps25
    go_wp2_with fail
    go_loopw [13] (fun v wr => ∃ k : Nat, v = .int .i64 k ∧ k ≤ n ∧ Hid (∀ i, i < k → nth ps i = nth qs i) ∧ Hid (Drw w wr)) (fun v _ => n - (intOf v).toNat)
    case atStart => exact ⟨0, rfl, by omega, hide (fun i hi => by omega), Drw.refl _⟩
    case round =>
      obtain ⟨k, rfl, hk, HK, HQ⟩ := hrel
      by_cases hkn : k < n
      · have hkz : (k : Int) < (n : Int) := by omega
        have hkm : (k : Int) < (m : Int) := by omega
        obtain ⟨a1, rfl, c0, c1⟩ := HX.out.cell k hkn
        obtain ⟨b1, rfl, d0, d1⟩ := HY.out.cell k (by omega)
        rw [← HQ.out.cell] at c0 c1 d0 d1
        obtain ⟨p, hp⟩ : ∃ p, nth ps k = p := ⟨_, rfl⟩
        obtain ⟨q, hq⟩ : ∃ q, nth qs k = q := ⟨_, rfl⟩
        rw [hp] at c0 c1
        rw [hq] at d0 d1
        have HP := hide hp
        have HPQ := hide hq
        clear hp hq
        obtain ⟨pg, pn⟩ := p
        obtain ⟨qg, qn⟩ := q
        have hst : Try.prog.stoodInHeld 41 = false := by kernel_rfl
        by_cases he : pg = qg ∧ pn = qn
        · obtain ⟨rfl, rfl⟩ := he
          go_wp2_with fail
          go_quiet (fail)
          go_wp2_with fail
          go_roundw
          case rel =>
            refine ⟨k + 1, by go_num, by omega, hide (fun i hi => ?_), HQ.out.step nq⟩
            by_cases hik : i < k
            · exact HK.out i hik
            · obtain rfl : i = k := by omega
              rw [HP.out, HPQ.out]
          case measure => simp [intOf]; omega
        · have HNE : Hid (¬ (pg = qg ∧ pn = qn)) := he
          have hf : Hid (decide (ps = qs) = false) := by
            refine decide_eq_false (fun h => he ?_)
            have h1 := HP.out
            rw [h, HPQ.out] at h1
            injection h1 with h1 h2
            exact ⟨h1.symm, h2.symm⟩
          by_cases hg : pg = qg
          · subst hg
            have hb : (pn == qn) = false := beq_eq_false_iff_ne.2 (fun h => he ⟨rfl, h⟩)
            clear he
            go_wp2_with fail
            go_quiet (fail)
            go_wp2_with fail
            go_ret
            exact ⟨by rw [hf.out]; rfl, HQ.out.step nq⟩
          · have hb : ((pg : Int) == (qg : Int)) = false := by rw [beq_eq_false_iff_ne]; omega
            clear he hg
            go_wp2_with fail
            go_quiet (fail)
            go_wp2_with fail
            go_ret
            exact ⟨by rw [hf.out]; rfl, HQ.out.step nq⟩
      · have hkz : ¬ (k : Int) < (n : Int) := by omega
        have hke : Hid (k = n) := by show _ = _; omega
        go_wp2_with fail
        go_ret
        have hf : decide (ps = qs) = true := by
          refine decide_eq_true (ext_nth (by rw [lx.out, ly.out]; exact HNM.out) (fun i hi => HK.out i (by rw [lx.out] at hi; rw [hke.out]; exact hi)))
        exact ⟨by rw [hf]; rfl, HQ.out⟩
  · have t1 : ((n : Int) != (m : Int)) = true := by rw [bne_iff_ne]; omega
    have HNM := hide hnm
    clear hnm
    go_enter Try.func25, Try.ntmps25
    go_wp2_with fail
    go_ret
    have hf : decide (ps = qs) = false := decide_eq_false (fun h => HNM.out (by rw [← lx.out, ← ly.out, h]))
    exact ⟨by rw [hf]; rfl, Drw.refl _⟩

theorem same_any (w : World) (A B : Option Addr) (n m c d : Nat) (ps qs : List Pin) (hx : PR w A n ps) (hy : PR w B m qs) (hn : n ≤ 1000) :
    Calls Try.prog 13 #[.slice A n c, .slice B m d] w fun e w' => e = .returned (.bool (decide (ps = qs))) ∧ Drw w w' := by
  have HX := hide hx
  have HY := hide hy
  clear hx hy
  go_enter Try.func13, Try.ntmps13
  go_wp2_with (go_at_call 25; refine (equal_any _ _ _ _ _ _ _ ps qs HX.out HY.out hn).mono ?_; rintro e w' ⟨rfl, hb⟩; have HB := hide hb; clear hb)
  go_ret
  exact ⟨rfl, HB.out⟩

theorem rsame_any (w : World) (A B : Option Addr) (n m c d : Nat) (ps qs : List Pin) (hx : PR w A n ps) (hy : PR w B m qs) (hn : n ≤ 1000) :
    Calls Try.prog 19 #[.slice A n c, .slice B m d] w fun e w' => e = .returned (.bool (decide (ps = qs))) ∧ Drw w w' := by
  have HX := hide hx
  have HY := hide hy
  have lx := hide hx.len
  have ly := hide hy.len
  clear hx hy
  by_cases hnm : n = m
  · have t1 : ((n : Int) != (m : Int)) = false := by rw [bne_eq_false_iff_eq]; omega
    have HNM := hide hnm
    have hnm1 : n ≤ m := by omega
    clear hnm
    go_enter Try.func19, Try.ntmps19
    go_wp2_with fail
    go_loopw [13] (fun v wr => ∃ k : Nat, v = .int .i64 k ∧ k ≤ n ∧ Hid (∀ i, i < k → nth ps i = nth qs i) ∧ Hid (Drw w wr)) (fun v _ => n - (intOf v).toNat)
    case atStart => exact ⟨0, rfl, by omega, hide (fun i hi => by omega), Drw.refl _⟩
    case round =>
      obtain ⟨k, rfl, hk, HK, HQ⟩ := hrel
      by_cases hkn : k < n
      · have hkz : (k : Int) < (n : Int) := by omega
        have hkm : (k : Int) < (m : Int) := by omega
        obtain ⟨a1, rfl, c0, c1⟩ := HX.out.cell k hkn
        obtain ⟨b1, rfl, d0, d1⟩ := HY.out.cell k (by omega)
        rw [← HQ.out.cell] at c0 c1 d0 d1
        obtain ⟨p, hp⟩ : ∃ p, nth ps k = p := ⟨_, rfl⟩
        obtain ⟨q, hq⟩ : ∃ q, nth qs k = q := ⟨_, rfl⟩
        rw [hp] at c0 c1
        rw [hq] at d0 d1
        have HP := hide hp
        have HPQ := hide hq
        clear hp hq
        obtain ⟨pg, pn⟩ := p
        obtain ⟨qg, qn⟩ := q
        have hst : Try.prog.stoodInHeld 41 = false := by kernel_rfl
        by_cases he : pg = qg ∧ pn = qn
        · obtain ⟨rfl, rfl⟩ := he
          go_wp2_with fail
          go_quiet (fail)
          go_wp2_with fail
          go_roundw
          case rel =>
            refine ⟨k + 1, by go_num, by omega, hide (fun i hi => ?_), HQ.out.step nq⟩
            by_cases hik : i < k
            · exact HK.out i hik
            · obtain rfl : i = k := by omega
              rw [HP.out, HPQ.out]
          case measure => simp [intOf]; omega
        · have HNE : Hid (¬ (pg = qg ∧ pn = qn)) := he
          have hf : Hid (decide (ps = qs) = false) := by
            refine decide_eq_false (fun h => he ?_)
            have h1 := HP.out
            rw [h, HPQ.out] at h1
            injection h1 with h1 h2
            exact ⟨h1.symm, h2.symm⟩
          by_cases hg : pg = qg
          · subst hg
            have hb : (pn == qn) = false := beq_eq_false_iff_ne.2 (fun h => he ⟨rfl, h⟩)
            clear he
            go_wp2_with fail
            go_quiet (fail)
            go_wp2_with fail
            go_ret
            exact ⟨by rw [hf.out]; rfl, HQ.out.step nq⟩
          · have hb : ((pg : Int) == (qg : Int)) = false := by rw [beq_eq_false_iff_ne]; omega
            clear he hg
            go_wp2_with fail
            go_quiet (fail)
            go_wp2_with fail
            go_ret
            exact ⟨by rw [hf.out]; rfl, HQ.out.step nq⟩
      · have hkz : ¬ (k : Int) < (n : Int) := by omega
        have hke : Hid (k = n) := by show _ = _; omega
        go_wp2_with fail
        go_ret
        have hf : decide (ps = qs) = true := by
          refine decide_eq_true (ext_nth (by rw [lx.out, ly.out]; exact HNM.out) (fun i hi => HK.out i (by rw [lx.out] at hi; rw [hke.out]; exact hi)))
        exact ⟨by rw [hf]; rfl, HQ.out⟩
  · have t1 : ((n : Int) != (m : Int)) = true := by rw [bne_iff_ne]; omega
    have HNM := hide hnm
    clear hnm
    go_enter Try.func19, Try.ntmps19
    go_wp2_with fail
    go_ret
    have hf : decide (ps = qs) = false := decide_eq_false (fun h => HNM.out (by rw [← lx.out, ← ly.out, h]))
    exact ⟨by rw [hf]; rfl, Drw.refl _⟩

end Go.Proofs.Ytbfagfnclgfmhaa
