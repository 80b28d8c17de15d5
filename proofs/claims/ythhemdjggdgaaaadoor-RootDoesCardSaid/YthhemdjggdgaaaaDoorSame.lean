/- Whether two disks are the same, by the reference. -/
import Derived.Test.YthhemdjggdgaaaaDoorCrash
namespace Go.Proofs.YthhemdjggdgaaaaDoor
open Go.RowKit
set_option linter.unusedVariables false

theorem quiet_left {P : Program} {f : FuncId} {args : Array Value} {w : World} {n : Nat} {v : Value}
    (h : Calls P f args (w.drewN n) fun e w' => e = .returned v ∧ w.drewN n = w') : Calls P f args (w.drewN n) fun e w'' => e = .returned v ∧ ∃ m, w'' = w.drewN m :=
  h.mono fun _ _ ⟨he, hm⟩ => ⟨he, n, hm.symm⟩
theorem BR.drewN {w : World} {A : Option Addr} {n : Nat} {bs : Bs} (h : BR w A n bs) (k : Nat) : BR (w.drewN k) A n bs := h.below (below_dr (Below.refl _ _) k)
def sameS (d o : Dk) : Bool := decide (d.dry = o.dry) && (decide (d.wet = o.wet) && decide (d.left = o.left))
theorem sameS_self (d : Dk) : sameS d d = true := by unfold sameS; simp
theorem sameS_dry {d o : Dk} (h : ¬ d.dry = o.dry) : sameS d o = false := by unfold sameS; simp [h]
theorem sameS_wet {d o : Dk} (h : ¬ d.wet = o.wet) : sameS d o = false := by unfold sameS; simp [h]
theorem sameS_left {d o : Dk} (h : ¬ d.left = o.left) : sameS d o = false := by unfold sameS; simp [h]
theorem sameS_all {d o : Dk} (h1 : d.dry = o.dry) (h2 : d.wet = o.wet) (h3 : d.left = o.left) : sameS d o = true := by unfold sameS; simp [h1, h2, h3]
theorem wet_all {qs rs : Wet} (h : qs.length = rs.length) (ha : ∀ i, i < qs.length → qn qs i = qn rs i) : qs = rs := by
  apply List.ext_getElem h
  intro i h1 h2
  have := ha i h1
  unfold qn at this
  rw [List.getD_eq_getElem?_getD, List.getD_eq_getElem?_getD, List.getElem?_eq_getElem h1, List.getElem?_eq_getElem h2] at this
  exact this

set_option maxRecDepth 100000 in
set_option maxHeartbeats 2000000 in
theorem rsame_any (w : World) (A : Option Addr) (n c : Nat) (B : Option Addr) (m e' : Nat) (d : Dk) (C : Option Addr) (x y : Nat) (D : Option Addr) (z f : Nat) (o : Dk) (hd : DR w A n B m d) (ho : DR w C x D z o) (hm : m ≤ 1000) (hz : z ≤ 1000) :
    Calls Tryd.prog 20 #[.agg #[.slice A n c, .slice B m e', .int .i64 d.left], .agg #[.slice C x y, .slice D z f, .int .i64 o.left]] w
      fun e w' => e = .returned (.bool (sameS d o)) ∧ Below w.heap.size w w' := by
  obtain ⟨W0, hW0⟩ : ∃ W0, W0 = ((w.alloc (.cells #[.slice A n c, .slice B m e', .int .i64 d.left] 31)).alloc (.cells #[.slice C x y, .slice D z f, .int .i64 o.left] 31)) := ⟨_, rfl⟩
  have hb0 : Below w.heap.size w W0 := by rw [hW0]; exact below_alloc2 w _ _
  have HX0 : Hid (Bx W0 w.heap.size (.slice A n c) (.slice B m e') (.int .i64 d.left)) := by rw [hW0]; exact (Bx.made w _ _ _).alloc _
  have HY0 : Hid (Bx W0 (w.heap.size + 1) (.slice C x y) (.slice D z f) (.int .i64 o.left)) := by
    rw [hW0]; exact Bx.made_ _ _ (by simp) _ _ _
  have HB0 : Hid (Below w.heap.size w W0) := hb0
  have HD0 : Hid (DR W0 A n B m d) := hd.below hb0
  have HO0 : Hid (DR W0 C x D z o) := ho.below hb0
  have HW : Hid (d.wet.length = m ∧ o.wet.length = z) := ⟨hd.wlen, ho.wlen⟩
  rw [hW0] at HX0 HY0 HB0 HD0 HO0
  clear hW0 hd ho hb0
  have sb := fun (w : World) (h1 : BR w A n d.dry) (h2 : BR w C x o.dry) => sameB_any w A C n x c y d.dry o.dry h1 h2
  by_cases q1 : d.dry = o.dry
  · have t1 : decide (d.dry = o.dry) = true := decide_eq_true q1
    by_cases q2 : m = z
    · have t2 : ((m : Int) != (z : Int)) = false := by rw [bne_eq_false_iff_eq]; omega
      by_cases q3 : d.left = o.left
      · have t3 : (d.left != o.left) = false := by rw [bne_eq_false_iff_eq]; exact q3
        have HQ := hide (sameS_all q1 · q3)
        have HE := hide q2
        clear q1 q2 q3
        go_enter Tryd.func20, Tryd.ntmps20
        go_wp2_with (first | (go_at_call 19; refine (sb _ HD0.out.1 HO0.out.1).mono ?_; rintro e w' ⟨rfl, rfl⟩; rw [t1]))
        generalize hW1 : ((w.alloc (.cells #[.slice A n c, .slice B m e', .int .i64 d.left] 31)).alloc (.cells #[.slice C x y, .slice D z f, .int .i64 o.left] 31)) = W1 at HX0 HY0 HB0 HD0 HO0 ⊢
        clear hW1
        go_loopw [31] (fun v wr => ∃ k : Nat, v = .int .i64 k ∧ k ≤ m ∧ Hid (∀ i, i < k → qn d.wet i = qn o.wet i) ∧ Hid (Below W1.heap.size W1 wr)) (fun v _ => m - (intOf v).toNat)
        case atStart => exact ⟨0, rfl, by omega, fun i hi => by omega, Below.refl _ _⟩
        case round =>
          obtain ⟨k, rfl, hk, HU, HB⟩ := hrel
          by_cases hkm : k < m
          · have hkz : (k : Int) < (m : Int) := by omega
            have hkz2 : (k : Int) < (z : Int) := by have := HE.out; omega
            have HX := hide (HX0.out.below HB.out)
            have HY := hide (HY0.out.below HB.out)
            have b1 := HX.out.c1
            have o1 := HY.out.c1
            obtain ⟨hd1, ps, hd2, hd3⟩ := HD0.out.below HB.out
            obtain ⟨ho1, rs, ho2, ho3⟩ := HO0.out.below HB.out
            obtain ⟨ad, rfl, c0, c1⟩ := hd2.cell k hkm
            obtain ⟨ao, rfl, d0, d1⟩ := ho2.cell k (by have := HE.out; omega)
            have hpk := hd3.2 k (by rw [hd3.1, HW.out.1]; exact hkm)
            have hrk := ho3.2 k (by rw [ho3.1, HW.out.2]; have := HE.out; omega)
            obtain ⟨p, hp⟩ : ∃ p, nth ps k = p := ⟨_, rfl⟩
            obtain ⟨r, hr⟩ : ∃ r, nth rs k = r := ⟨_, rfl⟩
            rw [hp] at c0 c1 hpk
            rw [hr] at d0 d1 hrk
            obtain ⟨pa, pA, pn, pc⟩ := p
            obtain ⟨ra, rA, rn, rc⟩ := r
            simp only at c0 c1 d0 d1 hpk hrk
            have HPK := hide hpk
            have HRK := hide hrk
            clear hp hr hpk hrk hd1 hd2 hd3 ho1 ho2 ho3
            have hbl : Hid (Below w.heap.size w wr) := hide (Below.then_ HB0.out HB.out HB0.out.size)
            have no : Hid (¬ (pa = ra ∧ (qn d.wet k).2 = (qn o.wet k).2) → sameS d o = false) := fun h => sameS_wet (fun e => h ⟨by rw [HPK.out.1, HRK.out.1, e], by rw [e]⟩)
            by_cases q4 : pa = ra
            · have t4 : (pa != ra) = false := by rw [bne_eq_false_iff_eq]; exact q4
              by_cases q5 : (qn d.wet k).2 = (qn o.wet k).2
              · have sbp := fun (w : World) (h1 : BR w pA pn (qn d.wet k).2) (h2 : BR w rA rn (qn o.wet k).2) => sameB_any w pA rA pn rn pc rc _ _ h1 h2
                rw [decide_eq_true q5] at sbp
                have HU' : Hid (∀ i, i < k + 1 → qn d.wet i = qn o.wet i) := fun i hi => by
                  by_cases e : i = k
                  · rw [e]; exact Prod.ext (by rw [← HPK.out.1, ← HRK.out.1, q4]) q5
                  · exact HU.out i (by omega)
                clear q4 q5 no
                go_wp2_with fail
                go_quiet ((go_at_call 19; exact quiet_left (sbp _ (HPK.out.2.drewN _) (HRK.out.2.drewN _))))
                go_wp2_with fail
                go_roundw
                case rel => exact ⟨k + 1, by go_num, by omega, HU', hide (below_dr HB.out _)⟩
                case measure => simp [intOf]; omega
              · have sbp := fun (w : World) (h1 : BR w pA pn (qn d.wet k).2) (h2 : BR w rA rn (qn o.wet k).2) => sameB_any w pA rA pn rn pc rc _ _ h1 h2
                rw [decide_eq_false q5] at sbp
                have F := hide (no.out (fun h => q5 h.2))
                clear q4 q5 no
                go_wp2_with fail
                go_quiet ((go_at_call 19; exact quiet_left (sbp _ (HPK.out.2.drewN _) (HRK.out.2.drewN _))))
                go_wp2_with fail
                go_ret
                exact ⟨by rw [F.out]; rfl, below_dr hbl.out _⟩
            · have t4 : (pa != ra) = true := by rw [bne_iff_ne]; exact q4
              have F := hide (no.out (fun h => q4 h.1))
              clear q4 no
              go_wp2_with fail
              go_quiet (fail)
              go_wp2_with fail
              go_ret
              exact ⟨by rw [F.out]; rfl, below_dr hbl.out _⟩
          · have hkz : ¬ (k : Int) < (m : Int) := by omega
            have F : Hid (sameS d o = true) := HQ.out (wet_all (by rw [HW.out.1, HW.out.2, HE.out]) (fun i hi => HU.out i (by rw [HW.out.1] at hi; omega)))
            go_wp2_with fail
            go_ret
            exact ⟨by rw [F.out]; rfl, Below.then_ HB0.out HB.out HB0.out.size⟩
      · have t3 : (d.left != o.left) = true := by rw [bne_iff_ne]; exact q3
        have F := hide (sameS_left q3)
        clear q1 q2 q3
        go_enter Tryd.func20, Tryd.ntmps20
        go_wp2_with (first | (go_at_call 19; refine (sb _ HD0.out.1 HO0.out.1).mono ?_; rintro e w' ⟨rfl, rfl⟩; rw [t1]))
        go_ret
        exact ⟨by rw [F.out]; rfl, HB0.out⟩
    · have t2 : ((m : Int) != (z : Int)) = true := by rw [bne_iff_ne]; omega
      have F := hide (sameS_wet (d := d) (o := o) (fun e => q2 (by rw [← HW.out.1, ← HW.out.2, e])))
      clear q1 q2
      go_enter Tryd.func20, Tryd.ntmps20
      go_wp2_with (first | (go_at_call 19; refine (sb _ HD0.out.1 HO0.out.1).mono ?_; rintro e w' ⟨rfl, rfl⟩; rw [t1]))
      go_ret
      exact ⟨by rw [F.out]; rfl, HB0.out⟩
  · have t1 : decide (d.dry = o.dry) = false := decide_eq_false q1
    have F := hide (sameS_dry q1)
    clear q1
    go_enter Tryd.func20, Tryd.ntmps20
    go_wp2_with (first | (go_at_call 19; refine (sb _ HD0.out.1 HO0.out.1).mono ?_; rintro e w' ⟨rfl, rfl⟩; rw [t1]))
    go_ret
    exact ⟨by rw [F.out]; rfl, HB0.out⟩
end Go.Proofs.YthhemdjggdgaaaaDoor
