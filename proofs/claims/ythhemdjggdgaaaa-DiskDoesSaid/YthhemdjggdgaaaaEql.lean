/- Whether two disks are the same. -/
import Derived.Test.YthhemdjggdgaaaaSame
namespace Go.Proofs.Ythhemdjggdgaaaa
open Go.RowKit
set_option linter.unusedVariables false

theorem two_cells (w : World) (o : Obj) (x y : Value) (i : Nat) (hi : i < 2) (b : Nat) (hb : b = (w.alloc o).heap.size) : ((w.alloc o).alloc (.cells #[x, y] 47)).cell? ⟨b, i, none⟩ = #[x, y][i]? := by
  subst hb
  match i, hi with
  | 0, _ => exact box_cell _ _ _ 0 _ rfl
  | 1, _ => exact box_cell _ _ _ 1 _ rfl
set_option maxRecDepth 100000 in
set_option maxHeartbeats 2000000 in
theorem same1_any (w : World) (p q : Pg) (bs cs : Bs) (hx : BR w p.2.1 p.2.2.1 bs) (hy : BR w q.2.1 q.2.2.1 cs) :
    Calls Try.prog 42 #[pgv p, pgv q] w fun e w' => e = .returned (.bool (decide (p.1 = q.1) && decide (bs = cs))) ∧ Below w.heap.size w w' := by
  obtain ⟨pa, pA, pn, pc⟩ := p
  obtain ⟨qa, qA, qn, qc⟩ := q
  simp only at hx hy
  have HX := hide hx
  have HY := hide hy
  clear hx hy
  unfold pgv
  simp only
  by_cases h : pa = qa
  · have t1 : (pa == qa) = true := by rw [beq_iff_eq]; exact h
    rw [decide_eq_true h, Bool.true_and]
    clear h
    go_enter Try.func42, Try.ntmps42
    go_wp2_with (first | (go_at_call 43; refine (equalB_any _ pA qA pn qn pc qc bs cs ((HX.out.alloc _).alloc _) ((HY.out.alloc _).alloc _)).mono ?_; rintro e w' ⟨rfl, rfl⟩))
    go_ret
    exact ⟨rfl, below_alloc2 _ _ _⟩
  · have t1 : (pa == qa) = false := by rw [beq_eq_false_iff_ne]; exact h
    rw [decide_eq_false h, Bool.false_and]
    clear h
    go_enter Try.func42, Try.ntmps42
    go_wp2_with fail
    go_ret
    exact ⟨rfl, below_alloc2 _ _ _⟩

set_option maxRecDepth 100000 in
set_option maxHeartbeats 2000000 in
theorem eqF_any (w : World) (A : Option Addr) (n c : Nat) (B : Option Addr) (m e' : Nat) (ps rs : List Pg) (qs ts : Wet) (hp : PR w A n ps) (hq : PC w ps qs) (hr : PR w B m rs) (ht : PC w rs ts) (hn : n ≤ 1000) :
    Calls Try.prog 44 #[.slice A n c, .slice B m e', .func (.func 42) #[] #[]] w fun e w' => e = .returned (.bool (decide (qs = ts))) ∧ Below w.heap.size w w' := by
  have HP := hide hp
  have HQ := hide hq
  have HR := hide hr
  have HT := hide ht
  have HL : Hid (ps.length = n ∧ rs.length = m) := ⟨hp.len, hr.len⟩
  clear hp hq hr ht
  by_cases hnm : n = m
  · have t1 : ((n : Int) != (m : Int)) = false := by rw [bne_eq_false_iff_eq]; omega
    have HNM := hide hnm
    clear hnm
    go_enter Try.func44, Try.ntmps44
    go_wp2_with fail
    go_loopw [17] (fun v wr => ∃ k : Nat, v = .int .i64 k ∧ k ≤ n ∧ Hid (∀ i, i < k → qn qs i = qn ts i) ∧ Hid (Below w.heap.size w wr)) (fun v _ => n - (intOf v).toNat)
    case atStart => exact ⟨0, rfl, by omega, fun i hi => by omega, Below.refl _ _⟩
    case round =>
      obtain ⟨k, rfl, hk, HU, HB⟩ := hrel
      by_cases hkn : k < n
      · have hkz : (k : Int) < (n : Int) := by omega
        have hkm : (k : Int) < (m : Int) := by have := HNM.out; omega
        obtain ⟨a1, rfl, c0, c1⟩ := (HP.out.below HB.out).cell k hkn
        obtain ⟨b1, rfl, d0, d1⟩ := (HR.out.below HB.out).cell k (by omega)
        have hpk := (HQ.out.below HB.out).2 k (by rw [HL.out.1]; exact hkn)
        have hrk := (HT.out.below HB.out).2 k (by rw [HL.out.2]; omega)
        obtain ⟨p, hp⟩ : ∃ p, nth ps k = p := ⟨_, rfl⟩
        obtain ⟨r, hr⟩ : ∃ r, nth rs k = r := ⟨_, rfl⟩
        rw [hp] at c0 c1 hpk
        rw [hr] at d0 d1 hrk
        obtain ⟨pa, pA, pn, pc⟩ := p
        obtain ⟨ra, rA, rn, rc⟩ := r
        simp only at c0 c1 d0 d1 hpk hrk
        have HPK := hide hpk
        have HRK := hide hrk
        clear hp hr hpk hrk
        have hb1 := below_alloc2 wr (.cells #[.int .i64 pa, .slice pA pn pc] 47) (.cells #[.int .i64 ra, .slice rA rn rc] 47)
        have HB1 := hide hb1
        have hsz := HB.out.size
        have d0' := (World.cell?_alloc_lt wr (.cells #[.int .i64 pa, .slice pA pn pc] 47) _ (by
          exact World.block_lt_of_cell? wr _ d0)).trans d0
        have d1' := (World.cell?_alloc_lt wr (.cells #[.int .i64 pa, .slice pA pn pc] 47) _ (by
          exact World.block_lt_of_cell? wr _ d1)).trans d1
        have e0 : ((wr.alloc (.cells #[.int .i64 pa, .slice pA pn pc] 47)).alloc (.cells #[.int .i64 ra, .slice rA rn rc] 47)).cell? ⟨wr.heap.size, 0, none⟩ = some (.int .i64 pa) := (World.cell?_alloc_lt _ _ _ (by simp)).trans (box_cell _ _ _ 0 _ rfl)
        have e1 : ((wr.alloc (.cells #[.int .i64 pa, .slice pA pn pc] 47)).alloc (.cells #[.int .i64 ra, .slice rA rn rc] 47)).cell? ⟨wr.heap.size, 1, none⟩ = some (.slice pA pn pc) := (World.cell?_alloc_lt _ _ _ (by simp)).trans (box_cell _ _ _ 1 _ rfl)
        clear hb1
        have s1 := fun (w : World) (h1 : BR w pA pn (qn qs k).2) (h2 : BR w rA rn (qn ts k).2) => same1_any w (pa, pA, pn, pc) (ra, rA, rn, rc) _ _ h1 h2
        unfold pgv at s1
        simp only at s1
        by_cases he : pa = ra ∧ (qn qs k).2 = (qn ts k).2
        · have t2 : (decide (pa = ra) && decide ((qn qs k).2 = (qn ts k).2)) = true := by rw [decide_eq_true he.1, decide_eq_true he.2]; rfl
          rw [t2] at s1
          have HE := hide he
          clear he t2
          go_wp2_with (first | (go_at_call 42; refine (s1 _ (HPK.out.2.below HB1.out) (HRK.out.2.below HB1.out)).mono ?_; rintro e w2 ⟨rfl, hb⟩; have HB2 := hide (Below.then_ (Below.then_ HB.out HB1.out HB.out.size) hb (Below.then_ HB.out HB1.out HB.out.size).size); clear hb))
          go_roundw
          case rel =>
            refine ⟨k + 1, by go_num, by omega, fun i hi => ?_, HB2⟩
            by_cases e : i = k
            · subst e; exact Prod.ext (by rw [← HPK.out.1, ← HRK.out.1]; exact HE.out.1) HE.out.2
            · exact HU.out i (by omega)
          case measure => simp [intOf]; omega
        · have t2 : (decide (pa = ra) && decide ((qn qs k).2 = (qn ts k).2)) = false := by
            rw [← Bool.decide_and, decide_eq_false he]
          rw [t2] at s1
          have F : Hid (decide (qs = ts) = false) := decide_eq_false (fun h => he ⟨by rw [HPK.out.1, HRK.out.1, h], by rw [h]⟩)
          clear he t2
          go_wp2_with (first | (go_at_call 42; refine (s1 _ (HPK.out.2.below HB1.out) (HRK.out.2.below HB1.out)).mono ?_; rintro e w2 ⟨rfl, hb⟩; have HB2 := hide (Below.then_ (Below.then_ HB.out HB1.out HB.out.size) hb (Below.then_ HB.out HB1.out HB.out.size).size); clear hb))
          go_ret
          exact ⟨by rw [F.out]; rfl, HB2.out⟩
      · have hkz : ¬ (k : Int) < (n : Int) := by omega
        have F : Hid (decide (qs = ts) = true) := decide_eq_true (wet_all (by have h1 := HQ.out.1; have h2 := HT.out.1; have h3 := HL.out; have h4 := HNM.out; omega) (fun i hi => HU.out i (by have h1 := HQ.out.1; have h3 := HL.out; omega)))
        go_wp2_with fail
        go_ret
        exact ⟨by rw [F.out]; rfl, HB.out⟩
  · have t1 : ((n : Int) != (m : Int)) = true := by rw [bne_iff_ne]; omega
    have F : Hid (decide (qs = ts) = false) := decide_eq_false (fun h => hnm (by
      have h1 := HQ.out.1
      have h2 := HT.out.1
      have h3 := HL.out
      subst h
      omega))
    go_enter Try.func44, Try.ntmps44
    go_wp2_with fail
    go_ret
    exact ⟨by rw [F.out]; rfl, Below.refl _ _⟩

theorem eqD_any (w : World) (A : Option Addr) (n : Nat) (B : Option Addr) (m e' : Nat) (d : Dk) (C : Option Addr) (x : Nat) (D : Option Addr) (z f : Nat) (o : Dk) (hd : DR w A n B m d) (ho : DR w C x D z o) (hm : m ≤ 1000) :
    Calls Try.prog 44 #[.slice B m e', .slice D z f, .func (.func 42) #[] #[]] w fun e w' => e = .returned (.bool (decide (d.wet = o.wet))) ∧ Below w.heap.size w w' := by
  obtain ⟨_, ps, p1, p2⟩ := hd
  obtain ⟨_, rs, r1, r2⟩ := ho
  exact eqF_any w B m e' D z f ps rs d.wet o.wet p1 p2 r1 r2 hm

set_option maxRecDepth 100000 in
set_option maxHeartbeats 2000000 in
theorem same_any (w : World) (A : Option Addr) (n c : Nat) (B : Option Addr) (m e' : Nat) (d : Dk) (C : Option Addr) (x y : Nat) (D : Option Addr) (z f : Nat) (o : Dk) (hd : DR w A n B m d) (ho : DR w C x D z o) (hm : m ≤ 1000) :
    Calls Try.prog 21 #[.agg #[.slice A n c, .slice B m e', .int .i64 d.left], .agg #[.slice C x y, .slice D z f, .int .i64 o.left]] w
      fun e w' => e = .returned (.bool (sameS d o)) ∧ Below w.heap.size w w' := by
  obtain ⟨W0, hW0⟩ : ∃ W0, W0 = ((w.alloc (.cells #[.slice A n c, .slice B m e', .int .i64 d.left] 25)).alloc (.cells #[.slice C x y, .slice D z f, .int .i64 o.left] 25)) := ⟨_, rfl⟩
  have hb0 : Below w.heap.size w W0 := by rw [hW0]; exact below_alloc2 w _ _
  have X0 : Bx W0 w.heap.size (.slice A n c) (.slice B m e') (.int .i64 d.left) := by rw [hW0]; exact (Bx.made w _ _ _).alloc _
  have HX0 := hide X0
  have HB0 := hide hb0
  have HD0 : Hid (DR W0 A n B m d) := hd.below hb0
  have HO0 : Hid (DR W0 C x D z o) := ho.below hb0
  rw [hW0] at HX0 HB0 HD0 HO0
  clear hW0 hd ho hb0 X0
  have k0 := HX0.out.c0
  have k1 := HX0.out.c1
  have k2 := HX0.out.c2
  have sb := fun (w : World) (h1 : BR w A n d.dry) (h2 : BR w C x o.dry) => equalB_any w A C n x c y d.dry o.dry h1 h2
  by_cases q1 : d.dry = o.dry
  · rw [decide_eq_true q1] at sb
    have se := fun (w : World) (h1 : DR w A n B m d) (h2 : DR w C x D z o) => eqD_any w A n B m e' d C x D z f o h1 h2 hm
    by_cases q2 : d.wet = o.wet
    · rw [decide_eq_true q2] at se
      have HQ : Hid (sameS d o = (d.left == o.left)) := by show _ = _; unfold sameS; rw [decide_eq_true q1, decide_eq_true q2]; rw [Bool.eq_iff_iff]; simp
      clear q1 q2
      go_enter Try.func21, Try.ntmps21
      go_wp2_with (first
        | (go_at_call 43; refine (sb _ HD0.out.1 HO0.out.1).mono ?_; rintro e w' ⟨rfl, rfl⟩)
        | (go_at_call 44; refine (se _ HD0.out HO0.out).mono ?_; rintro e w2 ⟨rfl, hb⟩; have k2 := (HX0.out.below hb).c2; have d2 := ((Bx.made_ (w.alloc (.cells #[.slice A n c, .slice B m e', .int .i64 d.left] 25)) (w.heap.size + 1) (by simp) (.slice C x y) (.slice D z f) (.int .i64 o.left)).below hb).c2; have HB2 := hide (Below.then_ HB0.out hb HB0.out.size); clear hb))
      go_ret
      exact ⟨by rw [HQ.out]; rfl, HB2.out⟩
    · rw [decide_eq_false q2] at se
      have HQ := hide (sameS_wet q2)
      clear q1 q2
      go_enter Try.func21, Try.ntmps21
      go_wp2_with (first
        | (go_at_call 43; refine (sb _ HD0.out.1 HO0.out.1).mono ?_; rintro e w' ⟨rfl, rfl⟩)
        | (go_at_call 44; refine (se _ HD0.out HO0.out).mono ?_; rintro e w2 ⟨rfl, hb⟩; have HB2 := hide (Below.then_ HB0.out hb HB0.out.size); clear hb))
      go_ret
      exact ⟨by rw [HQ.out]; rfl, HB2.out⟩
  · rw [decide_eq_false q1] at sb
    have HQ := hide (sameS_dry q1)
    clear q1
    go_enter Try.func21, Try.ntmps21
    go_wp2_with (first
      | (go_at_call 43; refine (sb _ HD0.out.1 HO0.out.1).mono ?_; rintro e w' ⟨rfl, rfl⟩))
    go_ret
    exact ⟨by rw [HQ.out]; rfl, HB0.out⟩
end Go.Proofs.Ythhemdjggdgaaaa
