/- Whether a disk may be. -/
import Derived.Test.YthhemdjggdgaaaaDoorDk
namespace Go.Proofs.YthhemdjggdgaaaaDoor
open Go.RowKit

/-- What a disk must be, its pages left aside. -/
structure Base (d : Dk) : Prop where
  one : 1 ≤ d.n
  max : d.n ≤ 8192
  whole : d.dry.length = 32 * d.n
  left0 : -1 ≤ d.left
  left1 : d.left ≤ 1073741824
theorem Good.base {d : Dk} (h : Good d) : Base d := ⟨h.one, h.max, h.whole, h.left0, h.left1⟩
/-- The first k pages may be. -/
def Upto (d : Dk) (k : Nat) : Prop := ∀ i, i < k → 0 ≤ (qn d.wet i).1 ∧ (qn d.wet i).1 < d.n ∧ (qn d.wet i).2.length = 32 ∧ (0 < i → (qn d.wet (i - 1)).1 < (qn d.wet i).1)
theorem good_upto {d : Dk} (h : Base d) (k : Upto d d.wet.length) : Good d :=
  ⟨h.one, h.max, h.whole, h.left0, h.left1, fun i hi => (k i hi).1, fun i hi => (k i hi).2.1, fun i hi => (k i hi).2.2.1, fun i hi => by have := (k (i + 1) hi).2.2.2 (by omega); simpa using this⟩
theorem upto_good {d : Dk} (h : Good d) : Upto d d.wet.length := fun i hi => ⟨h.at0 i hi, h.at1 i hi, h.len i hi, fun h0 => by
  have := h.up (i - 1) (by omega)
  rwa [show i - 1 + 1 = i by omega] at this⟩
theorem upto_succ {d : Dk} {k : Nat} (h : Upto d k) (h0 : 0 ≤ (qn d.wet k).1 ∧ (qn d.wet k).1 < d.n ∧ (qn d.wet k).2.length = 32 ∧ (0 < k → (qn d.wet (k - 1)).1 < (qn d.wet k).1)) : Upto d (k + 1) := by
  intro i hi
  by_cases e : i = k
  · subst e; exact h0
  · exact h i (by omega)

set_option maxHeartbeats 1000000 in
theorem check_any (w : World) (A : Option Addr) (n c : Nat) (B : Option Addr) (m e' : Nat) (d : Dk) (hr : DR w A n B m d) (hn : n ≤ 300000) (hm : m ≤ 1000) :
    Calls Tryd.prog 43 #[.agg #[.slice A n c, .slice B m e', .int .i64 d.left]] w fun e w' => e = .returned (.int .i64 (chk d)) ∧ Below w.heap.size w w' := by
  have hdl := hr.dlen
  have hwl := hr.wlen
  obtain ⟨_, ps, hp, hpc⟩ := hr
  have HP := hide hp
  have HC := hide hpc
  have HPL := hide hp.len
  obtain ⟨l, hl⟩ : ∃ l, d.left = l := ⟨_, rfl⟩
  obtain ⟨N, hN⟩ : ∃ N, d.n = N := ⟨_, rfl⟩
  have hN2 : n / 32 = N := by rw [← hN, ← hdl]; rfl
  have HBase : Hid (1 ≤ N → N ≤ 8192 → n % 32 = 0 → lims l = true → Base d) := fun h1 h2 h3 h4 => by
    rw [lims_iff] at h4
    exact ⟨by omega, by omega, by rw [hdl, hN]; omega, by omega, by omega⟩
  have HNot : Hid (¬ (1 ≤ N ∧ N ≤ 8192 ∧ n % 32 = 0 ∧ lims l = true) → chk d = 1) := fun h => chk_one (fun hg => h ⟨by have := hg.one; omega, by have := hg.max; omega, by have := hg.whole; omega, by rw [lims_iff]; have := hg.left0; have := hg.left1; omega⟩)
  rw [hl]
  have HW := hide hwl
  have HN := hide hN
  have hNn : N * 32 ≤ n := by omega
  have hdiv : (n : Int) / 32 = (N : Int) := by omega
  clear hp hpc hdl hwl hl hN hN2
  by_cases q1 : N < 1
  · have t1 : decide ((N : Int) < 1) = true := decide_eq_true (by omega)
    have F := hide (HNot.out (by omega))
    clear q1
    go_enter Tryd.func43, Tryd.ntmps43
    go_wp2_with fail
    go_ret
    exact ⟨by rw [F.out]; rfl, below_alloc _ _⟩
  · have t1 : decide ((N : Int) < 1) = false := decide_eq_false (by omega)
    by_cases q2 : 8192 < N
    · have t2 : decide ((8192 : Int) < (N : Int)) = true := decide_eq_true (by omega)
      have F := hide (HNot.out (by omega))
      clear q1 q2
      go_enter Tryd.func43, Tryd.ntmps43
      go_wp2_with fail
      go_ret
      exact ⟨by rw [F.out]; rfl, below_alloc _ _⟩
    · have t2 : decide ((8192 : Int) < (N : Int)) = false := decide_eq_false (by omega)
      by_cases q3 : n % 32 = 0
      · have t3 : ((n : Int) % 32 != 0) = false := by rw [bne_eq_false_iff_eq]; omega
        cases q4 : lims l with
        | false =>
          have F := hide (HNot.out (by rw [q4]; simp))
          clear q1 q2 q3
          go_enter Tryd.func43, Tryd.ntmps43
          go_wp2_with (first | (go_at_call 57; refine (limit_any _ _).mono ?_; rintro e w' ⟨rfl, rfl⟩; rw [q4]))
          go_ret
          exact ⟨by rw [F.out]; rfl, below_alloc _ _⟩
        | true =>
          have HBs := hide (HBase.out (by omega) (by omega) q3 q4)
          have hNp : 1 ≤ N := by omega
          have hNm : N ≤ 8192 := by omega
          clear q1 q2 q3
          go_enter Tryd.func43, Tryd.ntmps43
          go_wp2_with (first | (go_at_call 57; refine (limit_any _ _).mono ?_; rintro e w' ⟨rfl, rfl⟩; rw [q4]))
          go_loopw [4, 33] (fun u v wr => ∃ (k : Nat) (x : Int), u = .int .i64 x ∧ v = .int .i64 k ∧ k ≤ m ∧ 0 ≤ x ∧ x ≤ N ∧ Hid (x = if k = 0 then 0 else (qn d.wet (k - 1)).1 + 1) ∧ Hid (Upto d k) ∧ Hid (Below w.heap.size w wr)) (fun _ v _ => m - (intOf v).toNat)
          case atStart => exact ⟨0, 0, rfl, rfl, by omega, by omega, by omega, rfl, fun i hi => by omega, below_alloc _ _⟩
          case round =>
            obtain ⟨k, x, rfl, rfl, hk, hx0, hx1, HX, HU, HB⟩ := hrel
            by_cases hkm : k < m
            · have hkz : (k : Int) < (m : Int) := by omega
              obtain ⟨ad, rfl, c0, c1⟩ := (HP.out.below HB.out).cell k hkm
              have hpk := HC.out.2 k (by rw [HPL.out]; exact hkm)
              obtain ⟨p, hp⟩ : ∃ p, nth ps k = p := ⟨_, rfl⟩
              obtain ⟨q, hq⟩ : ∃ q, qn d.wet k = q := ⟨_, rfl⟩
              rw [hp] at c0 c1 hpk
              rw [hq] at hpk
              have HQ := hide hq
              obtain ⟨pa, pA, pn, pc⟩ := p
              have hpa : pa = q.1 := hpk.1
              have hpn : q.2.length = pn := hpk.2.len
              have HPA := hide hpa
              have HPN := hide hpn
              clear hp hq hpk hpa hpn
              have no : Hid (¬ (x ≤ pa ∧ pa < N ∧ pn = 32) → chk d = 1) := fun h => chk_one (fun hg => h (by
                have hkw : k < d.wet.length := by rw [HW.out]; exact hkm
                have h1 := upto_good hg k hkw
                rw [HQ.out, HN.out] at h1
                refine ⟨?_, by rw [HPA.out]; exact h1.2.1, by rw [← HPN.out]; exact h1.2.2.1⟩
                rw [HX.out, HPA.out]
                split
                · exact h1.1
                · have := h1.2.2.2 (by omega); omega))
              by_cases q5 : pa < x
              · have t5 : decide (pa < x) = true := decide_eq_true q5
                have F := hide (no.out (by omega))
                clear q5
                go_wp2_with fail
                go_ret
                exact ⟨by rw [F.out]; rfl, HB.out.alloc HB.out.size _⟩
              · have t5 : decide (pa < x) = false := decide_eq_false q5
                by_cases q6 : N ≤ pa
                · have t6 : decide ((N : Int) ≤ pa) = true := decide_eq_true q6
                  have F := hide (no.out (by omega))
                  clear q5 q6
                  go_wp2_with fail
                  go_ret
                  exact ⟨by rw [F.out]; rfl, HB.out.alloc HB.out.size _⟩
                · have t6 : decide ((N : Int) ≤ pa) = false := decide_eq_false q6
                  by_cases q7 : pn = 32
                  · have t7 : ((pn : Int) != 32) = false := by rw [bne_eq_false_iff_eq]; omega
                    have HU' : Hid (Upto d (k + 1)) := upto_succ HU.out (by
                      rw [HQ.out, ← HPA.out, HN.out, HPN.out]
                      refine ⟨by omega, by omega, q7, fun h0 => ?_⟩
                      have := HX.out
                      rw [if_neg (by omega)] at this
                      omega)
                    have HX' : Hid (pa + 1 = if k + 1 = 0 then 0 else (qn d.wet (k + 1 - 1)).1 + 1) := by
                      show _ = _
                      rw [if_neg (by omega), show k + 1 - 1 = k by omega, HQ.out, HPA.out]
                    have hp0 : 0 ≤ pa + 1 := by omega
                    have hp1 : pa + 1 ≤ N := by omega
                    clear q5 q6 q7
                    go_wp2_with fail
                    go_roundw
                    case rel => exact ⟨k + 1, pa + 1, by first | rfl | go_num, by go_num, by omega, hp0, hp1, HX', HU', hide (HB.out.alloc HB.out.size _)⟩
                    case measure => simp [intOf]; omega
                  · have t7 : ((pn : Int) != 32) = true := by rw [bne_iff_ne]; omega
                    have F := hide (no.out (by omega))
                    clear q5 q6 q7
                    go_wp2_with fail
                    go_ret
                    exact ⟨by rw [F.out]; rfl, HB.out.alloc HB.out.size _⟩
            · have hkz : ¬ (k : Int) < (m : Int) := by omega
              have hke : Hid (k = m) := by show _ = _; omega
              go_wp2_with fail
              go_ret
              have hg : Good d := good_upto HBs.out (by rw [HW.out, ← hke.out]; exact HU.out)
              exact ⟨by rw [chk_zero hg]; rfl, HB.out⟩
      · have t3 : ((n : Int) % 32 != 0) = true := by rw [bne_iff_ne]; omega
        have F := hide (HNot.out (by omega))
        clear q1 q2 q3
        go_enter Tryd.func43, Tryd.ntmps43
        go_wp2_with fail
        go_ret
        exact ⟨by rw [F.out]; rfl, below_alloc _ _⟩
end Go.Proofs.YthhemdjggdgaaaaDoor
