/- The reference's check: the same. -/
import Derived.Test.YthhemdjggdgaaaaDoorChk
namespace Go.Proofs.YthhemdjggdgaaaaDoor
open Go.RowKit

theorem box_cell (w : World) (vs : Array Value) (T : TypeId) (i : Nat) (v : Value) (h : vs[i]? = some v) : (w.alloc (.cells vs T)).cell? ⟨w.heap.size, i, none⟩ = some v := by
  have := heap_alloc_new w (.cells vs T)
  simp only [World.cell?, this]
  exact h
theorem box_size (w : World) (o : Obj) : (w.alloc o).heap.size = w.heap.size + 1 := by simp

set_option maxRecDepth 100000 in
set_option maxHeartbeats 2000000 in
theorem rcheck_any (w : World) (A : Option Addr) (n c : Nat) (B : Option Addr) (m e' : Nat) (d : Dk) (hr : DR w A n B m d) (hn : n ≤ 300000) (hm : m ≤ 1000) :
    Calls Tryd.prog 32 #[.agg #[.slice A n c, .slice B m e', .int .i64 d.left]] w fun e w' => e = .returned (.int .i64 (chk d)) ∧ Below w.heap.size w w' := by
  have hdl := hr.dlen
  have hwl := hr.wlen
  obtain ⟨_, ps, hp, hpc⟩ := hr
  have HP := hide hp
  have HC := hide hpc
  have HPL := hide hp.len
  obtain ⟨l, hl⟩ : ∃ l, d.left = l := ⟨_, rfl⟩
  obtain ⟨N, hN⟩ : ∃ N, d.n = N := ⟨_, rfl⟩
  have hN2 : n / 32 = N := by rw [← hN, ← hdl]; rfl
  have HBase : Hid (1 ≤ N → N ≤ 8192 → n = 32 * N → -1 ≤ l → l ≤ 1073741824 → Base d) := fun h1 h2 h3 h4 h5 => ⟨by omega, by omega, by rw [hdl, hN]; omega, by omega, by omega⟩
  have HNot : Hid (¬ (1 ≤ N ∧ N ≤ 8192 ∧ n = 32 * N ∧ -1 ≤ l ∧ l ≤ 1073741824) → chk d = 1) := fun h => chk_one (fun hg => h ⟨by have := hg.one; omega, by have := hg.max; omega, by have := hg.whole; omega, by have := hg.left0; omega, by have := hg.left1; omega⟩)
  rw [hl]
  have HW := hide hwl
  have HN := hide hN
  have hNn : N * 32 ≤ n := by omega
  have hdiv : (n : Int) / 32 = (N : Int) := by omega
  clear hp hpc hdl hwl hl hN hN2
  by_cases q1 : N < 1
  · have t1 : decide ((N : Int) < 1) = true := decide_eq_true (by omega)
    have F := hide (HNot.out (by omega))
    clear q1
    go_enter Tryd.func32, Tryd.ntmps32
    go_wp2_with fail
    go_ret
    exact ⟨by rw [F.out]; rfl, below_alloc _ _⟩
  · have t1 : decide ((N : Int) < 1) = false := decide_eq_false (by omega)
    by_cases q2 : 8192 < N
    · have t2 : decide ((8192 : Int) < (N : Int)) = true := decide_eq_true (by omega)
      have F := hide (HNot.out (by omega))
      clear q1 q2
      go_enter Tryd.func32, Tryd.ntmps32
      go_wp2_with fail
      go_ret
      exact ⟨by rw [F.out]; rfl, below_alloc _ _⟩
    · have t2 : decide ((8192 : Int) < (N : Int)) = false := decide_eq_false (by omega)
      by_cases q3 : n = 32 * N
      · have t3 : ((n : Int) != 32 * (N : Int)) = false := by rw [bne_eq_false_iff_eq]; omega
        by_cases q4 : l < -1
        · have t4 : decide (l < -1) = true := decide_eq_true q4
          have F := hide (HNot.out (by omega))
          clear q1 q2 q3 q4
          go_enter Tryd.func32, Tryd.ntmps32
          go_wp2_with fail
          go_ret
          exact ⟨by rw [F.out]; rfl, below_alloc _ _⟩
        · have t4 : decide (l < -1) = false := decide_eq_false q4
          by_cases q4' : 1073741824 < l
          · have t4' : decide (1073741824 < l) = true := decide_eq_true q4'
            have F := hide (HNot.out (by omega))
            clear q1 q2 q3 q4 q4'
            go_enter Tryd.func32, Tryd.ntmps32
            go_wp2_with fail
            go_ret
            exact ⟨by rw [F.out]; rfl, below_alloc _ _⟩
          · have t4' : decide (1073741824 < l) = false := decide_eq_false q4'
            have HBs := hide (HBase.out (by omega) (by omega) q3 (by omega) (by omega))
            have hNp : 1 ≤ N := by omega
            have hNm : N ≤ 8192 := by omega
            clear q1 q2 q3 q4 q4'
            obtain ⟨w1, hw1⟩ : ∃ w1, w1 = w.alloc (.cells #[.slice A n c, .slice B m e', .int .i64 l] 31) := ⟨_, rfl⟩
            have hb1 : Below w.heap.size w w1 := by rw [hw1]; exact below_alloc _ _
            have hcell : w1.cell? ⟨w.heap.size, 1, none⟩ = some (.slice B m e') := by rw [hw1]; exact box_cell _ _ _ _ _ rfl
            have hsz : w.heap.size < w1.heap.size := by rw [hw1, box_size]; omega
            have HB1 := hide hb1
            have HCL := hide hcell
            have HW1 := hide hw1
            clear hb1 hcell hw1
            go_enter Tryd.func32, Tryd.ntmps32
            go_wp2_with fail
            go_loopw [37] (fun v wr => ∃ (k : Nat), v = .int .i64 k ∧ k ≤ m ∧ Hid (Upto d k) ∧ Hid (Below w1.heap.size w1 wr)) (fun v _ => m - (intOf v).toNat)
            case atStart => exact ⟨0, rfl, by omega, fun i hi => by omega, by rw [← HW1.out]; exact Below.refl _ _⟩
            case round =>
              obtain ⟨k, rfl, hk, HU, HB⟩ := hrel
              have cb := (HB.out.cell (p := ⟨w.heap.size, 1, none⟩) hsz).trans HCL.out
              by_cases hkm : k < m
              · have hkz : (k : Int) < (m : Int) := by omega
                have HPr : Hid (PR wr B m ps) := hide ((HP.out.below HB1.out).below HB.out)
                obtain ⟨ad, rfl, c0, c1⟩ := HPr.out.cell k hkm
                have hpk := HC.out.2 k (by rw [HPL.out]; exact hkm)
                obtain ⟨p, hp⟩ : ∃ p, nth ps k = p := ⟨_, rfl⟩
                obtain ⟨q, hq⟩ : ∃ q, qn d.wet k = q := ⟨_, rfl⟩
                rw [hp] at c0 c1 hpk
                rw [hq] at hpk
                have HQ := hide hq
                obtain ⟨pa, pA, pn, pc⟩ := p
                have hpa : pa = q.1 := hpk.1
                have hpn : q.2.length = pn := hpk.2.len
                have HPA := hide hpa
                have HPN := hide hpn
                clear hp hq hpk hpa hpn
                have hsz2 : w.heap.size < wr.heap.size := Nat.lt_of_lt_of_le hsz HB.out.size
                have cb' : ∀ o, (wr.alloc o).cell? ⟨w.heap.size, 1, none⟩ = some (.slice (some ad) m e') := fun o => (World.cell?_alloc_lt wr o _ hsz2).trans cb
                have hbl : Hid (Below w.heap.size w wr) := hide (Below.then HB1.out HB.out)
                have no : Hid (¬ (0 ≤ pa ∧ pa < N ∧ pn = 32 ∧ (0 < k → (qn d.wet (k - 1)).1 < pa)) → chk d = 1) := fun h => chk_one (fun hg => h (by
                  have hkw : k < d.wet.length := by rw [HW.out]; exact hkm
                  have h1 := upto_good hg k hkw
                  rw [HQ.out, HN.out] at h1
                  exact ⟨by rw [HPA.out]; exact h1.1, by rw [HPA.out]; exact h1.2.1, by rw [← HPN.out]; exact h1.2.2.1, by rw [HPA.out]; exact h1.2.2.2⟩))
                by_cases q5 : pa < 0
                · have t5 : decide (pa < 0) = true := decide_eq_true q5
                  have F := hide (no.out (by omega))
                  clear q5
                  go_wp2_with fail
                  go_quiet (fail)
                  go_wp2_with fail
                  go_ret
                  exact ⟨by rw [F.out]; rfl, below_dr (hbl.out.alloc hbl.out.size _) _⟩
                · have t5 : decide (pa < 0) = false := decide_eq_false q5
                  by_cases q6 : N ≤ pa
                  · have t6 : decide ((N : Int) ≤ pa) = true := decide_eq_true q6
                    have F := hide (no.out (by omega))
                    clear q5 q6
                    go_wp2_with fail
                    go_quiet (fail)
                    go_wp2_with fail
                    go_ret
                    exact ⟨by rw [F.out]; rfl, below_dr (hbl.out.alloc hbl.out.size _) _⟩
                  · have t6 : decide ((N : Int) ≤ pa) = false := decide_eq_false q6
                    by_cases q7 : pn = 32
                    · have t7 : ((pn : Int) != 32) = false := by rw [bne_eq_false_iff_eq]; omega
                      by_cases q8 : 0 < k
                      · have t8 : decide ((0 : Int) < (k : Int)) = true := decide_eq_true (by omega)
                        have t8' : decide (0 < k) = true := decide_eq_true q8
                        obtain ⟨j, hj⟩ : ∃ j : Nat, k = j + 1 := ⟨k - 1, by omega⟩
                        have hjz : (j : Int) < (m : Int) := by omega
                        have hw2 : IntKind.i64.wrap ((k : Int) - 1) = (j : Int) := by rw [IntKind.wrap_i64]; omega
                        obtain ⟨ad', hA, d0, d1⟩ := HPr.out.cell j (by omega)
                        injection hA with hA
                        subst hA
                        have hlt : (ad.add (j * 2)).block < wr.heap.size := by
                          obtain ⟨ad2, hA, hb, _⟩ := HPr.out.2 (by omega)
                          injection hA with hA
                          subst hA
                          rw [block_of_add]; exact hb
                        have e0 : ∀ o, (wr.alloc o).cell? (ad.add (j * 2)) = wr.cell? (ad.add (j * 2)) := fun o => World.cell?_alloc_lt wr o _ hlt
                        rw [d0] at e0
                        clear d0 d1 hlt
                        have hpj := (HC.out.2 j (by rw [HPL.out]; omega)).1
                        obtain ⟨qg, hqg⟩ : ∃ qg, (nth ps j).1 = qg := ⟨_, rfl⟩
                        rw [hqg] at e0 hpj
                        have HJ : Hid ((qn d.wet (k - 1)).1 = qg) := by show _ = _; rw [show k - 1 = j by omega]; exact hpj.symm
                        clear hj hqg hpj
                        by_cases q9 : pa ≤ qg
                        · have t9 : decide (pa ≤ qg) = true := decide_eq_true q9
                          have F := hide (no.out (fun h => by have := h.2.2.2 q8; rw [HJ.out] at this; omega))
                          clear q5 q6 q7 q8 q9
                          go_wp2_with fail
                          go_quiet (fail)
                          go_wp2_with fail
                          go_ret
                          exact ⟨by rw [F.out]; rfl, below_dr (hbl.out.alloc hbl.out.size _) _⟩
                        · have t9 : decide (pa ≤ qg) = false := decide_eq_false q9
                          have HU' : Hid (Upto d (k + 1)) := upto_succ HU.out (by
                            rw [HQ.out, ← HPA.out, HN.out, HPN.out]
                            exact ⟨by omega, by omega, q7, fun h0 => by rw [HJ.out]; omega⟩)
                          clear q5 q6 q7 q8 q9
                          go_wp2_with fail
                          go_quiet (fail)
                          go_wp2_with fail
                          go_roundw
                          case rel => exact ⟨k + 1, by go_num, by omega, HU', hide (below_dr (HB.out.alloc HB.out.size _) _)⟩
                          case measure => simp [intOf]; omega
                      · have t8 : decide ((0 : Int) < (k : Int)) = false := decide_eq_false (by omega)
                        have t8' : decide (0 < k) = false := decide_eq_false q8
                        have HU' : Hid (Upto d (k + 1)) := upto_succ HU.out (by
                          rw [HQ.out, ← HPA.out, HN.out, HPN.out]
                          exact ⟨by omega, by omega, q7, fun h0 => absurd h0 q8⟩)
                        clear q5 q6 q7 q8
                        go_wp2_with fail
                        go_quiet (fail)
                        go_wp2_with fail
                        go_roundw
                        case rel => exact ⟨k + 1, by go_num, by omega, HU', hide (below_dr (HB.out.alloc HB.out.size _) _)⟩
                        case measure => simp [intOf]; omega
                    · have t7 : ((pn : Int) != 32) = true := by rw [bne_iff_ne]; omega
                      have F := hide (no.out (by omega))
                      clear q5 q6 q7
                      go_wp2_with fail
                      go_quiet (fail)
                      go_wp2_with fail
                      go_ret
                      exact ⟨by rw [F.out]; rfl, below_dr (hbl.out.alloc hbl.out.size _) _⟩
              · have hkz : ¬ (k : Int) < (m : Int) := by omega
                have hke : Hid (k = m) := by show _ = _; omega
                go_wp2_with fail
                go_ret
                have hg : Good d := good_upto HBs.out (by rw [HW.out, ← hke.out]; exact HU.out)
                exact ⟨by rw [chk_zero hg]; rfl, Below.then HB1.out HB.out⟩
      · have t3 : ((n : Int) != 32 * (N : Int)) = true := by rw [bne_iff_ne]; omega
        have F := hide (HNot.out (by omega))
        clear q1 q2 q3
        go_enter Tryd.func32, Tryd.ntmps32
        go_wp2_with fail
        go_ret
        exact ⟨by rw [F.out]; rfl, below_alloc _ _⟩
end Go.Proofs.YthhemdjggdgaaaaDoor
