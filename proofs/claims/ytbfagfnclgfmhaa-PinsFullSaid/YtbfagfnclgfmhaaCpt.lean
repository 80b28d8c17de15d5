import Derived.Test.YtbfagfnclgfmhaaCln
import Derived.Test.YtbfagfnclgfmhaaRowk
namespace Go.Proofs.Ytbfagfnclgfmhaa
open Go.RowKit

section
variable {base : Nat} {w w' : World} {g n c : Nat} {ps : List Pin}
theorem Own.at (h : Own base w (some ⟨g, 0, none⟩) n c ps) (i : Nat) (hi : i < n) : w.cell? ⟨g, i * 2, none⟩ = some (.int .u64 (nth ps i).1) ∧ w.cell? ⟨g, i * 2 + 1, none⟩ = some (.int .i64 (nth ps i).2) := by
  have hl := h.reads.len
  obtain ⟨h1, h2⟩ := pcs_get ps i (by omega)
  exact ⟨(World.ownsRow.cellAt h _ (by omega)).trans h1, (World.ownsRow.cellAt h _ (by omega)).trans h2⟩
theorem Own.froz (h : Own base w (some ⟨g, 0, none⟩) n c ps) (j : Nat) : w.frozen? ⟨g, j, none⟩ = false := World.ownsRow.frozenAt h j
theorem Own.lt (h : Own base w (some ⟨g, 0, none⟩) n c ps) : base ≤ g ∧ g < w.heap.size := World.ownsRow.lt h g rfl
theorem Own.cap (h : Own base w (some ⟨g, 0, none⟩) n c ps) : n ≤ c ∧ c ≤ maxLen := by
  rcases h.2 with ⟨h', _⟩ | ⟨g', cap', cur, h', hb, hg, hnc, hcm, _⟩
  · cases h'
  · injection h' with _ _ h'; subst h'; exact ⟨hnc, hcm⟩
theorem pcs_set (ps : List Pin) (k : Nat) (x : Pin) : pcs (ps.set k x) = ((pcs ps).set (k * 2) (.int .u64 x.1)).set (k * 2 + 1) (.int .i64 x.2) := by
  induction ps generalizing k with
  | nil => simp [pcs]
  | cons p ps ih =>
    cases k with
    | zero => rfl
    | succ k =>
      rw [List.set_cons_succ, pcs_cons, pcs_cons, ih, show (k + 1) * 2 = k * 2 + 1 + 1 by omega]
      rfl
theorem Own.put (h : Own base w (some ⟨g, 0, none⟩) n c ps) (k : Nat) (x : Pin) :
    Own base ((w.setCell ⟨g, k * 2, none⟩ (.int .u64 x.1)).setCell ⟨g, k * 2 + 1, none⟩ (.int .i64 x.2)) (some ⟨g, 0, none⟩) n c (ps.set k x) ∧
    w.grownBy ((w.setCell ⟨g, k * 2, none⟩ (.int .u64 x.1)).setCell ⟨g, k * 2 + 1, none⟩ (.int .i64 x.2)) (some g) := by
  obtain ⟨h1, h2⟩ := World.ownsRow.stored h (k * 2) (.int .u64 x.1)
  obtain ⟨h3, h4⟩ := h1.stored (k * 2 + 1) (.int .i64 x.2)
  unfold Own; rw [pcs_set]
  exact ⟨h3, grownBy_trans h2 h4⟩
end

/-- Some one's generation is the one's behind it. -/
def twins (ps : List Pin) : Bool := decide (∃ i, i < ps.length - 1 ∧ (nth ps i).1 = (nth ps (i + 1)).1)

def CptPost (base : Nat) (w : World) (n : Nat) (ps : List Pin) (e : Ending) (w' : World) : Prop :=
  ∃ (A : Option Addr) (L c : Nat), e = .returned (.slice A L c) ∧ decide ((L : Int) < (n : Int)) = twins ps ∧ Below base w w'

set_option maxHeartbeats 1000000 in
theorem compact_any (base : Nat) (w : World) (A : Option Addr) (n c : Nat) (ps : List Pin) (ho : Own base w A n c ps) (hb : base ≤ w.heap.size) (hn : n ≤ 1000) :
    Calls Try.prog 32 #[.slice A n c, .func (.func 29) #[] #[]] w (CptPost base w n ps) := by
  have hlen := ho.reads.len
  by_cases h2 : n < 2
  · have hz : (n : Int) < 2 := by omega
    have HT : Hid (twins ps = false) := by
      show twins ps = false
      unfold twins
      refine decide_eq_false (fun ⟨i, hi, _⟩ => by omega)
    clear ho
    go_enter Try.func32, Try.ntmps32
    go_wp2_with fail
    go_ret
    exact ⟨_, n, _, rfl, by rw [HT.out]; simp, Below.refl _ _⟩
  · have hz : (2 : Int) ≤ (n : Int) := by omega
    obtain ⟨g, rfl⟩ : ∃ g, A = some ⟨g, 0, none⟩ := by
      rcases ho.2 with ⟨h', h0⟩ | ⟨g', cap', cur, h', _⟩
      · omega
      · injection h' with h' _ _; exact ⟨g', h'⟩
    have HO := hide ho
    have HL := hide hlen
    clear ho hlen
    go_enter Try.func32, Try.ntmps32
    go_wp2_with fail
    go_loopw [5] (fun v wr => ∃ k : Nat, v = .int .i64 k ∧ 1 ≤ k ∧ k ≤ n ∧ Hid (∀ i, i + 1 < k → (nth ps i).1 ≠ (nth ps (i + 1)).1) ∧ Hid (Below w.heap.size w wr)) (fun v _ => n - (intOf v).toNat)
    case atStart => exact ⟨1, rfl, by omega, by omega, hide (fun i hi => by omega), hide (Below.refl _ _)⟩
    case round =>
      obtain ⟨k, rfl, hk1, hk, HK, HB⟩ := hrel
      by_cases hkn : k < n
      · have hkz : (k : Int) < (n : Int) := by omega
        obtain ⟨j, hj⟩ : ∃ j : Nat, k = j + 1 := ⟨k - 1, by omega⟩
        have hjz : (j : Int) < (n : Int) := by omega
        have hw1 : IntKind.i64.wrap ((k : Int) - 1) = (j : Int) := by rw [IntKind.wrap_i64]; omega
        obtain ⟨c0, c1⟩ := (HO.out.below HB.out).at k hkn
        obtain ⟨d0, d1⟩ := (HO.out.below HB.out).at j (by omega)
        obtain ⟨p, hp⟩ : ∃ p, nth ps k = p := ⟨_, rfl⟩
        obtain ⟨q, hq⟩ : ∃ q, nth ps j = q := ⟨_, rfl⟩
        rw [hp] at c0 c1
        rw [hq] at d0 d1
        have HP := hide hp
        have HQ := hide hq
        have HJ := hide hj
        clear hp hq hj
        cases hpq : p.1 == q.1 with
        | false =>
          go_wp2_with fail
          obtain ⟨w2, hw2⟩ : ∃ w2, w2 = wr.drew := ⟨_, rfl⟩
          have B2 : Hid (Below w.heap.size w w2) := by rw [hw2]; exact HB.out.drew
          rw [show wr.cell? = w2.cell? from by rw [hw2]; rfl] at c0 c1 d0 d1
          refine wp_region_still_tail 10 (by kernel_rfl) (by kernel_rfl) ?_
          show wpStill Try.prog _ wr.drew (fun a' => wpList Try.prog _ _ _ a' wr.drew) _ _
          rw [← hw2]
          clear hw2
          simp only [List.take_succ_cons, List.take_zero, List.drop_succ_cons, List.drop_zero]
          repeat still_step
          refine wpStill_nil ?_
          go_wp2_with (go_at_call 29; refine (equ_any p q _).mono ?_; rintro e w' ⟨rfl, hb⟩; have HB' := hide hb; clear hb; rw [hpq])
          go_roundw
          case rel =>
            refine ⟨k + 1, by go_num, by omega, by omega, hide (fun i hi => ?_), hide (B2.out.trans (HB'.out.mono B2.out.size))⟩
            by_cases hik : i + 1 < k
            · exact HK.out i hik
            · have := HJ.out
              obtain rfl : i = j := by omega
              rw [← HJ.out, HP.out, HQ.out]
              have := beq_eq_false_iff_ne.1 hpq
              exact fun h => this h.symm
          case measure => simp [intOf]; omega
        | true =>
          go_wp2_with fail
          obtain ⟨w2, hw2⟩ : ∃ w2, w2 = wr.drew := ⟨_, rfl⟩
          have B2 : Hid (Below w.heap.size w w2) := by rw [hw2]; exact HB.out.drew
          rw [show wr.cell? = w2.cell? from by rw [hw2]; rfl] at c0 c1 d0 d1
          refine wp_region_still_tail 10 (by kernel_rfl) (by kernel_rfl) ?_
          show wpStill Try.prog _ wr.drew (fun a' => wpList Try.prog _ _ _ a' wr.drew) _ _
          rw [← hw2]
          clear hw2
          simp only [List.take_succ_cons, List.take_zero, List.drop_succ_cons, List.drop_zero]
          repeat still_step
          refine wpStill_nil ?_
          have HT : Hid (twins ps = true) := by
            show twins ps = true
            unfold twins
            refine decide_eq_true ⟨j, by rw [HL.out]; have := HJ.out; omega, ?_⟩
            rw [← HJ.out, HP.out, HQ.out]
            exact (beq_iff_eq.1 hpq).symm
          have hck : ¬ (c = k) := by have := HO.out.cap.1; omega
          have hkc : (k : Int) ≤ (n : Int) := by omega
          go_wp2_with (go_at_call 29; refine (equ_any p q _).mono ?_; rintro e w3 ⟨rfl, hb⟩; have HB' := hide hb; clear hb; rw [hpq])
          have HB3 : Hid (Below w.heap.size w w3) := hide (B2.out.trans (HB'.out.mono B2.out.size))
          have HO3 : Hid (Own base w3 (some ⟨g, 0, none⟩) n c ps) := hide (HO.out.below HB3.out)
          have HB3' : Hid (Below base w w3) := hide (HB3.out.mono hb)
          have HC := hide HO.out.cap
          clear c0 c1 d0 d1 HB' B2 HB3 HK HP HQ HJ hw1 hjz hpq
          go_loopw [5, 7] (fun v u wr => ∃ (k' k2 : Nat) (qs : List Pin), v = .int .i64 k' ∧ u = .int .i64 k2 ∧ 1 ≤ k2 ∧ k2 ≤ n - k ∧ 1 ≤ k' ∧ k' + 1 ≤ k + k2 ∧ Hid (Own base wr (some ⟨g, 0, none⟩) n c qs) ∧ Hid (Below base w wr)) (fun _ v _ => n - k - (intOf v).toNat)
          case atStart => exact ⟨k, 1, ps, rfl, rfl, by omega, by omega, by omega, by omega, HO3, HB3'⟩
          case round =>
            obtain ⟨k', k2, qs, rfl, rfl, hk2, hk2n, hk', hkk, HW, HBB⟩ := hrel
            by_cases hin : k2 < n - k
            · have hinz : (k2 : Int) < ((n - k : Nat) : Int) := by omega
              obtain ⟨j2, hj2⟩ : ∃ j2 : Nat, k2 = j2 + 1 := ⟨k2 - 1, by omega⟩
              have hj2z : (j2 : Int) < ((n - k : Nat) : Int) := by omega
              have hw2 : IntKind.i64.wrap ((k2 : Int) - 1) = (j2 : Int) := by rw [IntKind.wrap_i64]; omega
              obtain ⟨c0, c1⟩ := HW.out.at (k + k2) (by omega)
              obtain ⟨d0, d1⟩ := HW.out.at (k + j2) (by omega)
              rw [Nat.add_mul] at c0 c1 d0 d1
              obtain ⟨p', hp⟩ : ∃ p', nth qs (k + k2) = p' := ⟨_, rfl⟩
              obtain ⟨q', hq⟩ : ∃ q', nth qs (k + j2) = q' := ⟨_, rfl⟩
              rw [hp] at c0 c1
              rw [hq] at d0 d1
              have HJ2 := hide hj2
              clear hp hq hj2
              go_wp2_with fail
              obtain ⟨w4, hw4⟩ : ∃ w4, w4 = wr.drew := ⟨_, rfl⟩
              have B4 : Hid (Below base w w4) := by rw [hw4]; exact HBB.out.drew
              have O4 : Hid (Own base w4 (some ⟨g, 0, none⟩) n c qs) := by rw [hw4]; exact HW.out
              rw [show wr.cell? = w4.cell? from by rw [hw4]; rfl] at c0 c1 d0 d1
              refine wp_region_still_tail 10 (by kernel_rfl) (by kernel_rfl) ?_
              show wpStill Try.prog _ wr.drew (fun a' => wpList Try.prog _ _ _ a' wr.drew) _ _
              rw [← hw4]
              clear hw4 HBB HW
              simp only [List.take_succ_cons, List.take_zero, List.drop_succ_cons, List.drop_zero]
              repeat still_step
              refine wpStill_nil ?_
              have hkk1 : k' < n := by omega
              have hkk2 : (k' : Int) < (n : Int) := by omega
              cases hpq' : p'.1 == q'.1 with
              | true =>
                go_wp2_with (go_at_call 29; refine (equ_any p' q' _).mono ?_; rintro e w5 ⟨rfl, hb5⟩; have HB5 := hide hb5; clear hb5; rw [hpq'])
                go_roundw
                case rel => exact ⟨k', k2 + 1, qs, rfl, by go_num, by omega, by omega, by omega, by omega, hide (O4.out.below HB5.out), hide (B4.out.trans (HB5.out.mono (by have := O4.out.lt; omega)))⟩
                case measure => simp [intOf]; omega
              | false =>
                clear c0 c1 d0 d1
                go_wp2_with (go_at_call 29; refine (equ_any p' q' _).mono ?_; rintro e w5 ⟨rfl, hb5⟩; have HB5 := hide hb5; clear hb5; rw [hpq']; have O5 : Hid (Own base w5 (some ⟨g, 0, none⟩) n c qs) := hide (O4.out.below HB5.out); obtain ⟨e0, e1⟩ := O5.out.at (k + k2) (by omega); obtain ⟨f0, f1⟩ := O5.out.at k' (by omega); have g0 := O5.out.froz (k' * 2); have g1 := O5.out.froz (k' * 2 + 1); rw [Nat.add_mul] at e0 e1)
                go_roundw
                case rel => 
                  have hput := O5.out.put k' (nth qs (k + k2))
                  refine ⟨k' + 1, k2 + 1, _, by go_num, by go_num, by omega, by omega, by omega, by omega, hide hput.1, hide ((B4.out.trans (HB5.out.mono (by have := O4.out.lt; omega))).grown hput.2 (by have := O5.out.lt; omega) (fun k hk => by injection hk with hk; have := O5.out.lt; omega))⟩
                case measure => simp [intOf]; omega
            · have hinz : ¬ (k2 : Int) < ((n - k : Nat) : Int) := by omega
              have hkn' : (k' : Int) ≤ (n : Int) := by omega
              have hck' : ¬ (c = k') := by have := HC.out.1; omega
              have q1 : k' * 2 + (n - k') * 2 ≤ n * 2 := by omega
              have q2 : 0 < n - k' := by omega
              have q3 : 0 < 2 := by omega
              have q4 : k' ≤ c := by have := HC.out.1; omega
              have q5 : (k' : Int) ≤ (c : Int) := by omega
              obtain ⟨i0, hi0, hz0, hz1, hz2⟩ := info_parts pin_info
              have hzv : ∀ w, (zeroValue 41).run Try.prog w = .ok (.agg #[.int .u64 0, .int .i64 0]) w := fun w => by simp [zeroValue, typeInfo, hi0, hz0]
              go_wp2_with ((with_reducible show wpList _ _ _ (⟨_, .call ⟨.builtin .clear, _, _⟩, _, _, _, _⟩ :: _) _ _); refine wpList_clear_row rfl (.tmp 61) 24 rfl _ Try.underlying24 hzv rfl (by intro v hv; simp [Value.cells] at hv; rcases hv with rfl | rfl <;> rfl) q3 HW.out (k' * 2) (n - k') (c - k') rfl q1 q2 ?_; intro w6 ho6 hg6)
              go_ret
              refine ⟨_, k', _, rfl, ?_, HBB.out.grown hg6 (by have := HW.out.lt; omega) (fun k hk => by injection hk with hk; have := HW.out.lt; omega)⟩
              rw [HT.out]
              exact decide_eq_true (by omega)
      · have hkz : ¬ (k : Int) < (n : Int) := by omega
        have hke : Hid (k = n) := by show _ = _; omega
        go_wp2_with fail
        go_ret
        refine ⟨_, n, _, rfl, ?_, HB.out.mono hb⟩
        have HT : twins ps = false := by
          unfold twins
          refine decide_eq_false (fun ⟨i, hi, he⟩ => HK.out i (by rw [hke.out, ← HL.out]; omega) he)
        rw [HT]; simp
end Go.Proofs.Ytbfagfnclgfmhaa
