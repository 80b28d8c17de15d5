/- The reference's octets of a root. -/
import Derived.Test.YthhemdjggdgaaaaDoorRof
namespace Go.Proofs.YthhemdjggdgaaaaDoor
open Go.RowKit
set_option linter.unusedVariables false

def is02 (a l : Int) : Bool := decide (0 ≤ a) && (decide (1 ≤ l) && (decide (a ≤ 8192) && decide (l ≤ 8192 - a)))
set_option maxRecDepth 100000 in
set_option maxHeartbeats 2000000 in
theorem ris02_any (w : World) (a l : Int) : Calls Tryd.prog 36 #[.int .i64 8192, .agg #[.int .i64 a, .int .i64 l]] w fun e w' => e = .returned (.bool (is02 a l)) ∧ Below w.heap.size w w' := by
  by_cases c0 : ¬ 0 ≤ a
  · have HE : Hid (is02 a l = false) := by show _ = _; unfold is02; simp; omega
    
    go_enter Tryd.func36, Tryd.ntmps36
    go_wp2_with fail
    go_ret
    exact ⟨by rw [HE.out]; rfl, below_alloc _ _⟩
  · skip
    have d0 : 0 ≤ a := by omega
    by_cases c1 : ¬ 1 ≤ l
    · have HE : Hid (is02 a l = false) := by show _ = _; unfold is02; simp; omega
      
      go_enter Tryd.func36, Tryd.ntmps36
      go_wp2_with fail
      go_ret
      exact ⟨by rw [HE.out]; rfl, below_alloc _ _⟩
    · skip
      have d1 : 1 ≤ l := by omega
      by_cases c2 : ¬ a ≤ 8192
      · have HE : Hid (is02 a l = false) := by show _ = _; unfold is02; simp; omega
        
        go_enter Tryd.func36, Tryd.ntmps36
        go_wp2_with fail
        go_ret
        exact ⟨by rw [HE.out]; rfl, below_alloc _ _⟩
      · skip
        have d2 : a ≤ 8192 := by omega
        have w1 : IntKind.i64.wrap (8192 - a) = 8192 - a := IntWalk.i64_in _ (by omega)
        have w2 := IntWalk.wrap64_in (8192 - a) (by omega)
        by_cases c3 : ¬ l ≤ 8192 - a
        · have HE : Hid (is02 a l = false) := by show _ = _; unfold is02; simp; omega
          
          go_enter Tryd.func36, Tryd.ntmps36
          go_wp2_with fail
          go_ret
          exact ⟨by rw [HE.out]; rfl, below_alloc _ _⟩
        · skip
          have d3 : l ≤ 8192 - a := by omega
          have HE : Hid (is02 a l = true) := by show _ = _; unfold is02; simp; omega
          go_enter Tryd.func36, Tryd.ntmps36
          go_wp2_with fail
          go_ret
          exact ⟨by rw [HE.out]; rfl, below_alloc _ _⟩

set_option maxRecDepth 100000 in
set_option maxHeartbeats 2000000 in
theorem rrcheck_any (w : World) (r : Rt) : Calls Tryd.prog 22 #[rtv r] w fun e w' => e = .returned (.int .i64 (rchk r)) ∧ Below w.heap.size w w' := by
  unfold rtv
  have isarm := fun w => ris02_any w r.at_ r.len
  by_cases c0 : r.gen < 1
  · have z0 : ((r.gen : Nat) : Int) < 1 := by omega
    have HE := hide (rchk_one (r := r) (fun h => by have h1 := h.g1; have h2 := h.g2; have h3 := h.n2; have h4 := h.a1; have h5 := h.a2; have h6 := h.l1; have h7 := h.l2; have h8 := h.o1; have h9 := h.o2; omega))
    go_enter Tryd.func22, Tryd.ntmps22
    go_wp2_with fail
    go_ret
    exact ⟨by rw [HE.out]; rfl, below_alloc _ _⟩
  · skip
    have z0 : ¬ ((r.gen : Nat) : Int) < 1 := by omega
    by_cases c1 : 1099511627776 < r.gen
    · have z1 : (1099511627776 : Int) < (r.gen : Int) := by omega
      have HE := hide (rchk_one (r := r) (fun h => by have h1 := h.g1; have h2 := h.g2; have h3 := h.n2; have h4 := h.a1; have h5 := h.a2; have h6 := h.l1; have h7 := h.l2; have h8 := h.o1; have h9 := h.o2; omega))
      go_enter Tryd.func22, Tryd.ntmps22
      go_wp2_with fail
      go_ret
      exact ⟨by rw [HE.out]; rfl, below_alloc _ _⟩
    · skip
      have z1 : ¬ (1099511627776 : Int) < (r.gen : Int) := by omega
      by_cases c2 : is02 r.at_ r.len = false
      · have HQ : Hid (¬ (0 ≤ r.at_ ∧ 1 ≤ r.len ∧ r.at_ ≤ 8192 ∧ r.len ≤ 8192 - r.at_)) := by
          show ¬ _
          intro h
          rw [show is02 r.at_ r.len = true by unfold is02; simp; omega] at c2
          cases c2
        have HE := hide (rchk_one (r := r) (fun h => by have h1 := h.g1; have h2 := h.g2; have h3 := h.n2; have h4 := h.a1; have h5 := h.a2; have h6 := h.l1; have h7 := h.l2; have h8 := h.o1; have h9 := h.o2; exact HQ.out ⟨by omega, by omega, by omega, by omega⟩))
        rw [c2] at isarm
        clear c2
        go_enter Tryd.func22, Tryd.ntmps22
        go_wp2_with (first
          | (go_at_call 36; (with_reducible refine (isarm _).mono ?_); rintro e w1 ⟨rfl, hb⟩; have k0 := (hb.cell (p := ⟨w.heap.size, 0, none⟩) (by simp)).trans (box_cell w _ _ 0 _ rfl); have k1 := (hb.cell (p := ⟨w.heap.size, 1, none⟩) (by simp)).trans (box_cell w _ _ 1 _ rfl); have k2 := (hb.cell (p := ⟨w.heap.size, 2, none⟩) (by simp)).trans (box_cell w _ _ 2 _ rfl); have k3 := (hb.cell (p := ⟨w.heap.size, 3, none⟩) (by simp)).trans (box_cell w _ _ 3 _ rfl); have k4 := (hb.cell (p := ⟨w.heap.size, 4, none⟩) (by simp)).trans (box_cell w _ _ 4 _ rfl); have k5 := (hb.cell (p := ⟨w.heap.size, 5, none⟩) (by simp)).trans (box_cell w _ _ 5 _ rfl); have HB := hide (Below.then (below_alloc w _) hb); clear hb))
        go_ret
        exact ⟨by rw [HE.out]; rfl, HB.out⟩
      · skip
        have q0 : 0 ≤ r.at_ ∧ 1 ≤ r.len ∧ r.at_ ≤ 8192 ∧ r.len ≤ 8192 - r.at_ := by
          have h : is02 r.at_ r.len = true := by simpa using c2
          unfold is02 at h
          simp at h
          omega
        obtain ⟨q1, q2, q3, q4⟩ := q0
        rw [show is02 r.at_ r.len = true by simpa using c2] at isarm
        clear c2
        by_cases c3 : r.at_ < 2
        · have HE := hide (rchk_one (r := r) (fun h => by have h1 := h.g1; have h2 := h.g2; have h3 := h.n2; have h4 := h.a1; have h5 := h.a2; have h6 := h.l1; have h7 := h.l2; have h8 := h.o1; have h9 := h.o2; omega))
          go_enter Tryd.func22, Tryd.ntmps22
          go_wp2_with (first
            | (go_at_call 36; (with_reducible refine (isarm _).mono ?_); rintro e w1 ⟨rfl, hb⟩; have k0 := (hb.cell (p := ⟨w.heap.size, 0, none⟩) (by simp)).trans (box_cell w _ _ 0 _ rfl); have k1 := (hb.cell (p := ⟨w.heap.size, 1, none⟩) (by simp)).trans (box_cell w _ _ 1 _ rfl); have k2 := (hb.cell (p := ⟨w.heap.size, 2, none⟩) (by simp)).trans (box_cell w _ _ 2 _ rfl); have k3 := (hb.cell (p := ⟨w.heap.size, 3, none⟩) (by simp)).trans (box_cell w _ _ 3 _ rfl); have k4 := (hb.cell (p := ⟨w.heap.size, 4, none⟩) (by simp)).trans (box_cell w _ _ 4 _ rfl); have k5 := (hb.cell (p := ⟨w.heap.size, 5, none⟩) (by simp)).trans (box_cell w _ _ 5 _ rfl); have HB := hide (Below.then (below_alloc w _) hb); clear hb))
          go_ret
          exact ⟨by rw [HE.out]; rfl, HB.out⟩
        · skip
          skip
          by_cases c4 : r.long < 0
          · have HE := hide (rchk_one (r := r) (fun h => by have h1 := h.g1; have h2 := h.g2; have h3 := h.n2; have h4 := h.a1; have h5 := h.a2; have h6 := h.l1; have h7 := h.l2; have h8 := h.o1; have h9 := h.o2; omega))
            go_enter Tryd.func22, Tryd.ntmps22
            go_wp2_with (first
              | (go_at_call 36; (with_reducible refine (isarm _).mono ?_); rintro e w1 ⟨rfl, hb⟩; have k0 := (hb.cell (p := ⟨w.heap.size, 0, none⟩) (by simp)).trans (box_cell w _ _ 0 _ rfl); have k1 := (hb.cell (p := ⟨w.heap.size, 1, none⟩) (by simp)).trans (box_cell w _ _ 1 _ rfl); have k2 := (hb.cell (p := ⟨w.heap.size, 2, none⟩) (by simp)).trans (box_cell w _ _ 2 _ rfl); have k3 := (hb.cell (p := ⟨w.heap.size, 3, none⟩) (by simp)).trans (box_cell w _ _ 3 _ rfl); have k4 := (hb.cell (p := ⟨w.heap.size, 4, none⟩) (by simp)).trans (box_cell w _ _ 4 _ rfl); have k5 := (hb.cell (p := ⟨w.heap.size, 5, none⟩) (by simp)).trans (box_cell w _ _ 5 _ rfl); have HB := hide (Below.then (below_alloc w _) hb); clear hb))
            go_ret
            exact ⟨by rw [HE.out]; rfl, HB.out⟩
          · skip
            have w2 : IntKind.i64.wrap (32 * r.len) = 32 * r.len := IntWalk.i64_in _ (by omega)
            have w4 := IntWalk.wrap64_in (32 * r.len) (by omega)
            by_cases c5 : 32 * r.len < r.long
            · have HE := hide (rchk_one (r := r) (fun h => by have h1 := h.g1; have h2 := h.g2; have h3 := h.n2; have h4 := h.a1; have h5 := h.a2; have h6 := h.l1; have h7 := h.l2; have h8 := h.o1; have h9 := h.o2; omega))
              go_enter Tryd.func22, Tryd.ntmps22
              go_wp2_with (first
                | (go_at_call 36; (with_reducible refine (isarm _).mono ?_); rintro e w1 ⟨rfl, hb⟩; have k0 := (hb.cell (p := ⟨w.heap.size, 0, none⟩) (by simp)).trans (box_cell w _ _ 0 _ rfl); have k1 := (hb.cell (p := ⟨w.heap.size, 1, none⟩) (by simp)).trans (box_cell w _ _ 1 _ rfl); have k2 := (hb.cell (p := ⟨w.heap.size, 2, none⟩) (by simp)).trans (box_cell w _ _ 2 _ rfl); have k3 := (hb.cell (p := ⟨w.heap.size, 3, none⟩) (by simp)).trans (box_cell w _ _ 3 _ rfl); have k4 := (hb.cell (p := ⟨w.heap.size, 4, none⟩) (by simp)).trans (box_cell w _ _ 4 _ rfl); have k5 := (hb.cell (p := ⟨w.heap.size, 5, none⟩) (by simp)).trans (box_cell w _ _ 5 _ rfl); have HB := hide (Below.then (below_alloc w _) hb); clear hb))
              go_ret
              exact ⟨by rw [HE.out]; rfl, HB.out⟩
            · skip
              skip
              by_cases c6 : 1099511627776 < r.next
              · have z6 : (1099511627776 : Int) < (r.next : Int) := by omega
                have HE := hide (rchk_one (r := r) (fun h => by have h1 := h.g1; have h2 := h.g2; have h3 := h.n2; have h4 := h.a1; have h5 := h.a2; have h6 := h.l1; have h7 := h.l2; have h8 := h.o1; have h9 := h.o2; omega))
                go_enter Tryd.func22, Tryd.ntmps22
                go_wp2_with (first
                  | (go_at_call 36; (with_reducible refine (isarm _).mono ?_); rintro e w1 ⟨rfl, hb⟩; have k0 := (hb.cell (p := ⟨w.heap.size, 0, none⟩) (by simp)).trans (box_cell w _ _ 0 _ rfl); have k1 := (hb.cell (p := ⟨w.heap.size, 1, none⟩) (by simp)).trans (box_cell w _ _ 1 _ rfl); have k2 := (hb.cell (p := ⟨w.heap.size, 2, none⟩) (by simp)).trans (box_cell w _ _ 2 _ rfl); have k3 := (hb.cell (p := ⟨w.heap.size, 3, none⟩) (by simp)).trans (box_cell w _ _ 3 _ rfl); have k4 := (hb.cell (p := ⟨w.heap.size, 4, none⟩) (by simp)).trans (box_cell w _ _ 4 _ rfl); have k5 := (hb.cell (p := ⟨w.heap.size, 5, none⟩) (by simp)).trans (box_cell w _ _ 5 _ rfl); have HB := hide (Below.then (below_alloc w _) hb); clear hb))
                go_ret
                exact ⟨by rw [HE.out]; rfl, HB.out⟩
              · skip
                have z6 : ¬ (1099511627776 : Int) < (r.next : Int) := by omega
                have HE := hide (rchk_zero (r := r) ⟨by omega, by omega, by omega, by omega, by omega, by omega, by omega, by omega, by omega⟩)
                go_enter Tryd.func22, Tryd.ntmps22
                go_wp2_with (first
                  | (go_at_call 36; (with_reducible refine (isarm _).mono ?_); rintro e w1 ⟨rfl, hb⟩; have k0 := (hb.cell (p := ⟨w.heap.size, 0, none⟩) (by simp)).trans (box_cell w _ _ 0 _ rfl); have k1 := (hb.cell (p := ⟨w.heap.size, 1, none⟩) (by simp)).trans (box_cell w _ _ 1 _ rfl); have k2 := (hb.cell (p := ⟨w.heap.size, 2, none⟩) (by simp)).trans (box_cell w _ _ 2 _ rfl); have k3 := (hb.cell (p := ⟨w.heap.size, 3, none⟩) (by simp)).trans (box_cell w _ _ 3 _ rfl); have k4 := (hb.cell (p := ⟨w.heap.size, 4, none⟩) (by simp)).trans (box_cell w _ _ 4 _ rfl); have k5 := (hb.cell (p := ⟨w.heap.size, 5, none⟩) (by simp)).trans (box_cell w _ _ 5 _ rfl); have HB := hide (Below.then (below_alloc w _) hb); clear hb))
                go_ret
                exact ⟨by rw [HE.out]; rfl, HB.out⟩

def SPost (w : World) (bs : Bs) (e : Ending) (w' : World) : Prop := ∃ (A : Option Addr) (n c : Nat), e = .returned (.slice A n c) ∧ OB w.heap.size w' A n c bs ∧ Below w.heap.size w w'
theorem div_next (n k : Nat) : n / 2 ^ (8 * k) / 256 = n / 2 ^ (8 * (k + 1)) := by rw [pow8, Nat.div_div_eq_div_mul, Nat.mul_comm]
set_option maxRecDepth 100000 in
set_option maxHeartbeats 2000000 in
theorem rput_any (w : World) (n wd : Nat) (hn : n < 18446744073709551616) (hw : wd ≤ 6) : Calls Tryd.prog 27 #[.int .u64 n, .int .i64 wd] w (SPost w (putN n wd)) := by
  obtain ⟨i0, hi0, hz0, hz1, hz2⟩ := info_parts u8_info
  go_enter Tryd.func27, Tryd.ntmps27
  go_wp2_with fail
  go_loopw [0, 5, 7] (fun t u v wk => ∃ (k q : Nat) (A : Option Addr) (m c : Nat), t = .int .u64 q ∧ u = .slice A m c ∧ v = .int .i64 k ∧ k ≤ wd ∧ m = k ∧ Hid (q = n / 2 ^ (8 * k)) ∧ Hid (OB w.heap.size wk A m c (putN n k)) ∧ Hid (Below w.heap.size w wk)) (fun _ _ v _ => wd - (intOf v).toNat)
  case atStart => exact ⟨0, n, none, 0, 0, rfl, rfl, rfl, by omega, rfl, by show _ = _; simp, OB.nil _ _, Below.refl _ _⟩
  case round =>
    obtain ⟨k, q, A, m, c, rfl, rfl, rfl, hk, rfl, HQ, HO, HB⟩ := hrel
    have hsz := HB.out.size
    by_cases hkw : m < wd
    · have hkz : (m : Int) < (wd : Int) := by omega
      have g1 : ((q : Int)).tmod 256 = ((q % 256 : Nat) : Int) := by rw [Int.tmod_eq_emod_of_nonneg (by omega)]; omega
      have g2 : ((q : Int)).tdiv 256 = ((q / 256 : Nat) : Int) := by rw [Int.tdiv_eq_ediv_of_nonneg (by omega)]; omega
      have HV : Hid (((q % 256 : Nat) : Int) = ((byteAt n m).toNat : Int)) := by show _ = _; rw [byteAt_val, HQ.out]; push_cast; rfl
      have HQ2 : Hid (q / 256 = n / 2 ^ (8 * (m + 1))) := by show _ = _; rw [HQ.out, div_next]
      have hq64 : q / 256 < 18446744073709551616 := by
        have h1 := Nat.div_le_self n (2 ^ (8 * m))
        have h2 := HQ.out
        have h3 := Nat.div_le_self q 256
        omega
      generalize hq1 : q / 256 = q1 at g2 HQ2 hq64
      have g4 : IntKind.u64.wrap (q1 : Int) = (q1 : Int) := by rw [IntKind.wrap_u64]; omega
      generalize hq2 : q % 256 = q2 at g1 HV
      have h2 : q2 < 256 := by omega
      have g3 : IntKind.u8.wrap (q2 : Int) = (q2 : Int) := by rw [IntKind.wrap_u8]; omega
      clear hq1 hq2 h2 hq64
      go_wp2_with (first
        | (at_builtin; refine wpList_append_any _ rfl (.tmp 9) (.tmp 13) 28 rfl w.heap.size 5 i0 _ 1 1 Tryd.underlying28 hi0 hz0 hz1 hz2 rfl (by omega) (.slice A m c) m (byt (putN n m)) rfl (HO.out.alloc _) _ (some ⟨wr.heap.size, 0, none⟩) 1 1 (byt [byteAt n m]) rfl (one_octv wr (byteAt n m) _ HV.out) (byt_one _) (by simp only [maxLen]; omega) (by omega) (by simp; omega) ?_; intro v1 w2 hown1 hg1 hat1; obtain ⟨A1, c1, rfl⟩ := row_slice hown1; rw [← byt_append, putN_snoc] at hown1; have HO1 : Hid (OB w.heap.size w2 A1 (m + 1) c1 (putN n (m + 1))) := hide hown1; have HB2 := hide ((HB.out.alloc hsz (.cells #[.int .u8 (q2 : Int)] 5)).grown hg1 (by simp; omega) (fun q hq => (World.ownsRow.lt HO.out q hq).1)); clear hown1 hg1 hat1))
      go_roundw
      case rel => exact ⟨m + 1, q1, A1, m + 1, c1, rfl, rfl, by go_num, by omega, rfl, HQ2, HO1, HB2⟩
      case measure => simp [intOf]; omega
    · have hkz : ¬ (m : Int) < (wd : Int) := by omega
      obtain rfl : m = wd := by omega
      go_wp2_with fail
      go_ret
      exact ⟨A, m, c, rfl, HO.out, HB.out⟩
theorem le_drop {bs : Bs} {k : Nat} (h : k < bs.length) : le (bs.drop k) = (bs.getD k 0).toNat + 256 * le (bs.drop (k + 1)) := by
  rw [List.drop_eq_getElem_cons h, le, List.getD_eq_getElem?_getD, List.getElem?_eq_getElem h]; rfl
set_option maxRecDepth 100000 in
set_option maxHeartbeats 2000000 in
theorem rtake_any (w : World) (A : Option Addr) (n c : Nat) (bs : Bs) (hr : BR w A n bs) (hn : n ≤ 6) : Calls Tryd.prog 29 #[.slice A n c] w fun e w' => e = .returned (.int .u64 (le bs)) ∧ w = w' := by
  have HR := hide hr
  have HL := hide hr.len
  clear hr
  have w0 : IntKind.i64.wrap ((n : Int) - 1) = (n : Int) - 1 := IntWalk.i64_in _ (by omega)
  go_enter Tryd.func29, Tryd.ntmps29
  go_wp2_with fail
  go_loopw [3, 4] (fun u v wk => ∃ k x : Nat, u = .int .u64 x ∧ v = .int .i64 ((k : Int) - 1) ∧ k ≤ n ∧ Hid (x = le (bs.drop k)) ∧ wk = w) (fun _ v _ => (intOf v + 1).toNat)
  case atStart => exact ⟨n, 0, rfl, rfl, by omega, by show _ = _; rw [← HL.out]; simp [le], rfl⟩
  case round =>
    obtain ⟨k, x, rfl, rfl, hk, HX, rfl⟩ := hrel
    by_cases hk0 : 0 < k
    · obtain ⟨j, rfl⟩ : ∃ j, k = j + 1 := ⟨k - 1, by omega⟩
      have e0 : ((j + 1 : Nat) : Int) - 1 = (j : Int) := by omega
      rw [e0]
      have hz : (0 : Int) ≤ (j : Int) := by omega
      obtain ⟨ad, rfl, c0⟩ := HR.out.cell j (by omega)
      have hjn : (j : Int) < (n : Int) := by omega
      have HD := hide (le_drop (bs := bs) (k := j) (by rw [HL.out]; omega))
      have hx : x < 2 ^ 40 := by
        have h1 := le_lt (bs.drop (j + 1))
        rw [← HX.out, List.length_drop, HL.out] at h1
        exact Nat.lt_of_lt_of_le h1 (Nat.pow_le_pow_right (by omega) (by omega))
      generalize hb : bs.getD j 0 = b at c0 HD
      have hb8 := b.toNat_lt
      have w1 : IntKind.u64.wrap (256 * (x : Int)) = 256 * (x : Int) := by rw [IntKind.wrap_u64]; omega
      have w2 : IntKind.u64.wrap (b.toNat : Int) = (b.toNat : Int) := by rw [IntKind.wrap_u64]; omega
      have w3 : IntKind.u64.wrap (256 * (x : Int) + (b.toNat : Int)) = ((b.toNat + 256 * x : Nat) : Int) := by rw [IntKind.wrap_u64]; omega
      have w4 : IntKind.i64.wrap ((j : Int) - 1) = (j : Int) - 1 := IntWalk.i64_in _ (by omega)
      clear hx hb
      go_wp2_with fail
      go_roundw
      case rel => exact ⟨j, b.toNat + 256 * x, rfl, rfl, by omega, by show _ = _; rw [HD.out, HX.out], by first | trivial | rfl⟩
      case measure => simp [intOf]
    · obtain rfl : k = 0 := by omega
      rw [show ((0 : Nat) : Int) - 1 = -1 from rfl]
      go_wp2_with fail
      go_ret
      have e : x = le bs := HX.out
      exact ⟨by rw [e]; rfl, rfl⟩

theorem octv (w : World) (vs : Array Value) (bs : Bs) (n : Nat) (hn : bs.length = n) (h : vs.toList = byt bs) : BR (w.alloc (.cells vs 5)) (some ⟨w.heap.size, 0, none⟩) n bs := by
  subst hn
  refine ⟨by rw [byt_length]; omega, fun _ => ⟨_, rfl, by simp, fun j u hj => ?_⟩⟩
  have := box_cell w vs 5 j u (by rw [← Array.getElem?_toList, h]; exact hj)
  have e : (⟨w.heap.size, 0, none⟩ : Addr).add j = ⟨w.heap.size, j, none⟩ := by unfold Addr.add; split <;> simp_all
  rw [e]
  exact this
theorem take3 {t : Bs} {k : Nat} (h : k + 3 ≤ t.length) : (t.drop k).take 3 = [t.getD k 0, t.getD (k + 1) 0, t.getD (k + 2) 0] := by
  rw [List.drop_eq_getElem_cons (by omega : k < t.length), List.drop_eq_getElem_cons (by omega : k + 1 < t.length), List.drop_eq_getElem_cons (by omega : k + 2 < t.length)]
  simp only [List.getD_eq_getElem?_getD, List.getElem?_eq_getElem (by omega : k < t.length), List.getElem?_eq_getElem (by omega : k + 1 < t.length), List.getElem?_eq_getElem (by omega : k + 2 < t.length)]
  rfl
theorem octsU_next {x : Nums} {j : Nat} (h : j < 8) : octsU x j ++ [byteAt x.gen 0, (body7 x).getD (3 * j) 0, (body7 x).getD (3 * j + 1) 0, (body7 x).getD (3 * j + 2) 0] = octsU x (j + 1) := by
  rw [octsU, take3 (by rw [body7_len]; omega), List.append_assoc]
  rfl
set_option maxRecDepth 100000 in
set_option maxHeartbeats 4000000 in
theorem rroct_any (w : World) (r : Rt) (hs : r.sum < 4294967296) : Calls Tryd.prog 12 #[rtv r] w (RPost w (octS r).1 (octS r).2) := by
  obtain ⟨i0, hi0, hz0, hz1, hz2⟩ := info_parts u8_info
  have ck := fun w => rrcheck_any w r
  by_cases hg : RGood r
  · have HS := hide (octS_ok hg)
    rw [rchk_zero hg] at ck
    obtain ⟨g1, g2, n2, a1, a2, l1, l2, o1, o2⟩ := hg
    obtain ⟨gen, at_, len, long, sum, next⟩ := r
    simp only at g1 g2 n2 a1 a2 l1 l2 o1 o2 hs
    obtain ⟨a, rfl⟩ : ∃ a : Nat, at_ = a := ⟨at_.toNat, by omega⟩
    obtain ⟨l, rfl⟩ : ∃ l : Nat, len = l := ⟨len.toNat, by omega⟩
    obtain ⟨o, rfl⟩ : ∃ o : Nat, long = o := ⟨long.toNat, by omega⟩
    obtain ⟨x, hx⟩ : ∃ x : Nums, x = ⟨gen, a, l, o, sum, next⟩ := ⟨_, rfl⟩
    have HX : Hid (x = ⟨gen, a, l, o, sum, next⟩) := hx
    have HXN : Hid (octs (Rt.nums ⟨gen, a, l, o, sum, next⟩) = octs x) := by show _ = _; rw [hx]; rfl
    clear hx
    unfold rtv at ck ⊢
    simp only at ck ⊢
    have wa : IntKind.u64.wrap (a : Int) = a := by rw [IntKind.wrap_u64]; omega
    have wl : IntKind.u64.wrap (l : Int) = l := by rw [IntKind.wrap_u64]; omega
    have wo : IntKind.u64.wrap (o : Int) = o := by rw [IntKind.wrap_u64]; omega
    have ws : IntKind.u64.wrap (sum : Int) = sum := by rw [IntKind.wrap_u64]; omega
    have p6 : ∀ (w : World) (n : Nat), n < 18446744073709551616 → Calls Tryd.prog 27 #[.int .u64 n, .int .i64 6] w (SPost w (putN n 6)) := fun w n h => rput_any w n 6 h (by omega)
    have p2 : ∀ (w : World) (n : Nat), n < 18446744073709551616 → Calls Tryd.prog 27 #[.int .u64 n, .int .i64 2] w (SPost w (putN n 2)) := fun w n h => rput_any w n 2 h (by omega)
    have p3 : ∀ (w : World) (n : Nat), n < 18446744073709551616 → Calls Tryd.prog 27 #[.int .u64 n, .int .i64 3] w (SPost w (putN n 3)) := fun w n h => rput_any w n 3 h (by omega)
    have p4 : ∀ (w : World) (n : Nat), n < 18446744073709551616 → Calls Tryd.prog 27 #[.int .u64 n, .int .i64 4] w (SPost w (putN n 4)) := fun w n h => rput_any w n 4 h (by omega)
    go_enter Tryd.func12, Tryd.ntmps12
    go_wp2_with (first
      | (go_at_call 22; (with_reducible refine (ck _).mono ?_); rintro e w1 ⟨rfl, hb⟩; have XR := (RB.made w (.int .u64 gen) (.int .i64 a) (.int .i64 l) (.int .i64 o) (.int .u32 sum) (.int .u64 next)).below hb; have k0 := XR.c0; have k1 := XR.c1; have k2 := XR.c2; have k3 := XR.c3; have k4 := XR.c4; have k5 := XR.c5; have HX1 := hide XR; have HB0 := hide (Below.then (below_alloc w _) hb); have HB : Hid (Below w1.heap.size w1 w1) := Below.refl _ _; clear hb XR)
      | (go_at_call 27; (with_reducible refine (p6 _ gen (by omega)).mono ?_); rintro e wp0 ⟨A0, n0, c0, rfl, ho, hb⟩; obtain rfl : 6 = n0 := (putN_len gen 6).symm.trans ho.len; have HO : Hid (OB w1.heap.size wp0 A0 6 c0 (body1 x)) := (by show OB _ _ _ _ _ _; rw [show body1 x = putN gen 6 by rw [HX.out]; rfl]; exact ho); replace HB := hide (HB.out.trans hb); have XR := HX1.out.below HB.out; replace k0 := XR.c0; replace k1 := XR.c1; replace k2 := XR.c2; replace k3 := XR.c3; replace k4 := XR.c4; replace k5 := XR.c5; clear hb ho XR)
      | (go_at_call 27; (with_reducible refine (p2 _ a (by omega)).mono ?_); rintro e wp1 ⟨P1, m1, d1, rfl, ho, hb⟩; obtain rfl : 2 = m1 := (putN_len a 2).symm.trans ho.len; have HP := hide ho.reads; replace HO := hide (HO.out.below hb); replace HB := hide (Below.then_ HB.out hb HB.out.size); have XR := HX1.out.below HB.out; replace k0 := XR.c0; replace k1 := XR.c1; replace k2 := XR.c2; replace k3 := XR.c3; replace k4 := XR.c4; replace k5 := XR.c5; clear hb ho XR)
      | (at_builtin; refine wpList_append_any _ rfl (.tmp 13) (.tmp 18) 28 rfl w1.heap.size 5 i0 _ 1 1 Tryd.underlying28 hi0 hz0 hz1 hz2 rfl (by omega) (.slice A0 6 c0) 6 (byt (body1 x)) rfl HO.out _ P1 2 d1 (byt (putN a 2)) rfl HP.out (byt_one _) (by simp only [maxLen]; omega) (by omega) HB.out.size ?_; intro v1 wa1 hown1 hg1 hat1; replace hown1 : World.ownsRow wa1 w1.heap.size 5 1 v1 8 (byt (body2 x)) := (by have h := hown1; rw [← byt_append] at h; rw [show body2 x = body1 x ++ putN a 2 by rw [HX.out]; rfl]; exact h); replace HB := hide (HB.out.grown hg1 HB.out.size (fun q hq => (World.ownsRow.lt HO.out q hq).1)); obtain ⟨A1, c1, rfl⟩ := row_slice hown1; replace HO : Hid (OB w1.heap.size wa1 A1 8 c1 (body2 x)) := hide hown1; have XR := HX1.out.below HB.out; replace k0 := XR.c0; replace k1 := XR.c1; replace k2 := XR.c2; replace k3 := XR.c3; replace k4 := XR.c4; replace k5 := XR.c5; clear hown1 hg1 hat1 XR HP)
      | (go_at_call 27; (with_reducible refine (p2 _ l (by omega)).mono ?_); rintro e wp2 ⟨P2, m2, d2, rfl, ho, hb⟩; obtain rfl : 2 = m2 := (putN_len l 2).symm.trans ho.len; have HP := hide ho.reads; replace HO := hide (HO.out.below hb); replace HB := hide (Below.then_ HB.out hb HB.out.size); have XR := HX1.out.below HB.out; replace k0 := XR.c0; replace k1 := XR.c1; replace k2 := XR.c2; replace k3 := XR.c3; replace k4 := XR.c4; replace k5 := XR.c5; clear hb ho XR)
      | (at_builtin; refine wpList_append_any _ rfl (.tmp 20) (.tmp 25) 28 rfl w1.heap.size 5 i0 _ 1 1 Tryd.underlying28 hi0 hz0 hz1 hz2 rfl (by omega) (.slice A1 8 c1) 8 (byt (body2 x)) rfl HO.out _ P2 2 d2 (byt (putN l 2)) rfl HP.out (byt_one _) (by simp only [maxLen]; omega) (by omega) HB.out.size ?_; intro v1 wa2 hown1 hg1 hat1; replace hown1 : World.ownsRow wa2 w1.heap.size 5 1 v1 10 (byt (body3 x)) := (by have h := hown1; rw [← byt_append] at h; rw [show body3 x = body2 x ++ putN l 2 by rw [HX.out]; rfl]; exact h); replace HB := hide (HB.out.grown hg1 HB.out.size (fun q hq => (World.ownsRow.lt HO.out q hq).1)); obtain ⟨A2, c2, rfl⟩ := row_slice hown1; replace HO : Hid (OB w1.heap.size wa2 A2 10 c2 (body3 x)) := hide hown1; have XR := HX1.out.below HB.out; replace k0 := XR.c0; replace k1 := XR.c1; replace k2 := XR.c2; replace k3 := XR.c3; replace k4 := XR.c4; replace k5 := XR.c5; clear hown1 hg1 hat1 XR HP)
      | (go_at_call 27; (with_reducible refine (p3 _ o (by omega)).mono ?_); rintro e wp3 ⟨P3, m3, d3, rfl, ho, hb⟩; obtain rfl : 3 = m3 := (putN_len o 3).symm.trans ho.len; have HP := hide ho.reads; replace HO := hide (HO.out.below hb); replace HB := hide (Below.then_ HB.out hb HB.out.size); have XR := HX1.out.below HB.out; replace k0 := XR.c0; replace k1 := XR.c1; replace k2 := XR.c2; replace k3 := XR.c3; replace k4 := XR.c4; replace k5 := XR.c5; clear hb ho XR)
      | (at_builtin; refine wpList_append_any _ rfl (.tmp 27) (.tmp 31) 28 rfl w1.heap.size 5 i0 _ 1 1 Tryd.underlying28 hi0 hz0 hz1 hz2 rfl (by omega) (.slice A2 10 c2) 10 (byt (body3 x)) rfl HO.out _ P3 3 d3 (byt (putN o 3)) rfl HP.out (byt_one _) (by simp only [maxLen]; omega) (by omega) HB.out.size ?_; intro v1 wa3 hown1 hg1 hat1; replace hown1 : World.ownsRow wa3 w1.heap.size 5 1 v1 13 (byt (body4 x)) := (by have h := hown1; rw [← byt_append] at h; rw [show body4 x = body3 x ++ putN o 3 by rw [HX.out]; rfl]; exact h); replace HB := hide (HB.out.grown hg1 HB.out.size (fun q hq => (World.ownsRow.lt HO.out q hq).1)); obtain ⟨A3, c3, rfl⟩ := row_slice hown1; replace HO : Hid (OB w1.heap.size wa3 A3 13 c3 (body4 x)) := hide hown1; have XR := HX1.out.below HB.out; replace k0 := XR.c0; replace k1 := XR.c1; replace k2 := XR.c2; replace k3 := XR.c3; replace k4 := XR.c4; replace k5 := XR.c5; clear hown1 hg1 hat1 XR HP)
      | (go_at_call 27; (with_reducible refine (p4 _ sum (by omega)).mono ?_); rintro e wp4 ⟨P4, m4, d4, rfl, ho, hb⟩; obtain rfl : 4 = m4 := (putN_len sum 4).symm.trans ho.len; have HP := hide ho.reads; replace HO := hide (HO.out.below hb); replace HB := hide (Below.then_ HB.out hb HB.out.size); have XR := HX1.out.below HB.out; replace k0 := XR.c0; replace k1 := XR.c1; replace k2 := XR.c2; replace k3 := XR.c3; replace k4 := XR.c4; replace k5 := XR.c5; clear hb ho XR)
      | (at_builtin; refine wpList_append_any _ rfl (.tmp 33) (.tmp 37) 28 rfl w1.heap.size 5 i0 _ 1 1 Tryd.underlying28 hi0 hz0 hz1 hz2 rfl (by omega) (.slice A3 13 c3) 13 (byt (body4 x)) rfl HO.out _ P4 4 d4 (byt (putN sum 4)) rfl HP.out (byt_one _) (by simp only [maxLen]; omega) (by omega) HB.out.size ?_; intro v1 wa4 hown1 hg1 hat1; replace hown1 : World.ownsRow wa4 w1.heap.size 5 1 v1 17 (byt (body5 x)) := (by have h := hown1; rw [← byt_append] at h; rw [show body5 x = body4 x ++ putN sum 4 by rw [HX.out]; rfl]; exact h); replace HB := hide (HB.out.grown hg1 HB.out.size (fun q hq => (World.ownsRow.lt HO.out q hq).1)); obtain ⟨A4, c4, rfl⟩ := row_slice hown1; replace HO : Hid (OB w1.heap.size wa4 A4 17 c4 (body5 x)) := hide hown1; have XR := HX1.out.below HB.out; replace k0 := XR.c0; replace k1 := XR.c1; replace k2 := XR.c2; replace k3 := XR.c3; replace k4 := XR.c4; replace k5 := XR.c5; clear hown1 hg1 hat1 XR HP)
      | (go_at_call 27; (with_reducible refine (p6 _ next (by omega)).mono ?_); rintro e wp5 ⟨P5, m5, d5, rfl, ho, hb⟩; obtain rfl : 6 = m5 := (putN_len next 6).symm.trans ho.len; have HP := hide ho.reads; replace HO := hide (HO.out.below hb); replace HB := hide (Below.then_ HB.out hb HB.out.size); have XR := HX1.out.below HB.out; replace k0 := XR.c0; replace k1 := XR.c1; replace k2 := XR.c2; replace k3 := XR.c3; replace k4 := XR.c4; replace k5 := XR.c5; clear hb ho XR)
      | (at_builtin; refine wpList_append_any _ rfl (.tmp 39) (.tmp 42) 28 rfl w1.heap.size 5 i0 _ 1 1 Tryd.underlying28 hi0 hz0 hz1 hz2 rfl (by omega) (.slice A4 17 c4) 17 (byt (body5 x)) rfl HO.out _ P5 6 d5 (byt (putN next 6)) rfl HP.out (byt_one _) (by simp only [maxLen]; omega) (by omega) HB.out.size ?_; intro v1 wa5 hown1 hg1 hat1; replace hown1 : World.ownsRow wa5 w1.heap.size 5 1 v1 23 (byt (body6 x)) := (by have h := hown1; rw [← byt_append] at h; rw [show body6 x = body5 x ++ putN next 6 by rw [HX.out]; rfl]; exact h); replace HB := hide (HB.out.grown hg1 HB.out.size (fun q hq => (World.ownsRow.lt HO.out q hq).1)); obtain ⟨A5, c5, rfl⟩ := row_slice hown1; replace HO : Hid (OB w1.heap.size wa5 A5 23 c5 (body6 x)) := hide hown1; have XR := HX1.out.below HB.out; replace k0 := XR.c0; replace k1 := XR.c1; replace k2 := XR.c2; replace k3 := XR.c3; replace k4 := XR.c4; replace k5 := XR.c5; clear hown1 hg1 hat1 XR HP)
      | (at_builtin; refine wpList_append_any _ rfl (.tmp 44) (.tmp 45) 28 rfl w1.heap.size 5 i0 _ 1 1 Tryd.underlying28 hi0 hz0 hz1 hz2 rfl (by omega) (.slice A5 23 c5) 23 (byt (body6 x)) rfl (HO.out.alloc _) _ (some ⟨wa5.heap.size, 0, none⟩) 1 1 (byt [0]) rfl (octv wa5 _ [0] 1 rfl rfl) (byt_one _) (by simp only [maxLen]; omega) (by omega) (by have := HB.out.size; simp; omega) ?_; intro v1 wz hown1 hg1 hat1; replace hown1 : World.ownsRow wz w1.heap.size 5 1 v1 24 (byt (body7 x)) := (by have h := hown1; rw [← byt_append] at h; exact h); replace HB := hide ((HB.out.alloc HB.out.size (.cells #[.int .u8 0] 5)).grown hg1 (by have := HB.out.size; simp; omega) (fun q hq => (World.ownsRow.lt HO.out q hq).1)); obtain ⟨A6, c6, rfl⟩ := row_slice hown1; replace HO : Hid (OB w1.heap.size wz A6 24 c6 (body7 x)) := hide hown1; have XR := HX1.out.below HB.out; replace k0 := XR.c0; replace k1 := XR.c1; replace k2 := XR.c2; replace k3 := XR.c3; replace k4 := XR.c4; replace k5 := XR.c5; clear hown1 hg1 hat1 XR))
    obtain ⟨g, rfl⟩ := row_addr HO.out (by omega)
    have hcap := (row_cap HO.out).1
    clear k0 k1 k2 k3 k4 k5
    go_loopw [5, 47] (fun u v wk => ∃ (j : Nat) (Ao : Option Addr) (no co : Nat), u = .slice Ao no co ∧ v = .int .i64 j ∧ j ≤ 8 ∧ no = 4 * j ∧ Hid (OB w1.heap.size wk (some ⟨g, 0, none⟩) 24 c6 (body7 x)) ∧ Hid (OB w1.heap.size wk Ao no co (octsU x j)) ∧ Hid (∀ q, (Value.slice Ao no co).ownBlock = some q → q ≠ g) ∧ Hid (Below w1.heap.size w1 wk)) (fun _ v _ => 8 - (intOf v).toNat)
    case atStart => exact ⟨0, none, 0, 0, rfl, rfl, by omega, rfl, HO, OB.nil _ _, fun q hq => by simp [Value.ownBlock] at hq, HB⟩
    case round =>
      clear HO HB
      obtain ⟨j, Ao, no, co, rfl, rfl, hj, rfl, HT, HU, HNE, HB⟩ := hrel
      by_cases hj8 : j < 8
      · have hz : (j : Int) < 8 := by omega
        have b0 : (0 : Int) ≤ 3 * (j : Int) := by omega
        have b1 : 3 * (j : Int) < 24 := by omega
        have b2 : IntKind.i64.wrap (3 * (j : Int)) = 3 * (j : Int) := IntWalk.i64_in _ (by omega)
        have b3 : (3 * (j : Int)).toNat = 3 * j := by omega
        have b4 : IntKind.i64.wrap (3 * (j : Int) + 1) = 3 * (j : Int) + 1 := IntWalk.i64_in _ (by omega)
        have b5 : (0 : Int) ≤ 3 * (j : Int) + 1 := by omega
        have b6 : 3 * (j : Int) + 1 < 24 := by omega
        have b7 : (3 * (j : Int) + 1).toNat = 3 * j + 1 := by omega
        have b8 : IntKind.i64.wrap (3 * (j : Int) + 2) = 3 * (j : Int) + 2 := IntWalk.i64_in _ (by omega)
        have b9 : (0 : Int) ≤ 3 * (j : Int) + 2 := by omega
        have b10 : 3 * (j : Int) + 2 < 24 := by omega
        have b11 : (3 * (j : Int) + 2).toNat = 3 * j + 2 := by omega
        have b12 : 3 * j < 24 := by omega
        have b13 : 3 * j + 1 < 24 := by omega
        have b14 : 3 * j + 2 < 24 := by omega
        have k0 := (HX1.out.below HB.out).c0
        have q0 := HT.out.cellb (3 * j) (by omega)
        have q1 := HT.out.cellb (3 * j + 1) (by omega)
        have q2 := HT.out.cellb (3 * j + 2) (by omega)
        have HNX := hide (octsU_next (x := x) hj8)
        generalize hv0 : (body7 x).getD (3 * j) 0 = v0 at q0 HNX
        generalize hv1 : (body7 x).getD (3 * j + 1) 0 = v1 at q1 HNX
        generalize hv2 : (body7 x).getD (3 * j + 2) 0 = v2 at q2 HNX
        have g1 : ((gen : Int)).tmod 256 = ((gen % 256 : Nat) : Int) := by rw [Int.tmod_eq_emod_of_nonneg (by omega)]; omega
        have HV : Hid (((gen % 256 : Nat) : Int) = ((byteAt x.gen 0).toNat : Int)) := by show _ = _; rw [byteAt_val, HX.out]; simp
        have hlt : gen % 256 < 256 := Nat.mod_lt _ (by omega)
        generalize hg2 : gen % 256 = vg at g1 HV hlt
        have g3 : IntKind.u8.wrap (vg : Int) = (vg : Int) := by rw [IntKind.wrap_u8]; omega
        clear hv0 hv1 hv2 hg2 hlt
        obtain ⟨W1, hW1⟩ : ∃ W1, W1 = (wr.alloc (.cells #[.int .u8 (vg : Int), .int .u8 (v0.toNat : Int), .int .u8 (v1.toNat : Int), .int .u8 (v2.toNat : Int)] 5)).drew := ⟨_, rfl⟩
        have hbw : Below wr.heap.size wr W1 := by rw [hW1]; exact (below_alloc wr _).drew
        have HT1 : Hid (OB w1.heap.size W1 (some ⟨g, 0, none⟩) 24 c6 (body7 x)) := HT.out.below hbw
        have HU1 : Hid (OB w1.heap.size W1 Ao (4 * j) co (octsU x j)) := HU.out.below hbw
        have HR1 : Hid (BR W1 (some ⟨wr.heap.size, 0, none⟩) 4 [byteAt x.gen 0, v0, v1, v2]) := by rw [hW1]; exact (octv wr _ _ 4 rfl (by rw [HV.out]; rfl)).below (Below.refl _ _).drew
        have HB1 : Hid (Below w1.heap.size w1 W1) := Below.then_ HB.out hbw HB.out.size
        rw [hW1] at HT1 HU1 HR1 HB1
        clear hW1 hbw
        go_upto_region 14 with fail
        go_region_law (first
          | (refine (step_append_any _ ?h1 (.tmp 50) (.tmp 72) 28 ?h2 w1.heap.size 5 i0 _ 1 1 ?h3 hi0 hz0 hz1 hz2 ?h4 ?h5 (.slice Ao (4 * j) co) (4 * j) (byt (octsU x j)) ?h6 HU1.out _ (some ⟨wr.heap.size, 0, none⟩) 4 4 (byt [byteAt x.gen 0, v0, v1, v2]) ?h7 HR1.out ?h8 ?h9 ?h10 ?h11 ?_); (case h1 => rfl); (case h2 => rfl); (case h3 => exact Tryd.underlying28); (case h4 => rfl); (case h5 => omega); (case h6 => rfl); (case h7 => rfl); (case h8 => exact byt_one _); (case h9 => simp only [maxLen]; omega); (case h10 => omega); (case h11 => exact HB1.out.size); intro v1 w2 hown1 hg1 hat1; obtain ⟨A1, c1, rfl⟩ := row_slice hown1; rw [← byt_append, HNX.out] at hown1; have HU2 := hide hown1; have HT2 : Hid (OB w1.heap.size w2 (some ⟨g, 0, none⟩) 24 c6 (body7 x)) := hide (row_other2 HT1.out hg1 HNE.out); have HNE2 : Hid (∀ q, (Value.slice A1 (4 * j + 4) c1).ownBlock = some q → q ≠ g) := hide (ne_grown HT1.out hat1 HNE.out); have HB2 := hide (HB1.out.grown hg1 HB1.out.size (fun q hq => (World.ownsRow.lt HU1.out q hq).1)); clear hown1 hg1 hat1))
        all_goals
          go_wp2_with fail
          go_roundw
          case rel => exact ⟨j + 1, A1, 4 * j + 4, c1, rfl, by go_num, by omega, by omega, HT2, HU2, HNE2, HB2⟩
          case measure => simp [intOf]; omega
      · have hz : ¬ (j : Int) < 8 := by omega
        obtain rfl : j = 8 := by omega
        have hbF := hide (Below.trans HB0.out (HB.out.mono HB0.out.size))
        go_wp2_with fail
        go_ret2
        rw [HS.out]
        exact ⟨Ao, 32, co, rfl, by have h := HU.out.mono HB0.out.size; rw [HXN.out]; exact h, hbF.out⟩
  · have HS := hide (octS_bad hg)
    obtain ⟨x, hx, hx0⟩ : ∃ x, rchk r = x ∧ x ≠ 0 := ⟨_, rfl, by rw [rchk_one hg]; decide⟩
    rw [hx] at ck
    have hz : (x != 0) = true := by rw [bne_iff_ne]; exact hx0
    clear hg hx hx0
    unfold rtv at ck ⊢
    go_enter Tryd.func12, Tryd.ntmps12
    go_wp2_with (first
      | (go_at_call 22; (with_reducible refine (ck _).mono ?_); rintro e w1 ⟨rfl, hb⟩; have HB1 := hide (Below.then (below_alloc w _) hb); clear hb))
    go_ret2
    rw [HS.out]
    exact ⟨none, 0, 0, rfl, OB.nil _ _, HB1.out⟩
end Go.Proofs.YthhemdjggdgaaaaDoor
