import Derived.Test.YtbfagfnclgfmhaaClo
import Derived.LoopTactic
import Derived.RegionTactic
namespace Go.Proofs.Ytbfagfnclgfmhaa
open Go.RowKit

def pcs (ps : List Pin) : List Value := ps.flatMap fun p => [.int .u64 p.1, .int .i64 p.2]
def nth (ps : List Pin) (i : Nat) : Pin := ps.getD i (0, 0)
theorem nth_lt {ps : List Pin} {i : Nat} (h : i < ps.length) : nth ps i = ps[i] := by
  unfold nth; rw [List.getD_eq_getElem?_getD, List.getElem?_eq_getElem h]; rfl
theorem pcs_length (ps : List Pin) : (pcs ps).length = ps.length * 2 := by
  induction ps with
  | nil => rfl
  | cons p ps ih => unfold pcs at *; simp only [List.flatMap_cons, List.length_append, ih, List.length_cons, List.length_nil]; omega
theorem pcs_cons (p : Pin) (ps : List Pin) : pcs (p :: ps) = .int .u64 p.1 :: .int .i64 p.2 :: pcs ps := rfl
theorem pcs_append (ps qs : List Pin) : pcs (ps ++ qs) = pcs ps ++ pcs qs := by unfold pcs; rw [List.flatMap_append]
theorem pcs_get (ps : List Pin) (i : Nat) (h : i < ps.length) : (pcs ps)[i * 2]? = some (.int .u64 (nth ps i).1) ∧ (pcs ps)[i * 2 + 1]? = some (.int .i64 (nth ps i).2) := by
  induction ps generalizing i with
  | nil => simp at h
  | cons p ps ih =>
    cases i with
    | zero => exact ⟨rfl, rfl⟩
    | succ i =>
      have := ih i (by simpa using h)
      rw [pcs_cons]
      rw [show (i + 1) * 2 = i * 2 + 1 + 1 by omega]
      simp only [List.getElem?_cons_succ]
      exact this
theorem pcs_drop (ps : List Pin) (k : Nat) : (pcs ps).drop (k * 2) = pcs (ps.drop k) := by
  induction k generalizing ps with
  | zero => simp
  | succ k ih =>
    cases ps with
    | nil => rfl
    | cons p ps => rw [pcs_cons, show (k + 1) * 2 = k * 2 + 1 + 1 by omega]; simp only [List.drop_succ_cons]; exact ih ps
theorem pcs_take (ps : List Pin) (k : Nat) : (pcs ps).take (k * 2) = pcs (ps.take k) := by
  induction k generalizing ps with
  | zero => simp [pcs]
  | succ k ih =>
    cases ps with
    | nil => rfl
    | cons p ps => rw [pcs_cons, show (k + 1) * 2 = k * 2 + 1 + 1 by omega]; simp only [List.take_succ_cons]; rw [ih ps]; rfl
theorem one_pin (ps : List Pin) : ∀ u ∈ pcs ps, u.oneCell' = true := by
  intro u hu
  obtain ⟨p, _, hp⟩ := List.mem_flatMap.1 hu
  simp only [List.mem_cons, List.not_mem_nil, or_false] at hp
  rcases hp with rfl | rfl <;> rfl

/-- A slice that holds these pins. -/
def PR (w : World) (A : Option Addr) (n : Nat) (ps : List Pin) : Prop := Reads w w.heap.size 2 A n (pcs ps)
section
variable {w w' : World} {A : Option Addr} {n : Nat} {ps : List Pin}
theorem PR.len (h : PR w A n ps) : ps.length = n := by
  have := h.1; rw [pcs_length] at this; omega
theorem PR.below (h : PR w A n ps) (hb : Below w.heap.size w w') : PR w' A n ps := (Reads.below h hb).more hb.size
theorem add_second (ad : Addr) (i : Nat) : ({ block := (ad.add i).block, off := (ad.add i).off + 1 } : Addr) = ad.add (i + 1) := by
  rw [← add_of_add]; generalize ad.add i = b; unfold Addr.add; simp
theorem PR.cell (h : PR w A n ps) (i : Nat) (hi : i < n) : ∃ ad, A = some ad ∧ w.cell? (ad.add (i * 2)) = some (.int .u64 (nth ps i).1) ∧ w.cell? { block := (ad.add (i * 2)).block, off := (ad.add (i * 2)).off + 1 } = some (.int .i64 (nth ps i).2) := by
  obtain ⟨ad, e, _, hc⟩ := h.2 (by omega)
  obtain ⟨h1, h2⟩ := pcs_get ps i (by rw [h.len]; exact hi)
  exact ⟨ad, e, hc _ _ h1, by rw [add_second]; exact hc _ _ h2⟩
end

theorem any_true {ps : List Pin} {k : Nat} (hk : k < ps.length) (h : odd (nth ps k) = true) : ps.any odd = true := by
  rw [nth_lt hk] at h
  exact List.any_eq_true.2 ⟨_, List.getElem_mem hk, h⟩
theorem any_false {ps : List Pin} (h : ∀ i, i < ps.length → odd (nth ps i) = false) : ps.any odd = false := by
  rw [List.any_eq_false]
  intro p hp
  obtain ⟨i, hi, rfl⟩ := List.mem_iff_getElem.1 hp
  have := h i hi
  rw [nth_lt hi] at this
  rw [this]; decide

theorem index_any (w : World) (A : Option Addr) (n c : Nat) (ps : List Pin) (hr : PR w A n ps) (hn : n ≤ 1000) :
    Calls Try.prog 39 #[.slice A n c, .func (.func 26) #[] #[]] w fun e w' => (∃ r : Int, e = .returned (.int .i64 r) ∧ decide (0 ≤ r) = ps.any odd) ∧ Below w.heap.size w w' := by
  have HR := hide hr
  clear hr
  go_enter Try.func39, Try.ntmps39
  go_wp2_with fail
  go_loopw [8] (fun v wr => ∃ k : Nat, v = .int .i64 k ∧ k ≤ n ∧ Hid (∀ i, i < k → odd (nth ps i) = false) ∧ Hid (Below w.heap.size w wr)) (fun v _ => n - (intOf v).toNat)
  case atStart => exact ⟨0, rfl, by omega, hide (fun i hi => by omega), hide (Below.refl _ _)⟩
  case round =>
    obtain ⟨k, rfl, hk, HK, HB⟩ := hrel
    by_cases hkn : k < n
    · have hkz : (k : Int) < (n : Int) := by omega
      obtain ⟨ad, rfl, c0, c1⟩ := (HR.out.below HB.out).cell k hkn
      obtain ⟨p, hp⟩ : ∃ p, nth ps k = p := ⟨_, rfl⟩
      rw [hp] at c0 c1
      have HP := hide hp
      clear hp
      cases ho : odd p with
      | true =>
        go_wp2_with (go_at_call 26; refine (odd_any p _).mono ?_; rintro e w' ⟨rfl, hb⟩; have HB' := hide hb; clear hb; rw [ho])
        go_ret
        refine ⟨⟨_, rfl, ?_⟩, HB.out.trans (HB'.out.mono HB.out.size)⟩
        rw [any_true (k := k) (by rw [HR.out.len]; exact hkn) (by rw [HP.out]; exact ho)]
        exact decide_eq_true (by omega)
      | false =>
        go_wp2_with (go_at_call 26; refine (odd_any p _).mono ?_; rintro e w' ⟨rfl, hb⟩; have HB' := hide hb; clear hb; rw [ho])
        go_roundw
        case rel =>
          refine ⟨k + 1, by go_num, by omega, hide (fun i hi => ?_), hide (HB.out.trans (HB'.out.mono HB.out.size))⟩
          by_cases hik : i < k
          · exact HK.out i hik
          · obtain rfl : i = k := by omega
            rw [HP.out]; exact ho
        case measure => simp [intOf]; omega
    · have hkz : ¬ (k : Int) < (n : Int) := by omega
      have hke : Hid (k = n) := by show _ = _; omega
      go_wp2_with fail
      go_ret
      refine ⟨⟨_, rfl, ?_⟩, HB.out⟩
      rw [any_false (fun i hi => HK.out i (by rw [hke.out, ← HR.out.len]; exact hi))]
      rfl

theorem contains_any (w : World) (A : Option Addr) (n c : Nat) (ps : List Pin) (hr : PR w A n ps) (hn : n ≤ 1000) :
    Calls Try.prog 30 #[.slice A n c, .func (.func 26) #[] #[]] w fun e w' => e = .returned (.bool (ps.any odd)) ∧ Below w.heap.size w w' := by
  have HR := hide hr
  clear hr
  go_enter Try.func30, Try.ntmps30
  go_wp2_with (go_at_call 39; refine (index_any _ _ _ _ ps HR.out hn).mono ?_; rintro e w' ⟨⟨r, rfl, hd⟩, hb⟩; have HB' := hide hb; clear hb)
  go_ret
  exact ⟨rfl, HB'.out⟩

/-- None is below the one ahead of it. -/
def risen (ps : List Pin) : Bool := decide (∀ i, i < ps.length - 1 → (nth ps i).1 ≤ (nth ps (i + 1)).1)

theorem sorted_any (w : World) (A : Option Addr) (n c : Nat) (ps : List Pin) (hr : PR w A n ps) (hn : n ≤ 1000) :
    Calls Try.prog 31 #[.slice A n c, .func (.func 27) #[] #[]] w fun e w' => e = .returned (.bool (risen ps)) ∧ Below w.heap.size w w' := by
  have HR := hide hr
  clear hr
  go_enter Try.func31, Try.ntmps31
  go_wp2_with fail
  go_loopw [5] (fun v wr => ∃ z : Int, v = .int .i64 z ∧ z < n ∧ -1 ≤ z ∧ Hid (∀ i : Nat, z ≤ i → i + 1 < n → (nth ps i).1 ≤ (nth ps (i + 1)).1) ∧ Hid (Below w.heap.size w wr)) (fun v _ => (intOf v).toNat)
  case atStart => exact ⟨(n : Int) - 1, rfl, by omega, by omega, hide (fun i hi hn => by omega), hide (Below.refl _ _)⟩
  case round =>
    obtain ⟨z, rfl, hz, hz1, HK, HB⟩ := hrel
    by_cases hk1 : 0 < z
    · obtain ⟨k, rfl⟩ : ∃ k : Nat, z = k := ⟨z.toNat, by omega⟩
      obtain ⟨j, hj⟩ : ∃ j : Nat, k = j + 1 := ⟨k - 1, by omega⟩
      have hkz : (k : Int) < (n : Int) := by omega
      have hjz : (j : Int) < (n : Int) := by omega
      obtain ⟨ad, rfl, c0, c1⟩ := (HR.out.below HB.out).cell k (by omega)
      obtain ⟨ad', hA, d0, d1⟩ := (HR.out.below HB.out).cell j (by omega)
      injection hA with hA
      subst hA
      obtain ⟨p, hp⟩ : ∃ p, nth ps k = p := ⟨_, rfl⟩
      obtain ⟨q, hq⟩ : ∃ q, nth ps j = q := ⟨_, rfl⟩
      rw [hp] at c0 c1
      rw [hq] at d0 d1
      have HP := hide hp
      have HQ := hide hq
      have hw1 : IntKind.i64.wrap ((k : Int) - 1) = (j : Int) := by rw [IntKind.wrap_i64]; omega
      have HJ := hide hj
      clear hp hq hj
      by_cases hpq : p.1 < q.1
      · have ce : cmpInt (p.1 : Int) q.1 = -1 := cmpInt_lt (by omega)
        have HPQ := hide hpq
        clear hpq
        go_wp2_with fail
        obtain ⟨w2, hw2⟩ : ∃ w2, w2 = wr.drew := ⟨_, rfl⟩
        have B2 : Hid (Below w.heap.size w w2) := by rw [hw2]; exact HB.out.drew
        rw [show wr.cell? = w2.cell? from by rw [hw2]; rfl] at c0 c1 d0 d1
        refine wp_region_still_tail 10 (by kernel_rfl) (by kernel_rfl) ?_
        show wpStill Try.prog _ wr.drew (fun a' => wpList Try.prog _ _ _ a' wr.drew) _ _
        rw [← hw2]
        clear hw2
        simp only [List.take_succ_cons, List.take_zero, List.drop_succ_cons, List.drop_zero]
        repeat still_step
        refine wpStill_nil ?_
        go_wp2_with (go_at_call 27; refine (rises_any p q _).mono ?_; rintro e w' ⟨rfl, hb⟩; have HB' := hide hb; clear hb; rw [ce])
        go_ret
        refine ⟨?_, B2.out.trans (HB'.out.mono B2.out.size)⟩
        have : risen ps = false := by
          unfold risen
          refine decide_eq_false (fun h => ?_)
          have := h j (by have := HJ.out; rw [HR.out.len]; omega)
          rw [← HJ.out, HP.out, HQ.out] at this
          have := HPQ.out; omega
        rw [this]; rfl
      · have hd : decide (cmpInt (p.1 : Int) q.1 < 0) = false := by
          unfold cmpInt; refine decide_eq_false ?_; rw [if_neg (by omega)]; split <;> omega
        have HPQ := hide hpq
        clear hpq
        go_wp2_with fail
        obtain ⟨w2, hw2⟩ : ∃ w2, w2 = wr.drew := ⟨_, rfl⟩
        have B2 : Hid (Below w.heap.size w w2) := by rw [hw2]; exact HB.out.drew
        rw [show wr.cell? = w2.cell? from by rw [hw2]; rfl] at c0 c1 d0 d1
        refine wp_region_still_tail 10 (by kernel_rfl) (by kernel_rfl) ?_
        show wpStill Try.prog _ wr.drew (fun a' => wpList Try.prog _ _ _ a' wr.drew) _ _
        rw [← hw2]
        clear hw2
        simp only [List.take_succ_cons, List.take_zero, List.drop_succ_cons, List.drop_zero]
        repeat still_step
        refine wpStill_nil ?_
        go_wp2_with (go_at_call 27; refine (rises_any p q _).mono ?_; rintro e w' ⟨rfl, hb⟩; have HB' := hide hb; clear hb)
        go_roundw
        case rel =>
          refine ⟨j, rfl, by omega, by omega, hide (fun i hi hn => ?_), hide (B2.out.trans (HB'.out.mono B2.out.size))⟩
          by_cases hij : i = j
          · subst hij
            rw [← HJ.out, HP.out, HQ.out]; have := HPQ.out; omega
          · exact HK.out i (by have := HJ.out; omega) hn
        case measure => have := HJ.out; simp [intOf]; omega
    · have hkz : ¬ (0 : Int) < z := hk1
      go_wp2_with fail
      go_ret
      refine ⟨?_, HB.out⟩
      have : risen ps = true := by
        unfold risen
        refine decide_eq_true (fun i hi => HK.out i (by omega) (by rw [← HR.out.len]; omega))
      rw [this]; rfl
end Go.Proofs.Ytbfagfnclgfmhaa
