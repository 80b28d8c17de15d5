import Derived.Test.YtfopmdnpjokjcaaROrd
namespace Go.Proofs.Ytfopmdnpjokjcaa
open Go.RowKit Plain

theorem sorted_unique : ∀ l m : List Nat, l.Pairwise (· ≤ ·) → m.Pairwise (· ≤ ·) → l.Perm m → l = m
  | [], m, _, _, h => (List.nil_perm.1 h).symm
  | a :: l, [], _, _, h => by have := h.length_eq; simp at this
  | a :: l, b :: m, hl, hm, h => by
    have ha := List.pairwise_cons.1 hl
    have hb := List.pairwise_cons.1 hm
    have e1 : a ≤ b := by
      have : b ∈ a :: l := h.mem_iff.2 (List.mem_cons_self ..)
      rcases List.mem_cons.1 this with h1 | h1
      · omega
      · exact ha.1 b h1
    have e2 : b ≤ a := by
      have : a ∈ b :: m := h.mem_iff.1 (List.mem_cons_self ..)
      rcases List.mem_cons.1 this with h1 | h1
      · omega
      · exact hb.1 a h1
    obtain rfl : a = b := by omega
    rw [sorted_unique l m ha.2 hb.2 (List.Perm.cons_inv h)]

theorem up_pairwise {xs : List Nat} (h : Up 0 xs.length xs) : (xs.map keyN).Pairwise (· ≤ ·) := by
  rw [List.pairwise_iff_getElem]
  intro i j hi hj hij
  simp only [List.length_map] at hi hj
  have := h i j (Nat.zero_le _) hij hj
  rw [nth_lt hi, nth_lt hj] at this
  simpa using this

/-- Put in order, the keys are these. -/
theorem up_keys {xs ys : List Nat} (hx : Up 0 xs.length xs) (hy : Up 0 ys.length ys) (hp : xs.Perm ys) : xs.map keyN = ys.map keyN :=
  sorted_unique _ _ (up_pairwise hx) (up_pairwise hy) (hp.map keyN)

theorem keyN_inv {x k : Nat} (h : keyN x = k) (hx : x < 18446744073709551616) (hk : k ≠ 18446744073709551615) : x = wordN k := by
  subst h
  unfold keyN at hk ⊢
  cases hn : isNaN x
  · rw [hn] at hk
    simp only [Bool.false_eq_true, if_false] at hk ⊢
    unfold wordN
    by_cases h1 : 9223372036854775808 ≤ x
    · rw [if_pos h1, if_neg (by omega)]; omega
    · rw [if_neg h1, if_pos (by omega)]; omega
  · rw [hn] at hk
    exact absurd rfl hk
theorem keyN_none {x : Nat} (h : keyN x = 18446744073709551615) (hx : x < 18446744073709551616) : isNaN x = true := by
  cases hn : isNaN x
  · exfalso
    unfold keyN at h
    rw [hn] at h
    simp only [Bool.false_eq_true, if_false] at h
    have h2 := of_decide_eq_false hn
    by_cases h1 : 9223372036854775808 ≤ x
    · rw [if_pos h1] at h; omega
    · rw [if_neg h1] at h; omega
  · rfl

def six : List Nat := [9221120237041090561, 4607182418800017408, 0, 9218868437227405312, 9223372036854775808, 13830554455654793216]
def sixUp : List Nat := [13830554455654793216, 9223372036854775808, 0, 4607182418800017408, 9218868437227405312, 9221120237041090561]

theorem six_keys {ys : List Nat} (hl : ys.length = 6) (hp : ys.Perm six) (hu : Up 0 6 ys) : nth ys 0 = 13830554455654793216 ∧ nth ys 4 = 9218868437227405312 ∧ isNaN (nth ys 5) = true := by
  have hS : (sixUp.map keyN).Pairwise (· ≤ ·) := by decide
  have hP : (six.map keyN).Perm (sixUp.map keyN) := by decide
  have he : ys.map keyN = sixUp.map keyN := sorted_unique _ _ (up_pairwise (by rw [hl]; exact hu)) hS ((hp.map keyN).trans hP)
  have hw : Words ys := fun x hx => by
    have : x ∈ six := hp.mem_iff.1 hx
    simp only [six, List.mem_cons, List.not_mem_nil, or_false] at this
    omega
  have hk : ∀ i, i < 6 → keyN (nth ys i) = keyN (nth sixUp i) := fun i hi => by
    have h1 : (ys.map keyN)[i]? = (sixUp.map keyN)[i]? := by rw [he]
    rw [List.getElem?_map, List.getElem?_map, List.getElem?_eq_getElem (by omega), List.getElem?_eq_getElem (show i < sixUp.length from hi)] at h1
    rw [nth_lt (by omega), nth_lt (show i < sixUp.length from hi)]
    simpa using h1
  refine ⟨?_, ?_, ?_⟩
  · exact (keyN_inv (hk 0 (by omega)) (hw.nth 0) (by decide)).trans (by decide)
  · exact (keyN_inv (hk 4 (by omega)) (hw.nth 4) (by decide)).trans (by decide)
  · exact keyN_none ((hk 5 (by omega)).trans (by decide)) (hw.nth 5)

theorem order_same {x : Nat} (h : isNaN x = false) : (FloatKind.f64.format.order x x == some .eq) = true := by
  show (Ieee.double.order x x == some .eq) = true
  rw [order_eq, h]; simp

theorem run_neg_fl (P : Program) (w : World) (x : Nat) : (Op.unary .neg (.float .f64 x)).run P w = .ok (.float .f64 (Op.negFloat .f64 x)) w := rfl
attribute [go_sem] run_neg_fl

set_option maxHeartbeats 1000000 in
theorem live_any (w : World) : Calls Try.prog 10 #[] w fun e w' => e = .returned (.bool true) ∧ Below w.heap.size w w' := by
  have sixR : Hid (∀ w : World, FR (w.alloc (.cells #[.float .f64 9221120237041090561, .float .f64 4607182418800017408, .float .f64 0, .float .f64 9218868437227405312, .float .f64 9223372036854775808, .float .f64 13830554455654793216] 26)) (some ⟨w.heap.size, 0, none⟩) 6 six) := by
    intro w
    exact (Own.reads (base := 0) ⟨rfl, fun _ => ⟨w.heap.size, [], rfl, Nat.zero_le _, heap_alloc_new w _⟩⟩)
  have hng : Op.negFloat .f64 0 = 9223372036854775808 := by decide
  go_enter Try.func10, Try.ntmps10
  go_wp2_with (first | (go_at_call 18; refine (nan_any _).mono ?_; rintro e w' ⟨rfl, rfl⟩) | (go_at_call 28; refine (inf_any _).mono ?_; rintro e w' ⟨rfl, rfl⟩))
  refine (order_any _ _ 6 6 six (sixR.out w) (fun x hx => by simp only [six, List.mem_cons, List.not_mem_nil, or_false] at hx; omega) (by omega)).mono ?_
  rintro e w1 ⟨A, c, ys, rfl, hb, ho, hp, hu⟩
  have hb' : Below w.heap.size w w1 := ((Below.refl _ _).alloc (Nat.le_refl _) _).trans (hb.mono (by simp))
  have HB := hide hb'
  obtain ⟨h0, h4, h5⟩ := six_keys ho.1 hp hu
  obtain ⟨g, tail, rfl, _, hh⟩ := ho.2 (by omega)
  have hr : SRow w1 w1 g ys := ⟨⟨tail, hh⟩, World.grownBy.refl _ _⟩
  have hl := ho.1
  have c0 := hr.cell 0 (by omega)
  have c4 := hr.cell 4 (by omega)
  have c5 := hr.cell 5 (by omega)
  unfold fl at c0 c4 c5
  have e0 : (FloatKind.f64.format.order (nth ys 0) 13830554455654793216 == some .eq) = true := by
    rw [h0]; exact order_same (by decide)
  have e4 : (FloatKind.f64.format.order (nth ys 4) 9218868437227405312 == some .eq) = true := by
    rw [h4]; exact order_same (by decide)
  have e5 : (FloatKind.f64.format.order (nth ys 5) (nth ys 5) != some .eq) = true := by
    rw [order_self, h5]
  clear hb hb' h0 h4 h5 hh ho hr hp hu hl
  generalize nth ys 0 = y0 at c0 e0
  generalize nth ys 4 = y4 at c4 e4
  generalize nth ys 5 = y5 at c5 e5
  clear sixR hng
  go_wp2_with fail
  go_quiet ((go_at_call 28; exact quiet_left (inf_any _)))
  go_wp2_with fail
  go_ret
  exact ⟨rfl, HB.out.trans (Drw.below ⟨nq, rfl⟩ _)⟩
end Go.Proofs.Ytfopmdnpjokjcaa
