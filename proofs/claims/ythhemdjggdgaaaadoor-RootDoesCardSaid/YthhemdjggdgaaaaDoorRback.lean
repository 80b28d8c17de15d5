/- What is written is read: plain laws. -/
import Derived.Test.YthhemdjggdgaaaaDoorRfind
namespace Go.Proofs.YthhemdjggdgaaaaDoor
open Go.RowKit
set_option linter.unusedVariables false

theorem le_putN (n : Nat) : ∀ w, le (putN n w) = n % 2 ^ (8 * w)
  | 0 => by simp [putN, le, Nat.mod_one]
  | w + 1 => by
    have ih := le_putN n w
    rw [← putN_snoc, le_snoc, putN_len, ih, pow8, Nat.mul_comm 256, Nat.mod_mul]
    congr 1
    unfold byteAt
    rw [UInt8.toNat_ofNat', Nat.mul_comm]
theorem leU_putN {n w : Nat} (h : n < 2 ^ (8 * w)) (a r : Bs) (o : Nat) (ho : a.length = o) : leU ((a ++ putN n w ++ r).drop o) w = n := by
  unfold leU
  rw [List.append_assoc, ← ho, List.drop_left, List.take_append_of_le_length (by rw [putN_len]; omega), List.take_of_length_le (by rw [putN_len]; omega), le_putN, Nat.mod_eq_of_lt h]
theorem at0_left (a b : Bs) (i : Nat) (h : i < a.length) : at0 (a ++ b) i = at0 a i := by
  unfold at0; rw [List.getD_eq_getElem?_getD, List.getD_eq_getElem?_getD, List.getElem?_append_left h]
theorem at0_right (a b : Bs) (i : Nat) (h : a.length ≤ i) : at0 (a ++ b) i = at0 b (i - a.length) := by
  unfold at0; rw [List.getD_eq_getElem?_getD, List.getD_eq_getElem?_getD, List.getElem?_append_right h]
theorem octs_first (x : Nums) : ∀ k, k ≤ 8 → ∀ i, i < k → at0 (octsU x k) (4 * i) = byteAt x.gen 0
  | 0, _, i, hi => by omega
  | k + 1, hk, i, hi => by
    have hl := octsU_len x k (by omega)
    rw [octsU]
    by_cases h : i < k
    · rw [at0_left _ _ _ (by rw [List.length_append]; simp; omega), at0_left _ _ _ (by omega)]
      exact octs_first x k (by omega) i h
    · obtain rfl : i = k := by omega
      rw [at0_left _ _ _ (by rw [List.length_append]; simp; omega), at0_right _ _ _ (by omega), hl, Nat.sub_self]
      rfl
theorem octs_rest (x : Nums) : ∀ k, k ≤ 8 → ∀ i r, i < k → r < 3 → at0 (octsU x k) (4 * i + 1 + r) = at0 (body7 x) (3 * i + r)
  | 0, _, i, r, hi, _ => by omega
  | k + 1, hk, i, r, hi, hr => by
    have hl := octsU_len x k (by omega)
    have hb := body7_len x
    rw [octsU]
    by_cases h : i < k
    · rw [at0_left _ _ _ (by rw [List.length_append]; simp; omega), at0_left _ _ _ (by omega)]
      exact octs_rest x k (by omega) i r h hr
    · obtain rfl : i = k := by omega
      rw [at0_right _ _ _ (by rw [List.length_append]; simp; omega), List.length_append, hl]
      simp only [List.length_cons, List.length_nil]
      rw [show 4 * i + 1 + r - (4 * i + (0 + 1)) = r by omega, at0_take _ _ _ hr, at0_drop]
theorem octs_len (x : Nums) : (octs x).length = 32 := octsU_len x 8 (Nat.le_refl _)
theorem strip_gen {b t : Bs} (hl : b.length = 32) (hb : t.length = 24) (h : ∀ i r, i < 8 → r < 3 → at0 b (4 * i + 1 + r) = at0 t (3 * i + r)) : ∀ i, i ≤ 8 → strip b i = t.take (3 * i)
  | 0, _ => by simp [strip]
  | i + 1, hi => by
    have ih := strip_gen hl hb h i (by omega)
    have e : (b.drop (4 * i + 1)).take 3 = (t.drop (3 * i)).take 3 := by
      apply at0_ext
      · rw [List.length_take, List.length_take, List.length_drop, List.length_drop, hb, hl]; omega
      · intro r hr
        have hr3 : r < 3 := by rw [List.length_take] at hr; omega
        rw [at0_take _ _ _ hr3, at0_take _ _ _ hr3, at0_drop, at0_drop]
        exact h i r (by omega) hr3
    rw [strip, ih, show 3 * (i + 1) = 3 * i + 3 by omega, List.take_add, e]
theorem strip_all (x : Nums) : strip (octs x) 8 = body7 x := by
  have := strip_gen (octs_len x) (body7_len x) (fun i r hi hr => octs_rest x 8 (Nat.le_refl _) i r hi hr) 8 (Nat.le_refl _)
  rw [this]
  exact List.take_of_length_le (by rw [body7_len]; omega)
theorem parse_body {r : Rt} (h : RGood r) (hs : r.sum < 4294967296) : parse (body7 r.nums) = r := by
  obtain ⟨gen, at_, len, long, sum, next⟩ := r
  obtain ⟨g1, g2, n2, a1, a2, l1, l2, o1, o2⟩ := h
  simp only at g1 g2 n2 a1 a2 l1 l2 o1 o2 hs
  have e0 : leU (body7 (Rt.nums ⟨gen, at_, len, long, sum, next⟩)) 6 = gen := by
    have := leU_putN (n := gen) (w := 6) (by omega) [] (putN at_.toNat 2 ++ putN len.toNat 2 ++ putN long.toNat 3 ++ putN sum 4 ++ putN next 6 ++ putN 0 1) 0 rfl
    simpa [body7, body6, body5, body4, body3, body2, body1, Rt.nums, List.append_assoc] using this
  have e1 : leU ((body7 (Rt.nums ⟨gen, at_, len, long, sum, next⟩)).drop 6) 2 = at_.toNat := by
    have := leU_putN (n := at_.toNat) (w := 2) (by omega) (putN gen 6) (putN len.toNat 2 ++ putN long.toNat 3 ++ putN sum 4 ++ putN next 6 ++ putN 0 1) 6 (putN_len _ _)
    simpa [body7, body6, body5, body4, body3, body2, body1, Rt.nums, List.append_assoc] using this
  have e2 : leU ((body7 (Rt.nums ⟨gen, at_, len, long, sum, next⟩)).drop 8) 2 = len.toNat := by
    have := leU_putN (n := len.toNat) (w := 2) (by omega) (putN gen 6 ++ putN at_.toNat 2) (putN long.toNat 3 ++ putN sum 4 ++ putN next 6 ++ putN 0 1) 8 (by simp [putN_len])
    simpa [body7, body6, body5, body4, body3, body2, body1, Rt.nums, List.append_assoc] using this
  have e3 : leU ((body7 (Rt.nums ⟨gen, at_, len, long, sum, next⟩)).drop 10) 3 = long.toNat := by
    have := leU_putN (n := long.toNat) (w := 3) (by omega) (putN gen 6 ++ putN at_.toNat 2 ++ putN len.toNat 2) (putN sum 4 ++ putN next 6 ++ putN 0 1) 10 (by simp [putN_len])
    simpa [body7, body6, body5, body4, body3, body2, body1, Rt.nums, List.append_assoc] using this
  have e4 : leU ((body7 (Rt.nums ⟨gen, at_, len, long, sum, next⟩)).drop 13) 4 = sum := by
    have := leU_putN (n := sum) (w := 4) (by omega) (putN gen 6 ++ putN at_.toNat 2 ++ putN len.toNat 2 ++ putN long.toNat 3) (putN next 6 ++ putN 0 1) 13 (by simp [putN_len])
    simpa [body7, body6, body5, body4, body3, body2, body1, Rt.nums, List.append_assoc] using this
  have e5 : leU ((body7 (Rt.nums ⟨gen, at_, len, long, sum, next⟩)).drop 17) 6 = next := by
    have := leU_putN (n := next) (w := 6) (by omega) (putN gen 6 ++ putN at_.toNat 2 ++ putN len.toNat 2 ++ putN long.toNat 3 ++ putN sum 4) (putN 0 1) 17 (by simp [putN_len])
    simpa [body7, body6, body5, body4, body3, body2, body1, Rt.nums, List.append_assoc] using this
  unfold parse
  rw [e0, e1, e2, e3, e4, e5]
  simp only [Rt.mk.injEq, true_and, and_true]
  omega
/-- What is written is read. -/
theorem of_octs {r : Rt} (h : RGood r) (hs : r.sum < 4294967296) : ofS (octs r.nums) = (r, 0) := by
  have e : parse (strip (octs r.nums) 8) = r := by rw [strip_all]; exact parse_body h hs
  have := ofS_ok (b := octs r.nums) (octs_len _) (by rw [e]; exact octS_ok h)
  rw [this, e]
/-- What is read is written. -/
theorem octs_of {b : Bs} {r : Rt} (h : ofS b = (r, 0)) : octS r = (b, 0) ∧ RGood r ∧ b.length = 32 := by
  unfold ofS at h
  by_cases hk : b.length = 32 ∧ octS (parse (strip b 8)) = (b, 0)
  · rw [if_pos hk] at h
    have e : parse (strip b 8) = r := congrArg Prod.fst h
    rw [e] at hk
    refine ⟨hk.2, ?_, hk.1⟩
    by_cases hg : RGood r
    · exact hg
    · have := hk.2; rw [octS_bad hg] at this; have := congrArg Prod.snd this; simp at this
  · rw [if_neg hk] at h; have := congrArg Prod.snd h; simp at this
theorem ofS_two (b : Bs) : (ofS b).2 = 0 ∨ ofS b = (Rt.zero, 2) := by
  by_cases hk : b.length = 32 ∧ octS (parse (strip b 8)) = (b, 0)
  · exact .inl (by rw [ofS_ok hk.1 hk.2])
  · exact .inr (ofS_bad hk)
theorem group_gen {o : Bs} {g c : UInt8} {k : Nat} (hl : o.length = 32) (hf : ∀ i, i < 8 → at0 o (4 * i) = g) (hk : k < 8) (hc : g ≠ c) : ofS (o.set (4 * k) c) = (Rt.zero, 2) := by
  obtain ⟨B, hB⟩ : ∃ B, B = o.set (4 * k) c := ⟨_, rfl⟩
  have sk : at0 B (4 * k) = c := by rw [hB]; unfold at0; rw [List.getD_eq_getElem?_getD, List.getElem?_set_self (by omega)]; rfl
  obtain ⟨j, hj, hjk⟩ : ∃ j, j < 8 ∧ j ≠ k := by
    by_cases h0 : k = 0
    · exact ⟨1, by omega, by omega⟩
    · exact ⟨0, by omega, by omega⟩
  have sj : at0 B (4 * j) = g := by
    rw [← hf j hj, hB]
    unfold at0
    rw [List.getD_eq_getElem?_getD, List.getD_eq_getElem?_getD, List.getElem?_set_ne (by omega)]
  rw [← hB]
  clear hB
  rcases ofS_two B with h | h
  · exfalso
    obtain ⟨r, x, hr⟩ : ∃ r x, ofS B = (r, x) := ⟨_, _, rfl⟩
    rw [hr] at h
    simp only at h
    subst h
    obtain ⟨h1, h2, _⟩ := octs_of hr
    rw [octS_ok h2] at h1
    have e : octs r.nums = B := congrArg Prod.fst h1
    have f : ∀ i, i < 8 → at0 B (4 * i) = byteAt r.nums.gen 0 := fun i hi => by rw [← e]; exact octs_first _ 8 (Nat.le_refl _) i hi
    exact hc (by rw [← sj, f j hj, ← f k hk, sk])
  · exact h
theorem group_bad {x : Nums} {k : Nat} {c : UInt8} (hk : k < 8) (hc : byteAt x.gen 0 ≠ c) : ofS ((octs x).set (4 * k) c) = (Rt.zero, 2) :=
  group_gen (octs_len x) (fun i hi => octs_first x 8 (Nat.le_refl _) i hi) hk hc
end Go.Proofs.YthhemdjggdgaaaaDoor
