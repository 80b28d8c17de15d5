/- What is read behind a crash, a sync, a write: plain laws. -/
import Derived.Test.YthhemdjggdgaaaaDoorWrite
namespace Go.Proofs.YthhemdjggdgaaaaDoor
set_option linter.unusedVariables false

def at0 (b : Bs) (i : Nat) : UInt8 := b.getD i 0
theorem at0_ext {a b : Bs} (hl : a.length = b.length) (h : ∀ i, i < a.length → at0 a i = at0 b i) : a = b := by
  apply List.ext_getElem hl
  intro i h1 h2
  have := h i h1
  unfold at0 at this
  rw [List.getD_eq_getElem?_getD, List.getD_eq_getElem?_getD, List.getElem?_eq_getElem h1, List.getElem?_eq_getElem h2] at this
  exact this
theorem at0_drop (b : Bs) (o i : Nat) : at0 (b.drop o) i = at0 b (o + i) := by
  unfold at0; rw [List.getD_eq_getElem?_getD, List.getD_eq_getElem?_getD, List.getElem?_drop]
theorem at0_take (b : Bs) (k i : Nat) (h : i < k) : at0 (b.take k) i = at0 b i := by
  unfold at0; rw [List.getD_eq_getElem?_getD, List.getD_eq_getElem?_getD, List.getElem?_take_of_lt h]
theorem at0_layB (bs v : Bs) (o i : Nat) (h : o + v.length ≤ bs.length) : at0 (layB bs o v) i = if o ≤ i ∧ i < o + v.length then at0 v (i - o) else at0 bs i := by
  unfold at0 layB
  simp only [List.getD_eq_getElem?_getD]
  have hto : (bs.take o).length = o := by rw [List.length_take]; omega
  by_cases h1 : i < o
  · rw [if_neg (by omega), List.append_assoc, List.getElem?_append_left (by omega), List.getElem?_take_of_lt h1]
  · by_cases h2 : i < o + v.length
    · rw [if_pos (by omega), List.append_assoc, List.getElem?_append_right (by omega), List.getElem?_append_left (by omega), hto]
    · rw [if_neg (by omega), List.getElem?_append_right (by rw [List.length_append]; omega), List.length_append, hto, List.getElem?_drop]
      congr 2; omega
theorem at0_page (dry : Bs) (a : Nat) (p : Bs) (m : UInt8) (hp : p.length = 32) (ha : a * 32 + 32 ≤ dry.length) (b r : Nat) (hr : r < 32) : ∀ k, k ≤ 8 →
    at0 (pageUpto dry a p m k) (b * 32 + r) = if b = a ∧ r / 4 < k ∧ bit m (r / 4) = true then at0 p r else at0 dry (b * 32 + r)
  | 0, _ => by rw [pageUpto, if_neg (by omega)]
  | k + 1, hk => by
    have ih := at0_page dry a p m hp ha b r hr k (by omega)
    have hg := group_len p k hp (by omega)
    unfold pageUpto
    by_cases hb : bit m k = true
    · rw [if_pos hb, at0_layB _ _ _ _ (by rw [pageUpto_len dry a p m hp ha k (by omega), hg]; omega), hg, ih]
      by_cases h1 : a * 32 + k * 4 ≤ b * 32 + r ∧ b * 32 + r < a * 32 + k * 4 + 4
      · have hba : b = a := by omega
        have hrk : r / 4 = k := by omega
        rw [if_pos h1, if_pos ⟨hba, by omega, by rw [hrk]; exact hb⟩, at0_take _ _ _ (by omega), at0_drop]
        congr 1; omega
      · rw [if_neg h1]
        by_cases h2 : b = a ∧ r / 4 < k ∧ bit m (r / 4) = true
        · rw [if_pos h2, if_pos ⟨h2.1, by omega, h2.2.2⟩]
        · rw [if_neg h2, if_neg (fun h3 => h2 ⟨h3.1, by omega, h3.2.2⟩)]
    · rw [if_neg hb, ih]
      by_cases h2 : b = a ∧ r / 4 < k ∧ bit m (r / 4) = true
      · rw [if_pos h2, if_pos ⟨h2.1, by omega, h2.2.2⟩]
      · rw [if_neg h2, if_neg (fun h3 => h2 ⟨h3.1, by
          have := h3.2.1
          rcases Nat.lt_or_ge (r / 4) k with h4 | h4
          · exact h4
          · exfalso
            have h5 : r / 4 = k := by omega
            rw [h5] at h3
            exact hb h3.2.2, h3.2.2⟩)]
/-- Octets of sectors that no page is of. -/
theorem at0_set_none {d : Dk} (h : Good d) (mask : Nat → UInt8) (b r : Nat) (hr : r < 32) : ∀ i, i ≤ d.wet.length → (∀ j, j < i → (qn d.wet j).1 ≠ b) → at0 (setUpto d.dry d.wet mask i) (b * 32 + r) = at0 d.dry (b * 32 + r)
  | 0, _, _ => rfl
  | i + 1, hi, hn => by
    have h0 := h.at0 i (by omega)
    have h1 := h.at1 i (by omega)
    have h2 := h.whole
    unfold setUpto
    rw [at0_page _ _ _ _ (h.len i (by omega)) (by rw [setUpto_len h mask i (by omega)]; omega) b r hr 8 (Nat.le_refl _), if_neg (fun k => hn i (by omega) (by have := k.1; omega))]
    exact at0_set_none h mask b r hr i (by omega) (fun j hj => hn j (by omega))
/-- .. that one page is of. -/
theorem at0_set_page {d : Dk} (h : Good d) (mask : Nat → UInt8) (b r : Nat) (hr : r < 32) (j : Nat) (hj : j < d.wet.length) (hb : (qn d.wet j).1 = b) : ∀ i, j < i → i ≤ d.wet.length →
    at0 (setUpto d.dry d.wet mask i) (b * 32 + r) = if bit (mask j) (r / 4) = true then at0 (qn d.wet j).2 r else at0 d.dry (b * 32 + r)
  | 0, h1, _ => by omega
  | i + 1, h1, hi => by
    have h0 := h.at0 i (by omega)
    have h3 := h.at1 i (by omega)
    have h2 := h.whole
    unfold setUpto
    rw [at0_page _ _ _ _ (h.len i (by omega)) (by rw [setUpto_len h mask i (by omega)]; omega) b r hr 8 (Nat.le_refl _)]
    by_cases e : j = i
    · subst e
      rw [at0_set_none h mask b r hr j (by omega) (fun k hk => by have := h.lt k j hk hj; omega)]
      by_cases hm : bit (mask j) (r / 4) = true
      · rw [if_pos ⟨by omega, by omega, hm⟩, if_pos hm]
      · rw [if_neg (fun k => hm k.2.2), if_neg hm]
    · have h5 := h.lt j i (by omega) (by omega)
      rw [if_neg (fun k => by have := k.1; omega), at0_set_page h mask b r hr j hj hb i (by omega) (by omega)]

theorem sect_len (b : Bs) (k : Nat) (h : k * 32 + 32 ≤ b.length) : (sect b k).length = 32 := by unfold sect; rw [List.length_take, List.length_drop]; omega
theorem at0_sect (b : Bs) (k r : Nat) (hr : r < 32) : at0 (sect b k) r = at0 b (k * 32 + r) := by unfold sect; rw [at0_take _ _ _ hr, at0_drop]
/-- Either no page is of a sector, or one. -/
theorem page_of (d : Dk) (s : Int) : (∀ j, j < d.wet.length → (qn d.wet j).1 ≠ s) ∨ ∃ j, j < d.wet.length ∧ (qn d.wet j).1 = s := by
  by_cases h : ∃ j, j < d.wet.length ∧ (qn d.wet j).1 = s
  · exact .inr h
  · exact .inl fun j hj he => h ⟨j, hj, he⟩
theorem Is.nat {d : Dk} {s : Int} (h : Is d s) : ∃ k : Nat, s = k ∧ k * 32 + 32 ≤ d.dry.length := by
  obtain ⟨hg, h0, h1⟩ := h
  have := hg.whole
  exact ⟨s.toNat, by omega, by omega⟩
theorem readB_len {d : Dk} {s : Int} (h : Is d s) : (readB d s).length = 32 := by
  rcases page_of d s with hn | ⟨j, hj, rfl⟩
  · obtain ⟨k, rfl, hk⟩ := h.nat
    rw [readB_none hn]
    exact sect_len _ _ hk
  · rw [readB_at h.1 hj]
    exact h.1.len j hj
theorem Good.settled {d : Dk} (h : Good d) (mask : Nat → UInt8) {l : Int} (h1 : -1 ≤ l) (h2 : l ≤ 1073741824) : Good (d.settled mask l) := by
  have hl : (d.settled mask l).dry.length = d.dry.length := setUpto_len h mask d.wet.length (Nat.le_refl _)
  have hn : (d.settled mask l).n = d.n := by unfold Dk.n; rw [hl]
  exact ⟨by rw [hn]; exact h.one, by rw [hn]; exact h.max, by rw [hl, hn]; exact h.whole, h1, h2, fun i hi => by simp [Dk.settled] at hi, fun i hi => by simp [Dk.settled] at hi, fun i hi => by simp [Dk.settled] at hi, fun i hi => by simp [Dk.settled] at hi⟩
theorem Is.settled {d : Dk} {s : Int} (h : Is d s) (mask : Nat → UInt8) {l : Int} (h1 : -1 ≤ l) (h2 : l ≤ 1073741824) : Is (d.settled mask l) s := by
  have hl : (d.settled mask l).dry.length = d.dry.length := setUpto_len h.1 mask d.wet.length (Nat.le_refl _)
  have hn : (d.settled mask l).n = d.n := by unfold Dk.n; rw [hl]
  exact ⟨h.1.settled mask h1 h2, h.2.1, by rw [hn]; exact h.2.2⟩
theorem readB_settled (d : Dk) (mask : Nat → UInt8) (l : Int) (k : Nat) : readB (d.settled mask l) k = sect (setUpto d.dry d.wet mask d.wet.length) k := by
  rw [readB_none (fun i hi => by simp [Dk.settled] at hi)]; rfl
/-- Each group behind a crash: as it was dry, or as it was read. -/
theorem torn_at0 {d : Dk} {s : Int} (h : Is d s) (mask : Nat → UInt8) (l : Int) (g : Nat) : (∀ r, r < 32 → r / 4 = g → at0 (readB (d.settled mask l) s) r = at0 (sect d.dry s.toNat) r) ∨ (∀ r, r < 32 → r / 4 = g → at0 (readB (d.settled mask l) s) r = at0 (readB d s) r) := by
  obtain ⟨k, rfl, hk⟩ := h.nat
  rcases page_of d (k : Int) with hn | ⟨j, hj, he⟩
  · refine .inl fun r hr _ => ?_
    rw [readB_settled, at0_sect _ _ _ hr, Int.toNat_natCast, at0_sect _ _ _ hr]
    exact at0_set_none h.1 mask k r hr _ (Nat.le_refl _) hn
  · by_cases hb : bit (mask j) g = true
    · refine .inr fun r hr hg => ?_
      rw [readB_settled, at0_sect _ _ _ hr, at0_set_page h.1 mask k r hr j hj he _ hj (Nat.le_refl _), hg, if_pos hb, ← he, readB_at h.1 hj]
    · refine .inl fun r hr hg => ?_
      rw [readB_settled, at0_sect _ _ _ hr, at0_set_page h.1 mask k r hr j hj he _ hj (Nat.le_refl _), hg, if_neg hb, Int.toNat_natCast, at0_sect _ _ _ hr]
theorem bit_255 : ∀ k, k < 8 → bit 255 k = true := by decide +kernel
/-- With all kept, all is as it was read. -/
theorem whole_read {d : Dk} {s : Int} (h : Is d s) (mask : Nat → UInt8) (l : Int) (hm : ∀ i, i < d.wet.length → mask i = 255) (h1 : -1 ≤ l) (h2 : l ≤ 1073741824) : readB (d.settled mask l) s = readB d s := by
  have hl := readB_len (h.settled mask h1 h2)
  apply at0_ext (by rw [hl, readB_len h])
  rw [hl]
  intro r hr
  obtain ⟨k, rfl, hk⟩ := h.nat
  rw [readB_settled, at0_sect _ _ _ hr]
  rcases page_of d (k : Int) with hn | ⟨j, hj, he⟩
  · rw [at0_set_none h.1 mask k r hr _ (Nat.le_refl _) hn, readB_none hn, Int.toNat_natCast, at0_sect _ _ _ hr]
  · rw [at0_set_page h.1 mask k r hr j hj he _ hj (Nat.le_refl _), hm j hj, if_pos (bit_255 _ (by omega)), ← he, readB_at h.1 hj]
end Go.Proofs.YthhemdjggdgaaaaDoor
