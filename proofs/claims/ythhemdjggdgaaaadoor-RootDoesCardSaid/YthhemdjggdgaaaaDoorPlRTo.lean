/- What RootTorn's walk comes to: plain. -/
import Derived.Test.YthhemdjggdgaaaaDoorPlFound
namespace Go.Proofs.YthhemdjggdgaaaaDoor
open Go.RowKit
set_option linter.unusedVariables false

theorem bits_mix : ∀ n, n < 256 → n ≠ 0 → n ≠ 255 → (∃ i, i < 8 ∧ (n / 2 ^ i % 2 == 1) = true) ∧ ∃ j, j < 8 ∧ (n / 2 ^ j % 2 == 1) = false := by decide +kernel
theorem bit_0 : ∀ k, k < 8 → bit 0 k = false := by decide +kernel
theorem mask_one (m : UInt8) : maskAt [m] 0 = m := rfl
theorem mem_nil_put (s : Int) (b : Bs) : putW [] s b = [(s, b)] := rfl
/-- A sector that one page was written to, behind a crash. -/
theorem torn_page {d : Dk} {s l : Int} {b : Bs} {m : UInt8} (h : Is d s) (hw : d.wet = []) (hb : b.length = 32) (h1 : -1 ≤ l) (h2 : l ≤ 1073741824) (r : Nat) (hr : r < 32) :
    at0 (readB ((d.put s b l).settled (maskAt [m]) (-1)) s) r = if bit m (r / 4) = true then at0 b r else at0 (readB d s) r := by
  have hp : Is (d.put s b l) s := Is.put h hb h1 h2 h.2.1 h.2.2
  have hwet : (d.put s b l).wet = [(s, b)] := by show putW d.wet s b = _; rw [hw]; rfl
  have hdry : (d.put s b l).dry = d.dry := rfl
  have hd : readB d s = sect d.dry s.toNat := readB_none (fun i hi => by rw [hw] at hi; simp at hi)
  have hq : qn (d.put s b l).wet 0 = (s, b) := by rw [hwet]; rfl
  obtain ⟨k, rfl, hk⟩ := h.nat
  rw [readB_settled, at0_sect _ _ _ hr]
  have := at0_set_page hp.1 (maskAt [m]) k r hr 0 (by rw [hwet]; simp) (by rw [hq]) (d.put k b l).wet.length (by rw [hwet]; simp) (Nat.le_refl _)
  rw [this, hq, mask_one, hdry, hd, Int.toNat_natCast, at0_sect _ _ _ hr]
theorem byte_ne {a b : Nat} (h : a % 256 ≠ b % 256) : byteAt a 0 ≠ byteAt b 0 := by
  intro e
  have := congrArg UInt8.toNat e
  unfold byteAt at this
  rw [UInt8.toNat_ofNat', UInt8.toNat_ofNat'] at this
  simp at this
  exact h this
/-- Octets whose groups' first ones differ are no root. -/
theorem mix_bad {o : Bs} {i j : Nat} (hi : i < 8) (hj : j < 8) (h : at0 o (4 * i) ≠ at0 o (4 * j)) : ofS o = (Rt.zero, 2) := by
  rcases ofS_two o with k | k
  · exfalso
    obtain ⟨r, x, hr⟩ : ∃ r x, ofS o = (r, x) := ⟨_, _, rfl⟩
    rw [hr] at k
    simp only at k
    subst k
    obtain ⟨h1, h2, _⟩ := octs_of hr
    rw [octS_ok h2] at h1
    have e : octs r.nums = o := congrArg Prod.fst h1
    have f : ∀ i, i < 8 → at0 o (4 * i) = byteAt r.nums.gen 0 := fun i hi => by rw [← e]; exact octs_first _ 8 (Nat.le_refl _) i hi
    exact h (by rw [f i hi, f j hj])
  · exact k
theorem best_or (d : Dk) : bestU d 2 = Rt.zero ∨ ∃ i : Nat, i < 2 ∧ ofS (readB d (i : Int)) = (bestU d 2, 0) := by
  rw [best2]
  rcases pick_or (pick Rt.zero (readB d 0) 0) (readB d 1) 1 with k | k
  · rw [k]
    rcases pick_or Rt.zero (readB d 0) 0 with q | q
    · exact .inl q
    · exact .inr ⟨0, by omega, q.1⟩
  · exact .inr ⟨1, by omega, k.1⟩
theorem zero_left {l : Int} (h : l = -1) : dec l = -1 := by rw [h]; decide
theorem tornR {d : Dk} {old r : Rt} {m : UInt8} (hl : d.left = -1) (hp : old.gen % 2 = r.gen % 2) (hg : old.gen % 256 ≠ r.gen % 256) (h : (rtwS d old).2 = 0) (hr : RGood r) (hs1 : old.sum < 4294967296) (hs2 : r.sum < 4294967296) :
    ∃ D X C got oth x j y mm fd k, rtwS d old = (D, 0) ∧ D.dry.length = d.dry.length ∧ D.wet.length = 0 ∧ writeS D ((r.gen % 2 : Nat) : Int) (octs r.nums) = (X, 0) ∧ X.dry.length = d.dry.length ∧ X.wet.length = 1 ∧
      crashS X [m] = (C, 0) ∧ C.dry.length = d.dry.length ∧ C.wet.length = 0 ∧ readS C ((r.gen % 2 : Nat) : Int) = (got, 0) ∧ got.length = 32 ∧ ofS got = (x, j) ∧
      (m = 255 ∧ x = r ∧ j = 0 ∨ m = 0 ∧ x = old ∧ j = 0 ∨ m ≠ 255 ∧ m ≠ 0 ∧ x = Rt.zero ∧ j = 2) ∧ findS C = (fd, k) ∧ readS C (1 - ((r.gen % 2 : Nat) : Int)) = (oth, 0) ∧ oth.length = 32 ∧ ofS oth = (y, mm) ∧
      (k = 4 ∨ k = 0 ∧ (fd = x ∧ j = 0 ∨ mm = 0 ∧ fd = y)) := by
  obtain ⟨ho, _, hf, hi, h0, _, hw⟩ := rtw_ok h
  obtain ⟨hgd, h64⟩ := fit_good hf
  have ho32 : (octs old.nums).length = 32 := octs_len _
  have hr32 : (octs r.nums).length = 32 := octs_len _
  have d1 : dec d.left = -1 := zero_left hl
  have d2 : dec (dec d.left) = -1 := zero_left d1
  rw [d1, zero_left (rfl : (-1 : Int) = -1), hp] at hw
  rw [hp] at hi
  obtain ⟨s, hs⟩ : ∃ s : Int, s = ((r.gen % 2 : Nat) : Int) := ⟨_, rfl⟩
  rw [← hs] at hw hi ⊢
  have s2 : s = 0 ∨ s = 1 := by omega
  have m1 : (-1 : Int) ≤ -1 := by omega
  have m2 : (-1 : Int) ≤ 1073741824 := by omega
  have hP : Is (d.put s (octs old.nums) (-1)) s := Is.put hi ho32 m1 m2 hi.2.1 hi.2.2
  have hPd : (d.put s (octs old.nums) (-1)).dry.length = d.dry.length := rfl
  have hDs : Is ((d.put s (octs old.nums) (-1)).settled allMask (-1)) s := hP.settled allMask m1 m2
  have hDr : readB ((d.put s (octs old.nums) (-1)).settled allMask (-1)) s = octs old.nums := (whole_read hP allMask (-1) (fun i _ => rfl) m1 m2).trans (readB_put_same d s _ _)
  have hDl : ((d.put s (octs old.nums) (-1)).settled allMask (-1)).dry.length = d.dry.length := (settled_len hP.1 _ _).trans hPd
  obtain ⟨D, hD⟩ : ∃ D, D = (d.put s (octs old.nums) (-1)).settled allMask (-1) := ⟨_, rfl⟩
  have hDw : D.wet = [] := by rw [hD]; rfl
  have hDlf : D.left = -1 := by rw [hD]; rfl
  rw [← hD] at hw hDs hDr hDl
  clear hD hP hPd
  have hX : writeS D s (octs r.nums) = (D.put s (octs r.nums) (-1), 0) := by rw [write_lives hDs hr32 (by rw [hDlf]; omega), zero_left hDlf]
  have hXs : Is (D.put s (octs r.nums) (-1)) s := Is.put hDs hr32 m1 m2 hDs.2.1 hDs.2.2
  have hXw : (D.put s (octs r.nums) (-1)).wet.length = 1 := by show (putW D.wet s (octs r.nums)).length = 1; rw [hDw]; rfl
  have hXd : (D.put s (octs r.nums) (-1)).dry.length = d.dry.length := hDl
  have hpg := fun i hi => torn_page (m := m) hDs hDw hr32 m1 m2 i hi
  rw [hDr] at hpg
  have hC := crashS_ok hXs.1 [m]
  have hCs := hXs.settled (maskAt [m]) m1 m2
  have hCl : ((D.put s (octs r.nums) (-1)).settled (maskAt [m]) (-1)).dry.length = d.dry.length := (settled_len hXs.1 _ _).trans hXd
  obtain ⟨C, hCe⟩ : ∃ C, C = (D.put s (octs r.nums) (-1)).settled (maskAt [m]) (-1) := ⟨_, rfl⟩
  have hCw : C.wet.length = 0 := by rw [hCe]; rfl
  rw [← hCe] at hpg hC hCs hCl
  clear hCe
  have hCf : fitS C = 0 := fit_of hCs.1 (by omega)
  have hCn : ∀ k : Int, 0 ≤ k → k < 2 → Is C k := fun k k0 k1 => by
    obtain ⟨q, rfl⟩ := Int.eq_ofNat_of_zero_le k0
    exact fit_is hCf (by omega)
  have hCo : Is C (1 - s) := hCn _ (by omega) (by omega)
  have hgl : (readB C s).length = 32 := readB_len hCs
  obtain ⟨x, j, hx⟩ : ∃ x j, ofS (readB C s) = (x, j) := ⟨_, _, rfl⟩
  obtain ⟨y, mm, hy⟩ : ∃ y mm, ofS (readB C (1 - s)) = (y, mm) := ⟨_, _, rfl⟩
  have hcase : m = 255 ∧ x = r ∧ j = 0 ∨ m = 0 ∧ x = old ∧ j = 0 ∨ m ≠ 255 ∧ m ≠ 0 ∧ x = Rt.zero ∧ j = 2 := by
    by_cases ha : m = 255
    · subst ha
      have e : readB C s = octs r.nums := by
        apply at0_ext (by rw [hgl, hr32])
        rw [hgl]
        intro i hi
        rw [hpg i hi, if_pos (bit_255 _ (by omega))]
      rw [e, of_octs hr hs2] at hx
      exact .inl ⟨rfl, (congrArg Prod.fst hx).symm, (congrArg Prod.snd hx).symm⟩
    · by_cases hz : m = 0
      · subst hz
        have e : readB C s = octs old.nums := by
          apply at0_ext (by rw [hgl, ho32])
          rw [hgl]
          intro i hi
          rw [hpg i hi, if_neg (by rw [bit_0 _ (by omega)]; simp)]
        rw [e, of_octs ho hs1] at hx
        exact .inr (.inl ⟨rfl, (congrArg Prod.fst hx).symm, (congrArg Prod.snd hx).symm⟩)
      · refine .inr (.inr ⟨ha, hz, ?_⟩)
        obtain ⟨⟨a, ha8, hab⟩, ⟨b, hb8, hbb⟩⟩ := bits_mix m.toNat m.toNat_lt (fun k => hz (UInt8.toNat_inj.1 k)) (fun k => ha (UInt8.toNat_inj.1 k))
        have ea : at0 (readB C s) (4 * a) = byteAt r.gen 0 := by
          rw [hpg _ (by omega), show 4 * a / 4 = a by omega, if_pos (show bit m a = true from hab)]
          exact octs_first _ 8 (Nat.le_refl _) a ha8
        have eb : at0 (readB C s) (4 * b) = byteAt old.gen 0 := by
          rw [hpg _ (by omega), show 4 * b / 4 = b by omega, if_neg (by rw [show bit m b = false from hbb]; simp)]
          exact octs_first _ 8 (Nat.le_refl _) b hb8
        have := mix_bad (o := readB C s) ha8 hb8 (by rw [ea, eb]; exact fun k => byte_ne hg k.symm)
        rw [this] at hx
        exact ⟨(congrArg Prod.fst hx).symm, (congrArg Prod.snd hx).symm⟩
  obtain ⟨fd, k, hk⟩ : ∃ fd k, findS C = (fd, k) := ⟨_, _, rfl⟩
  refine ⟨D, D.put s (octs r.nums) (-1), C, _, _, x, j, y, mm, fd, k, hw, hDl, by rw [hDw]; rfl, hX, hXd, hXw, hC, hCl, hCw, readS_ok hCs, hgl, hx, hcase, hk, readS_ok hCo, readB_len hCo, hy, ?_⟩
  by_cases hb : (bestU C 2).gen = 0
  · left
    unfold findS at hk
    rw [if_neg (by rw [hCf]; simp), if_pos hb] at hk
    exact (congrArg Prod.snd hk).symm
  · right
    rw [find_is hCf hb] at hk
    obtain rfl : bestU C 2 = fd := congrArg Prod.fst hk
    refine ⟨(congrArg Prod.snd hk).symm, ?_⟩
    rcases best_or C with q | ⟨i, hi2, q⟩
    · rw [q] at hb; exact absurd rfl hb
    · by_cases his : (i : Int) = s
      · rw [his, hx] at q
        exact .inl ⟨(congrArg Prod.fst q).symm, congrArg Prod.snd q⟩
      · have e : (i : Int) = 1 - s := by omega
        rw [e, hy] at q
        exact .inr ⟨congrArg Prod.snd q, (congrArg Prod.fst q).symm⟩
end Go.Proofs.YthhemdjggdgaaaaDoor
