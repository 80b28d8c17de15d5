/- What RootFound's walk comes to: plain. -/
import Derived.Test.YthhemdjggdgaaaaDoorRback
namespace Go.Proofs.YthhemdjggdgaaaaDoor
open Go.RowKit
set_option linter.unusedVariables false

theorem pick_ok {best x : Rt} {b : Bs} {i : Nat} (h : ofS b = (x, 0)) (hi : x.gen % 2 = i) : pick best b i = if best.gen < x.gen then x else best := by
  unfold pick
  rw [h]
  by_cases h1 : best.gen < x.gen
  · rw [if_pos ⟨rfl, hi, h1⟩, if_pos h1]
  · rw [if_neg (fun k => h1 k.2.2), if_neg h1]
/-- What is picked is the one ahead, or one of the sector's parity that is greater. -/
theorem pick_or (best : Rt) (b : Bs) (i : Nat) : pick best b i = best ∨ (ofS b = (pick best b i, 0) ∧ (pick best b i).gen % 2 = i ∧ best.gen < (pick best b i).gen) := by
  unfold pick
  by_cases h : (ofS b).2 = 0 ∧ (ofS b).1.gen % 2 = i ∧ best.gen < (ofS b).1.gen
  · rw [if_pos h]; exact .inr ⟨Prod.ext rfl h.1, h.2.1, h.2.2⟩
  · rw [if_neg h]; exact .inl rfl
theorem pick_le (best : Rt) (b : Bs) (i : Nat) : best.gen ≤ (pick best b i).gen := by
  rcases pick_or best b i with h | h
  · rw [h]; exact Nat.le_refl _
  · omega
/-- One that may be picked is not greater than what is. -/
theorem pick_max {best x : Rt} {b : Bs} {i : Nat} (h : ofS b = (x, 0)) (hi : x.gen % 2 = i) : x.gen ≤ (pick best b i).gen := by
  rw [pick_ok h hi]; split <;> omega
theorem best2 (d : Dk) : bestU d 2 = pick (pick Rt.zero (readB d 0) 0) (readB d 1) 1 := rfl
theorem best_of {d e : Dk} (h0 : readB d 0 = readB e 0) (h1 : readB d 1 = readB e 1) : bestU d 2 = bestU e 2 := by rw [best2, best2, h0, h1]
/-- One written in its sector. -/
theorem best_put {d w : Dk} {r : Rt} {b : Bs} (ho : ofS b = (r, 0)) (hg : 1 ≤ r.gen) (hs : readB w ((r.gen % 2 : Nat) : Int) = b) (hn : ∀ k : Int, 0 ≤ k → k < 2 → k ≠ ((r.gen % 2 : Nat) : Int) → readB w k = readB d k) :
    (bestU w 2).gen ≠ 0 ∧ ((bestU d 2).gen ≤ r.gen → bestU w 2 = r) ∧ (r.gen < (bestU d 2).gen → (bestU d 2).gen % 2 ≠ r.gen % 2 → bestU w 2 = bestU d 2) := by
  rw [best2, best2]
  have z0 : Rt.zero.gen = 0 := rfl
  by_cases h : r.gen % 2 = 0
  · rw [h] at hs hn
    have e0 : readB w 0 = b := hs
    have e1 : readB w 1 = readB d 1 := hn 1 (by omega) (by omega) (by decide)
    rw [e0, e1]
    have p0 : pick Rt.zero b 0 = r := by rw [pick_ok ho h, if_pos (by omega)]
    rw [p0]
    have l1 := pick_le r (readB d 1) 1
    refine ⟨by omega, fun hm => ?_, fun hl hp => ?_⟩
    · rcases pick_or r (readB d 1) 1 with k | ⟨k1, k2, k3⟩
      · exact k
      · have := pick_max (best := pick Rt.zero (readB d 0) 0) k1 k2
        omega
    · rcases pick_or (pick Rt.zero (readB d 0) 0) (readB d 1) 1 with k | ⟨k1, k2, k3⟩
      · rw [k] at hl hp
        rcases pick_or Rt.zero (readB d 0) 0 with q | ⟨q1, q2, q3⟩
        · rw [q] at hl; omega
        · omega
      · generalize pick (pick Rt.zero (readB d 0) 0) (readB d 1) 1 = x at *
        rw [pick_ok k1 k2, if_pos hl]
  · have h1 : r.gen % 2 = 1 := by omega
    rw [h1] at hs hn
    have e1 : readB w 1 = b := hs
    have e0 : readB w 0 = readB d 0 := hn 0 (by omega) (by omega) (by decide)
    rw [e0, e1]
    have l1 := pick_le (pick Rt.zero (readB d 0) 0) b 1
    have l2 := pick_le (pick Rt.zero (readB d 0) 0) (readB d 1) 1
    have l3 := pick_max (best := pick Rt.zero (readB d 0) 0) ho h1
    have ev : (pick Rt.zero (readB d 0) 0).gen % 2 = 0 := by
      rcases pick_or Rt.zero (readB d 0) 0 with q | ⟨q1, q2, q3⟩
      · rw [q]; rfl
      · exact q2
    refine ⟨by omega, fun hm => ?_, fun hl hp => ?_⟩
    · rw [pick_ok ho h1, if_pos (by omega)]
    · rcases pick_or (pick Rt.zero (readB d 0) 0) (readB d 1) 1 with k | ⟨k1, k2, k3⟩
      · rw [k] at hl ⊢
        rw [pick_ok ho h1, if_neg (by omega)]
      · omega
/-- A root written: how, when it is. -/
theorem rtw_ok {d : Dk} {r : Rt} (h : (rtwS d r).2 = 0) : RGood r ∧ octS r = (octs r.nums, 0) ∧ fitS d = 0 ∧ Is d ((r.gen % 2 : Nat) : Int) ∧ d.left ≠ 0 ∧ dec d.left ≠ 0 ∧
    rtwS d r = ((d.put ((r.gen % 2 : Nat) : Int) (octs r.nums) (dec d.left)).settled allMask (dec (dec d.left)), 0) := by
  have hr : RGood r := by
    by_cases hr : RGood r
    · exact hr
    · unfold rtwS at h; rw [if_pos (.inl (by rw [octS_bad hr]; simp))] at h; simp at h
  have ho := octS_ok hr
  have hf : fitS d = 0 := by
    by_cases hf : fitS d = 0
    · exact hf
    · unfold rtwS at h; rw [if_pos (.inr hf)] at h; simp at h
  have hi : Is d ((r.gen % 2 : Nat) : Int) := fit_is hf (by omega)
  have hl32 : (octs r.nums).length = 32 := octs_len _
  have hne : ¬ ((octS r).2 ≠ 0 ∨ fitS d ≠ 0) := fun k => k.elim (fun k => k (by rw [ho])) (fun k => k hf)
  have hu : rtwS d r = if (writeS d ((r.gen % 2 : Nat) : Int) (octs r.nums)).2 ≠ 0 then (Dk.zero, (writeS d ((r.gen % 2 : Nat) : Int) (octs r.nums)).2) else syncS (writeS d ((r.gen % 2 : Nat) : Int) (octs r.nums)).1 := by
    unfold rtwS; rw [if_neg hne, ho]
  have h0 : d.left ≠ 0 := by
    intro h0
    rw [hu, write_dead hi hl32 h0] at h
    simp at h
  have hw := write_lives hi hl32 h0
  rw [hw] at hu
  have hu2 : rtwS d r = syncS (d.put ((r.gen % 2 : Nat) : Int) (octs r.nums) (dec d.left)) := by rw [hu]; exact if_neg (by simp)
  have hg : Good (d.put ((r.gen % 2 : Nat) : Int) (octs r.nums) (dec d.left)) := Good.put hi hl32 (dec_lo hi.1.left0) (dec_hi hi.1.left1)
  have h1 : dec d.left ≠ 0 := by
    intro h1
    rw [hu2, sync_dead hg h1] at h
    simp at h
  exact ⟨hr, ho, hf, hi, h0, h1, by rw [hu2, sync_lives hg h1]; rfl⟩
theorem rtw_bad {d : Dk} {r : Rt} (h : (rtwS d r).2 ≠ 0) : (rtwS d r).1 = Dk.zero := by
  unfold rtwS at h ⊢
  by_cases h1 : (octS r).2 ≠ 0 ∨ fitS d ≠ 0
  · rw [if_pos h1]
  · rw [if_neg h1] at h ⊢
    by_cases h2 : (writeS d ((r.gen % 2 : Nat) : Int) (octS r).1).2 ≠ 0
    · rw [if_pos h2]
    · rw [if_neg h2] at h ⊢
      generalize (writeS d ((r.gen % 2 : Nat) : Int) (octS r).1).1 = X at *
      by_cases hg : Good X
      · by_cases h0 : X.left = 0
        · rw [sync_dead hg h0]
        · rw [sync_lives hg h0] at h; simp at h
      · rw [syncS_bad hg]
theorem fit_of {d : Dk} (h : Good d) (h1 : 64 < d.dry.length) : fitS d = 0 := by unfold fitS; rw [if_neg (by omega), chk_zero h]
theorem find_is {d : Dk} (h : fitS d = 0) (h0 : (bestU d 2).gen ≠ 0) : findS d = (bestU d 2, 0) := by unfold findS; rw [if_neg (by rw [h]; simp), if_neg h0]
/-- What is written is found. -/
theorem found_ok {d : Dk} {r : Rt} (h : (rtwS d r).2 = 0) (hs : r.sum < 4294967296) : ∃ W now, rtwS d r = (W, 0) ∧ Good W ∧ W.wet.length = 0 ∧ W.dry.length = d.dry.length ∧ findS W = (now, 0) ∧
    ((findS d).2 ≠ 0 → now = r) ∧ ((findS d).1.gen ≤ r.gen → now = r) ∧ (r.gen < (findS d).1.gen → (findS d).1.gen % 2 ≠ r.gen % 2 → now = (findS d).1) ∧
    ∀ (t : Int) (b : Bs), (writeS W t b).2 = 0 → 2 ≤ t → ∃ X, writeS W t b = (X, 0) ∧ X.dry.length = W.dry.length ∧ X.wet.length ≤ W.wet.length + 1 ∧ findS X = (now, 0) := by
  obtain ⟨hr, ho, hf, hi, h0, h1, hw⟩ := rtw_ok h
  obtain ⟨hgd, h64⟩ := fit_good hf
  have hl32 : (octs r.nums).length = 32 := octs_len _
  have a1 := dec_lo hi.1.left0
  have a2 := dec_hi hi.1.left1
  have hg : Good (d.put ((r.gen % 2 : Nat) : Int) (octs r.nums) (dec d.left)) := Good.put hi hl32 a1 a2
  have b1 := dec_lo a1
  have b2 := dec_hi a2
  obtain ⟨P, hP⟩ : ∃ P, P = d.put ((r.gen % 2 : Nat) : Int) (octs r.nums) (dec d.left) := ⟨_, rfl⟩
  have hPd : P.dry = d.dry := by rw [hP]; rfl
  rw [← hP] at hw hg
  have hWg : Good (P.settled allMask (dec (dec d.left))) := hg.settled allMask b1 b2
  have hWl : (P.settled allMask (dec (dec d.left))).dry.length = d.dry.length := by rw [settled_len hg, hPd]
  have hpn : ∀ k : Int, 0 ≤ k → k < 2 → Is P k := fun k k0 k1 => ⟨hg, k0, by have := hg.whole; rw [hPd] at this; omega⟩
  have rd : ∀ k : Int, 0 ≤ k → k < 2 → readB (P.settled allMask (dec (dec d.left))) k = readB P k := fun k k0 k1 => whole_read (hpn k k0 k1) allMask _ (fun i _ => rfl) b1 b2
  have rs : readB (P.settled allMask (dec (dec d.left))) ((r.gen % 2 : Nat) : Int) = octs r.nums := by rw [rd _ (by omega) (by omega), hP, readB_put_same]
  have rn : ∀ k : Int, 0 ≤ k → k < 2 → k ≠ ((r.gen % 2 : Nat) : Int) → readB (P.settled allMask (dec (dec d.left))) k = readB d k := fun k k0 k1 kn => by rw [rd k k0 k1, hP, readB_put_other d _ _ kn]
  obtain ⟨W, hW⟩ : ∃ W, W = P.settled allMask (dec (dec d.left)) := ⟨_, rfl⟩
  have hwet : W.wet.length = 0 := by rw [hW]; rfl
  rw [← hW] at hw hWg hWl rs rn
  clear hW rd
  obtain ⟨c1, c2, c3⟩ := best_put (d := d) (of_octs hr hs) hr.1 rs rn
  have hWf : fitS W = 0 := fit_of hWg (by omega)
  have hd1 : (findS d).1 = bestU d 2 := by
    unfold findS
    rw [if_neg (by rw [hf]; simp)]
    split <;> rfl
  have hd2 : (findS d).2 ≠ 0 → (bestU d 2).gen = 0 := by
    intro k
    by_cases k0 : (bestU d 2).gen = 0
    · exact k0
    · rw [find_is hf k0] at k; simp at k
  refine ⟨W, bestU W 2, hw, hWg, hwet, hWl, find_is hWf c1, fun k => c2 (by rw [hd2 k]; omega), fun k => c2 (by rw [← hd1]; exact k), fun k1 k2 => ?_, fun t b k1 k2 => ?_⟩
  · rw [hd1] at k1 k2 ⊢; exact c3 k1 k2
  · have hok : Is W t ∧ b.length = 32 := by
      by_cases hok : Is W t ∧ b.length = 32
      · exact hok
      · rw [writeS_bad hok] at k1; simp at k1
    have hl0 : W.left ≠ 0 := by
      intro hl0
      rw [write_dead hok.1 hok.2 hl0] at k1; simp at k1
    have hx := write_lives hok.1 hok.2 hl0
    have hXg : Good (W.put t b (dec W.left)) := Good.put hok.1 hok.2 (dec_lo hok.1.1.left0) (dec_hi hok.1.1.left1)
    have hbe : bestU (W.put t b (dec W.left)) 2 = bestU W 2 := best_of (readB_put_other W b _ (by omega)) (readB_put_other W b _ (by omega))
    refine ⟨_, hx, rfl, ?_, ?_⟩
    · have := (writeS_len W t b).2; rw [hx] at this; exact this
    · rw [find_is (fit_of hXg (show 64 < (W.put t b (dec W.left)).dry.length from (by show 64 < W.dry.length; omega))) (by rw [hbe]; exact c1), hbe]
end Go.Proofs.YthhemdjggdgaaaaDoor
