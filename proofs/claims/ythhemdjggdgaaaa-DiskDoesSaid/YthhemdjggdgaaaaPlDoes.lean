/- What DiskDoes' walk comes to: plain. -/
import Derived.Test.YthhemdjggdgaaaaPlDeeds
import Derived.Test.YthhemdjggdgaaaaEql
import Derived.Test.YthhemdjggdgaaaaWCr
import Derived.Test.YthhemdjggdgaaaaRnew
namespace Go.Proofs.Ythhemdjggdgaaaa
open Go.RowKit
set_option linter.unusedVariables false

theorem write_size {d : Dk} (hf : few d = true) (s : Int) (bs : Bs) : (writeS d s bs).1.wet.length ≤ 1000 := by
  by_cases h : Is d s ∧ bs.length = 32
  · by_cases h0 : d.left = 0
    · rw [write_dead h.1 h.2 h0]; exact Nat.zero_le _
    · obtain ⟨P, p1, _, _, p4, _⟩ := last_ok hf h.1 h.2 h0
      rw [p1]; show P.wet.length ≤ 1000; omega
  · rw [writeS_bad h]; exact Nat.zero_le _
theorem sync_size (d : Dk) : (syncS d).1.wet.length = 0 := by
  by_cases h : Good d
  · by_cases h0 : d.left = 0
    · rw [sync_dead h h0]; rfl
    · rw [sync_lives h h0]; rfl
  · rw [syncS_bad h]; rfl
theorem sync_dsize {d : Dk} (hf : few d = true) : (syncS d).1.dry.length ≤ 300000 := by
  by_cases h : Good d
  · by_cases h0 : d.left = 0
    · rw [sync_dead h h0]; exact Nat.zero_le _
    · rw [sync_lives h h0]
      show (d.settled allMask (dec d.left)).dry.length ≤ 300000
      rw [settled_len h]; have := (few_n hf h).1; omega
  · rw [syncS_bad h]; exact Nat.zero_le _
theorem read_size {d : Dk} (hf : few d = true) (s : Int) : (readS d s).1.length ≤ 300000 := by
  by_cases h : Is d s
  · rw [readS_ok h]; show (readB d s).length ≤ 300000; rw [readB_len h]; omega
  · rw [readS_bad h]; exact Nat.zero_le _
theorem new_size (k : Int) : (newS k).1.wet.length = 0 := by
  unfold newS; split <;> rfl
theorem lim_size {d : Dk} (hf : few d = true) (k : Int) : (limS d k).1.wet.length ≤ 1000 ∧ ∀ i, i < (limS d k).1.wet.length → (qn (limS d k).1.wet i).2.length = 32 := by
  by_cases h : Good d ∧ -1 ≤ k ∧ k ≤ 1073741824
  · rw [limS_ok h.1 h.2.1 h.2.2]
    exact ⟨by have := (few_bounds hf).2.1; show d.wet.length ≤ 1000; omega, h.1.len⟩
  · rw [limS_bad h]
    exact ⟨Nat.zero_le _, fun i hi => by simp [Dk.zero] at hi⟩
/-- An octet stored anywhere leaves octets. -/
theorem OB.setany {base n c g i : Nat} {w : World} {A : Option Addr} {bs : Bs} (h : OB base w A n c bs) (v : UInt8) : ∃ bs' : Bs, bs'.length = bs.length ∧ OB base (w.setCell ⟨g, i, none⟩ (.int .u8 v.toNat)) A n c bs' := by
  by_cases e : (Value.slice A n c).ownBlock = some g
  · obtain ⟨ad, rfl, he⟩ : ∃ ad, A = some ad ∧ ad.block = g := by
      cases A with
      | none => simp [Value.ownBlock] at e
      | some ad => exact ⟨ad, rfl, by simpa [Value.ownBlock] using e⟩
    rcases h.2 with ⟨h', _⟩ | ⟨g', cap', cur, h', _⟩
    · cases h'
    · injection h' with h1 h2 h3
      injection h1 with h1
      subst h1
      simp only at he
      subst he
      exact ⟨bs.set i v, by simp, OB.put1 h i v⟩
  · exact ⟨bs, rfl, ownsRow_setCell_other h (fun q => e q) _⟩
/-- Octets lie in no disk's box, and in no pages. -/
theorem OB.ne_box {base n c g b : Nat} {w : World} {bs : Bs} {v0 v1 v2 : Value} (h : OB base w (some ⟨g, 0, none⟩) n c bs) (k : Bx w b v0 v1 v2) : b ≠ g := by
  intro e
  subst e
  obtain ⟨cur, h1, _⟩ := row_heap h
  unfold Bx at k
  rw [k] at h1
  injection h1 with h1
  injection h1 with _ h1
  exact absurd h1 (by decide)
theorem Own.set_oct {base bb n c N C g i : Nat} {w : World} {B : Option Addr} {bs : Bs} {ps : List Pg} {v : Value} (k : Own bb w B N C ps) (h : OB base w (some ⟨g, 0, none⟩) n c bs) : Own bb (w.setCell ⟨g, i, none⟩ v) B N C ps := by
  refine ownsRow_setCell_other k (fun q => ?_) v
  cases B with
  | none => simp [Value.ownBlock] at q
  | some ad =>
    rcases k.2 with ⟨h', _⟩ | ⟨g', cap', cur, h', _⟩
    · cases h'
    · injection h' with h1 h2 h3
      injection h1 with h1
      subst h1
      have e : g' = g := by simpa [Value.ownBlock] using q
      subst e
      exact row_ne h k (by decide) rfl
/-- What is stored into: octets of the law's own. -/
def DSt (S0 : Nat) (W0 w : World) (Ap : Option Addr) (np cp : Nat) (Ar : Option Addr) (nr cr : Nat) (Bu : Option Addr) (mu eu : Nat) (ps : List Pg) (br bu : Nat) (r0 r1 r2 u0 u1 u2 : Value) : Prop :=
  (∃ bs, OB S0 w Ap np cp bs) ∧ (∃ bs, OB S0 w Ar nr cr bs) ∧ Own S0 w Bu mu eu ps ∧ (∀ i, i < mu → ∃ b : Bs, b.length = 32 ∧ OB S0 w (nth ps i).2.1 (nth ps i).2.2.1 (nth ps i).2.2.2 b) ∧ Bx w br r0 r1 r2 ∧ Bx w bu u0 u1 u2 ∧ Below S0 W0 w
theorem DSt.store {S0 : Nat} {W0 w : World} {Ap : Option Addr} {np cp : Nat} {Ar : Option Addr} {nr cr : Nat} {Bu : Option Addr} {mu eu : Nat} {ps : List Pg} {br bu : Nat} {r0 r1 r2 u0 u1 u2 : Value} (h : DSt S0 W0 w Ap np cp Ar nr cr Bu mu eu ps br bu r0 r1 r2 u0 u1 u2)
    {g n c : Nat} {bs : Bs} (k : OB S0 w (some ⟨g, 0, none⟩) n c bs) (i : Nat) (v : UInt8) : DSt S0 W0 (w.setCell ⟨g, i, none⟩ (.int .u8 v.toNat)) Ap np cp Ar nr cr Bu mu eu ps br bu r0 r1 r2 u0 u1 u2 := by
  obtain ⟨⟨b1, h1⟩, ⟨b2, h2⟩, h3, h4, h5, h6, h7⟩ := h
  obtain ⟨c1, _, k1⟩ := h1.setany (g := g) (i := i) v
  obtain ⟨c2, _, k2⟩ := h2.setany (g := g) (i := i) v
  refine ⟨⟨c1, k1⟩, ⟨c2, k2⟩, h3.set_oct k, fun j hj => ?_, h5.other (k.ne_box h5), h6.other (k.ne_box h6), h7.setCell (show S0 ≤ g from (World.ownsRow.lt k g rfl).1) _⟩
  obtain ⟨b, hb, ho⟩ := h4 j hj
  obtain ⟨b', hb', ho'⟩ := ho.setany (g := g) (i := i) v
  exact ⟨b', by rw [hb', hb], ho'⟩
end Go.Proofs.Ythhemdjggdgaaaa
