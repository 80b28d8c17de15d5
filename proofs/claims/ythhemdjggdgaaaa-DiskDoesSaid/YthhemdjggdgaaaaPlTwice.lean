/- What DiskTwice's walk comes to: plain. -/
import Derived.Test.YthhemdjggdgaaaaPlTorn
namespace Go.Proofs.Ythhemdjggdgaaaa
open Go.RowKit
set_option linter.unusedVariables false

theorem dec_m1 : dec (-1) = -1 := by decide
theorem twice_crash {d : Dk} (hf : few d = true) (h : Good d) (ms more : Bs) : ∃ C, crashS d ms = (C, 0) ∧ C.dry.length ≤ 4000 ∧ C.wet.length = 0 ∧ crashS C more = (C, 0) := by
  obtain ⟨hn1, hn2⟩ := few_n hf h
  have hg : Good (d.settled (maskAt ms) (-1)) := h.settled _ (by omega) (by omega)
  exact ⟨_, crashS_ok h ms, by rw [settled_len h]; exact hn1, rfl, crash_dry hg rfl more⟩
theorem put_size {d : Dk} {s : Int} {bs : Bs} (hf : few d = true) (h : Is d s) (hb : bs.length = 32) (hl : d.left = -1) : (d.put s bs (-1)).dry.length ≤ 4000 ∧ (d.put s bs (-1)).wet.length ≤ 125 := by
  obtain ⟨hn1, hn2⟩ := few_n hf h.1
  have hg : Good (d.put s bs (-1)) := Good.put h hb (by omega) (by omega)
  have hw := hg.wet_n
  exact ⟨hn1, by have : (d.put s bs (-1)).n = d.n := rfl; omega⟩
theorem write_m1 {d : Dk} {s : Int} {bs : Bs} (h : Is d s) (hb : bs.length = 32) (hl : d.left = -1) : writeS d s bs = (d.put s bs (-1), 0) := by
  rw [write_lives h hb (by omega), hl, dec_m1]
theorem twice_two {d : Dk} {s t : Int} {a b : Bs} (hf : few d = true) (hs : Is d s) (ht : Is d t) (ha : a.length = 32) (hb : b.length = 32) (hl : d.left = -1) :
    ∃ X Y Z, writeS d s a = (X, 0) ∧ writeS d t b = (Y, 0) ∧ writeS X t b = (Z, 0) ∧ (s = t → Z = Y) ∧ (s ≠ t → writeS Y s a = (Z, 0)) ∧ (X.dry.length ≤ 4000 ∧ X.wet.length ≤ 125) ∧ (Y.dry.length ≤ 4000 ∧ Y.wet.length ≤ 125) ∧ (Z.dry.length ≤ 4000 ∧ Z.wet.length ≤ 125) := by
  have is1 : Is (d.put s a (-1)) t := Is.put hs ha (by omega) (by omega) ht.2.1 ht.2.2
  have is2 : Is (d.put t b (-1)) s := Is.put ht hb (by omega) (by omega) hs.2.1 hs.2.2
  have hg : Good ((d.put s a (-1)).put t b (-1)) := Good.put is1 hb (by omega) (by omega)
  have hw := hg.wet_n
  obtain ⟨hn1, hn2⟩ := few_n hf hs.1
  refine ⟨_, _, _, write_m1 hs ha hl, write_m1 ht hb hl, write_m1 is1 hb rfl, fun e => ?_, fun e => ?_, put_size hf hs ha hl, put_size hf ht hb hl, hn1, by have : ((d.put s a (-1)).put t b (-1)).n = d.n := rfl; omega⟩
  · subst e
    show Dk.mk _ (putW (putW d.wet s a) s b) _ = Dk.mk _ (putW d.wet s b) _
    rw [putW_twice]; rfl
  · rw [write_m1 is2 ha rfl]
    have : (d.put t b (-1)).put s a (-1) = (d.put s a (-1)).put t b (-1) := by
      show Dk.mk _ (putW (putW d.wet t b) s a) _ = Dk.mk _ (putW (putW d.wet s a) t b) _
      rw [putW_swap d.wet a b e]; rfl
    rw [this]
end Go.Proofs.Ythhemdjggdgaaaa
