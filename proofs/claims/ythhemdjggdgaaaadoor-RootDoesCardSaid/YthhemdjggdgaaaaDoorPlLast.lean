/- What DiskLast's walk comes to: plain. -/
import Derived.Test.YthhemdjggdgaaaaDoorLawsW
namespace Go.Proofs.YthhemdjggdgaaaaDoor
set_option linter.unusedVariables false

theorem few_n {d : Dk} (hf : few d = true) (h : Good d) : d.dry.length ≤ 4000 ∧ d.n ≤ 125 := by
  obtain ⟨_, _, h3, _⟩ := few_bounds hf
  have h1 := h.whole
  have h2 := h.max
  omega
theorem dec_lo {l : Int} (h1 : -1 ≤ l) : -1 ≤ dec l := by unfold dec; split <;> omega
theorem dec_hi {l : Int} (h1 : l ≤ 1073741824) : dec l ≤ 1073741824 := by unfold dec; split <;> omega
theorem settled_len {d : Dk} (h : Good d) (mask : Nat → UInt8) (l : Int) : (d.settled mask l).dry.length = d.dry.length := setUpto_len h mask d.wet.length (Nat.le_refl _)
/-- A crash of a disk that has nothing wet leaves it. -/
theorem crash_dry {d : Dk} (h : Good d) (hw : d.wet = []) (ms : Bs) : crashS d ms = (⟨d.dry, [], -1⟩, 0) := by
  rw [crashS_ok h]
  unfold Dk.settled
  rw [hw]
  rfl
theorem sync_dead {d : Dk} (h : Good d) (h0 : d.left = 0) : syncS d = (Dk.zero, 11) := by rw [syncS_ok h, sync0_dead h0]
theorem sync_lives {d : Dk} (h : Good d) (h0 : d.left ≠ 0) : syncS d = (d.settled allMask (dec d.left), 0) := by rw [syncS_ok h, sync0_ok rfl h0 rfl]
theorem write_lives {d : Dk} {s : Int} {bs : Bs} (h : Is d s) (hb : bs.length = 32) (h0 : d.left ≠ 0) : writeS d s bs = (d.put s bs (dec d.left), 0) := by rw [writeS_ok h hb, write0_ok s bs rfl h0 rfl]
theorem write_dead {d : Dk} {s : Int} {bs : Bs} (h : Is d s) (hb : bs.length = 32) (h0 : d.left = 0) : writeS d s bs = (Dk.zero, 11) := by rw [writeS_ok h hb, write0_dead s bs h0]

theorem last_ok {d : Dk} {s : Int} {bs : Bs} (hf : few d = true) (h : Is d s) (hb : bs.length = 32) (h0 : d.left ≠ 0) :
    ∃ P, writeS d s bs = (P, 0) ∧ readS P s = (bs, 0) ∧ P.dry.length ≤ 4000 ∧ P.wet.length ≤ 125 ∧ (∀ o, ¬ Is d o → readS P o = ([], 1)) ∧ (∀ o, Is d o → ∃ y, readS P o = (y, 0) ∧ (o ≠ s → readS d o = (y, 0))) ∧
      (P.left = 0 → syncS P = (Dk.zero, 11)) ∧ (P.left ≠ 0 → ∃ S, syncS P = (S, 0) ∧ S.dry.length ≤ 4000 ∧ S.wet.length = 0 ∧ ∀ ms, ∃ C, crashS S ms = (C, 0) ∧ C.left = -1 ∧ C.dry.length ≤ 4000 ∧ C.wet.length = 0 ∧ readS C s = (bs, 0)) := by
  have hl1 := dec_lo h.1.left0
  have hl2 := dec_hi h.1.left1
  obtain ⟨hn1, hn2⟩ := few_n hf h.1
  have hg : Good (d.put s bs (dec d.left)) := Good.put h hb hl1 hl2
  have his : Is (d.put s bs (dec d.left)) s := Is.put h hb hl1 hl2 h.2.1 h.2.2
  have hw := hg.wet_n
  refine ⟨_, write_lives h hb h0, by rw [readS_ok his, readB_put_same], hn1, by have : (d.put s bs (dec d.left)).n = d.n := rfl; omega, fun o ho => ?_, fun o ho => ⟨readB (d.put s bs (dec d.left)) o, ?_, fun hne => ?_⟩, fun hd => sync_dead hg hd, fun hd => ⟨_, sync_lives hg hd, ?_, rfl, fun ms => ?_⟩⟩
  · exact readS_bad (fun k => ho ⟨h.1, k.2.1, k.2.2⟩)
  · exact readS_ok ⟨hg, ho.2.1, ho.2.2⟩
  · rw [readS_ok ho, readB_put_other d bs _ hne]
  · rw [settled_len hg]; exact hn1
  · have g1 := dec_lo hg.left0
    have g2 := dec_hi hg.left1
    have hgs := hg.settled allMask g1 g2
    have his2 := his.settled allMask g1 g2
    refine ⟨_, crash_dry hgs rfl ms, rfl, by show List.length (Dk.settled _ _ _).dry ≤ 4000; rw [settled_len hg]; exact hn1, rfl, ?_⟩
    have hi3 : Is ⟨((d.put s bs (dec d.left)).settled allMask (dec (d.put s bs (dec d.left)).left)).dry, [], -1⟩ s := his.settled allMask (by omega) (by omega : (-1 : Int) ≤ 1073741824)
    rw [readS_ok hi3]
    have e := whole_read his allMask (-1) (fun i _ => rfl) (by omega) (by omega)
    rw [readB_put_same] at e
    exact Prod.ext e rfl
end Go.Proofs.YthhemdjggdgaaaaDoor
