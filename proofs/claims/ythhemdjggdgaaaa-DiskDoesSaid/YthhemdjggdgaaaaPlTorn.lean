/- What DiskTorn's walk comes to: plain. -/
import Derived.Test.YthhemdjggdgaaaaPlLast
namespace Go.Proofs.Ythhemdjggdgaaaa
open Go.RowKit
set_option linter.unusedVariables false

def grp (k : Nat) (b : Bs) : Bs := (b.drop (4 * k)).take 4
theorem grp_len {k : Nat} {b : Bs} (h : b.length = 32) (hk : k ≤ 7) : (grp k b).length = 4 := by unfold grp; rw [List.length_take, List.length_drop]; omega
theorem grp_ext {k : Nat} {a b : Bs} (ha : a.length = 32) (hb : b.length = 32) (hk : k ≤ 7) (h : ∀ r, r < 32 → r / 4 = k → at0 a r = at0 b r) : grp k a = grp k b := by
  apply at0_ext (by rw [grp_len ha hk, grp_len hb hk])
  rw [grp_len ha hk]
  intro i hi
  unfold grp
  rw [at0_take _ _ _ hi, at0_take _ _ _ hi, at0_drop, at0_drop]
  exact h _ (by omega) (by omega)
/-- What is dry alone. -/
def Dk.dried (d : Dk) : Dk := ⟨d.dry, [], -1⟩
theorem Good.dried {d : Dk} (h : Good d) : Good d.dried := ⟨h.one, h.max, h.whole, by show (-1 : Int) ≤ -1; omega, by show (-1 : Int) ≤ 1073741824; omega, fun i hi => by simp [Dk.dried] at hi, fun i hi => by simp [Dk.dried] at hi, fun i hi => by simp [Dk.dried] at hi, fun i hi => by simp [Dk.dried] at hi⟩
theorem DR.dried {w : World} {A : Option Addr} {n : Nat} {B : Option Addr} {m : Nat} {d : Dk} (h : DR w A n B m d) : DR w A n none 0 d.dried := ⟨h.1, [], PR.nil w, rfl, fun i hi => by simp at hi⟩
theorem mask_all {m i : Nat} (h : i < m) : maskAt (List.replicate m 255) i = 255 := by
  unfold maskAt
  rw [List.getD_eq_getElem?_getD, List.getElem?_replicate, if_pos h]; rfl
theorem torn_ok {d : Dk} {s : Int} (hf : few d = true) (h : Is d s) (ms : Bs) (k : Nat) (hk : k ≤ 7) :
    ∃ C got old wet, crashS d ms = (C, 0) ∧ C.dry.length ≤ 4000 ∧ C.wet.length = 0 ∧ readS C s = (got, 0) ∧ got.length = 32 ∧ readS d s = (wet, 0) ∧ wet.length = 32 ∧ readS d.dried s = (old, 0) ∧ old.length = 32 ∧
      (grp k got = grp k old ∨ grp k got = grp k wet) ∧ ∃ Wk, crashS d (List.replicate d.wet.length 255) = (Wk, 0) ∧ Wk.dry.length ≤ 4000 ∧ Wk.wet.length = 0 ∧ readS Wk s = (wet, 0) := by
  have h1 : (-1 : Int) ≤ -1 := by omega
  have h2 : (-1 : Int) ≤ 1073741824 := by omega
  obtain ⟨hn1, hn2⟩ := few_n hf h.1
  have hd : Is d.dried s := ⟨h.1.dried, h.2.1, h.2.2⟩
  obtain ⟨sn, hs, hsn⟩ := h.nat
  have hold : readB d.dried s = sect d.dry s.toNat := readB_none (fun i hi => by simp [Dk.dried] at hi)
  have hol : (readB d.dried s).length = 32 := readB_len hd
  refine ⟨_, _, _, _, crashS_ok h.1 ms, by rw [settled_len h.1]; exact hn1, rfl, readS_ok (h.settled (maskAt ms) h1 h2), readB_len (h.settled (maskAt ms) h1 h2), readS_ok h, readB_len h, readS_ok hd, hol, ?_, _, crashS_ok h.1 _, by rw [settled_len h.1]; exact hn1, rfl, ?_⟩
  · rcases torn_at0 h (maskAt ms) (-1) k with e | e
    · refine .inl (grp_ext (readB_len (h.settled (maskAt ms) h1 h2)) hol hk (fun r hr hg => ?_))
      rw [hold]; exact e r hr hg
    · exact .inr (grp_ext (readB_len (h.settled (maskAt ms) h1 h2)) (readB_len h) hk e)
  · rw [readS_ok (h.settled _ h1 h2), whole_read h _ (-1) (fun i hi => mask_all hi) h1 h2]
theorem torn_bad {d : Dk} {s : Int} (hf : few d = true) (hg : Good d) (h : ¬ Is d s) (ms : Bs) :
    ∃ C, crashS d ms = (C, 0) ∧ C.dry.length ≤ 4000 ∧ C.wet.length = 0 ∧ readS C s = ([], 1) ∧ readS d s = ([], 1) ∧ readS d.dried s = ([], 1) := by
  obtain ⟨hn1, hn2⟩ := few_n hf hg
  have hl := settled_len hg (maskAt ms) (-1)
  have hn : (d.settled (maskAt ms) (-1)).n = d.n := by unfold Dk.n; rw [hl]
  exact ⟨_, crashS_ok hg ms, by rw [hl]; exact hn1, rfl, readS_bad (fun k => h ⟨hg, k.2.1, by rw [← hn]; exact k.2.2⟩), readS_bad h, readS_bad (fun k => h ⟨hg, k.2.1, k.2.2⟩)⟩
theorem one_oct (w : World) (v : UInt8) : BR (w.alloc (.cells #[.int .u8 v.toNat] 5)) (some ⟨w.heap.size, 0, none⟩) 1 [v] := by
  refine ⟨rfl, fun _ => ⟨_, rfl, by simp, fun j u h => ?_⟩⟩
  cases j with
  | zero =>
    have e : u = .int .u8 v.toNat := by
      have : (byt [v])[0]? = some (Value.int .u8 v.toNat) := rfl
      rw [this] at h
      exact (Option.some.inj h).symm
    subst e
    exact box_cell w #[.int .u8 v.toNat] 5 0 (.int .u8 v.toNat) rfl
  | succ j => simp [byt] at h
theorem rep_snoc (j : Nat) : List.replicate j (255 : UInt8) ++ [255] = List.replicate (j + 1) 255 := by rw [List.replicate_succ']
theorem read_is (w : World) (A : Option Addr) (n c : Nat) (B : Option Addr) (m e' : Nat) (d : Dk) (l k : Int) (hl : d.left = l) (hr : DR w A n B m d) (hn : n ≤ 300000) (hm : m ≤ 1000) (hc : n ≤ c) :
    Calls Try.prog 16 #[.agg #[.slice A n c, .slice B m e', .int .i64 l], .int .i64 k] w (RPost w (readS d k).1 (readS d k).2) := by
  subst hl; exact read_any w A n c B m e' d k hr hn hm hc
/-- A group of four octets as a text. -/
theorem part_br {base g c : Nat} {w : World} {bs : Bs} (h : OB base w (some ⟨g, 0, none⟩) 32 c bs) (k : Nat) (hk : k ≤ 7) : BR w (some ⟨g, 4 * k, none⟩) 4 (grp k bs) :=
  BR.part h.reads (4 * k) 4 (by omega) _ (fun _ ad e => by injection e with e; subst e; simp [Addr.add])
theorem str_ne {a b : Bs} (h : a ≠ b) : (⟨a.toArray⟩ : ByteArray) ≠ ⟨b.toArray⟩ := fun e => h (by injection e with e; exact List.toArray_inj e)
end Go.Proofs.Ythhemdjggdgaaaa
