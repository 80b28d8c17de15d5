/- A disk, and octets, that came in, opened. -/
import Derived.Test.YthhemdjggdgaaaaDoorDk
import Derived.Deep.Slices
import Derived.Deep.Fields
import Derived.ChangeSame
import Derived.OpenShut
import Derived.Lib.SmallJoins
namespace Go.Proofs.YthhemdjggdgaaaaDoor
open Go.RowKit Go.ChangeShapes Go.WideShapes Go.Deep Go.Joins

section
variable {H : Type} {enc : TypeId × Value → H} {P : Program} {w : World} {base : Nat} {spare : Nat → Bool} {held : Bool}
theorem open_slice_fields {t e : TypeId} {fs : Array Field} {fuel : Nat} {cs : List Value} {x : DataW H × List MemPlace} (ht : P.underlying t = some (.slice e)) (he : P.underlying e = some (.struct fs))
    (hone : oneCellFields P fs = true) (hC : P.cellsOf e = fs.size) (h : DataW.trod enc P w base spare held fuel t cs = some x) :
    (cs = [.slice none 0 0] ∧ x = (.nil, [])) ∨
    ∃ (a : Addr) (len cap m : Nat) (D : Nat → DataW H) (Pl : Nat → List MemPlace), cs = [.slice (some a) len cap] ∧ base ≤ a.block ∧ len ≤ cap ∧ cap ≤ maxLen ∧ m = (if spare a.block then cap else len) ∧
      x = (.slice ((List.range len).map D) ((List.range (m - len)).map fun j => D (len + j)), MemPlace.row a (m * fs.size) ++ (List.range m).flatMap Pl) ∧
      ∀ i, i < m → ∃ (ys : List (DataW H × List MemPlace)) (n : Nat), D i = .agg (ys.map (·.1)) ∧ Pl i = ys.flatMap (·.2) ∧ ys.length = fs.size ∧
        ∀ (j : Nat) (f : Field), fs[j]? = some f → ∃ (v : Value) (y : DataW H × List MemPlace), w.cell? (a.add (i * fs.size + j)) = some v ∧ ys[j]? = some y ∧ DataW.trod enc P w base spare held n f.type [v] = some y := by
  rcases open_slice ht h with h0 | ⟨a, len, cap, m, n, D, Pl, hcs, hb, hl, hm, hmm, hx, hi⟩
  · exact .inl h0
  · refine .inr ⟨a, len, cap, m, D, Pl, hcs, hb, hl, hm, hmm, by rw [hC] at hx; exact hx, fun i him => ?_⟩
    obtain ⟨cs', hc, ht'⟩ := hi i him
    rw [hC] at hc
    obtain ⟨ys, n', hn', hy, hlen, hyl, hf⟩ := DataW.trod_struct he ht'
    obtain ⟨_, hcl, hat⟩ := World.cells?_some hc
    simp only [Prod.mk.injEq] at hy
    refine ⟨ys, n', hy.1, hy.2, hyl, fun j f hj => ?_⟩
    obtain ⟨ho, hk⟩ := hone_of hone j f hj
    have hjl : j < fs.size := (Array.getElem?_eq_some_iff.1 hj).1
    have hcell := hat j hjl
    have hv : cs'[j]? = some (cs'[j]'(by omega)) := List.getElem?_eq_getElem (by omega)
    have h1 := hf j f hj
    rw [ho, hk] at h1
    have hone' : (cs'.drop j).take 1 = [cs'[j]'(by omega)] := by
      rw [List.drop_eq_getElem_cons (by omega)]
      rfl
    rw [hone'] at h1
    have hys : ys[j]? = some (ys[j]'(by omega)) := List.getElem?_eq_getElem (by omega)
    refine ⟨_, _, ?_, hys, h1.trans hys⟩
    rw [← Go.Deep.add_add, hcell, hv]
end

section
variable {H : Type} {enc : TypeId × Value → H} {w : World} {base : Nat} {spare : Nat → Bool} {held : Bool}
theorem trod_u8 {fuel : Nat} {v : Value} {x : DataW H × List MemPlace} (h : DataW.trod enc Tryd.prog w base spare held fuel 5 [v] = some x) : ∃ b : UInt8, v = .int .u8 b.toNat := by
  obtain ⟨n, e, _, hw⟩ := DataW.trod_int Tryd.underlying5 h
  have b := bounds_u8 hw
  simp only [List.cons.injEq, and_true] at e
  obtain ⟨k, rfl⟩ := Int.eq_ofNat_of_zero_le b.1
  refine ⟨UInt8.ofNat k, ?_⟩
  rw [e, UInt8.toNat_ofNat_of_lt' (by simp [UInt8.size]; omega)]
theorem raw_oct {fuel : Nat} {v : Value} {x : DataW H × List MemPlace} (h : DataW.trod enc Tryd.prog w base spare held fuel 28 [v] = some x) :
    ∃ (A : Option Addr) (n c : Nat) (bs : Bs), v = .slice A n c ∧ BR w A n bs ∧ n ≤ maxLen ∧ n ≤ c := by
  rcases open_slice1 Tryd.underlying28 (by kernel_rfl) h with ⟨hcs, _⟩ | ⟨a, len, cap, m, k, V, D, Pl, hcs, _, hl, hm, hmm, _, hc⟩
  · simp only [List.cons.injEq, and_true] at hcs
    exact ⟨none, 0, 0, [], hcs, BR.nil w, by simp [maxLen], by omega⟩
  · simp only [List.cons.injEq, and_true] at hcs
    have hmn : len ≤ m := by rw [hmm]; split <;> omega
    obtain ⟨B, hB⟩ := choose_lt (α := UInt8) (n := len) (p := fun i b => V i = .int .u8 b.toNat) (fun i hi => trod_u8 (hc i (by omega)).2)
    refine ⟨some a, len, cap, (List.range len).map B, hcs, ⟨by rw [byt_length]; simp, fun h0 => ⟨a, rfl, ?_, fun j u hu => ?_⟩⟩, by omega, by omega⟩
    · exact World.block_lt_of_cell? w a (by have := (hc 0 (by omega)).1; simpa [Addr.add] using this)
    · have hj : j < len := by
        rcases Nat.lt_or_ge j len with h1 | h1
        · exact h1
        · rw [List.getElem?_eq_none (by rw [byt_length]; simp; omega)] at hu; cases hu
      unfold byt at hu
      rw [List.map_map, List.getElem?_map, List.getElem?_range hj] at hu
      simp only [Option.map_some, Function.comp] at hu
      rw [(hc j (by omega)).1, hB j hj]; exact hu
theorem raw_pgs {fuel : Nat} {v : Value} {x : DataW H × List MemPlace} (h : DataW.trod enc Tryd.prog w base spare held fuel 29 [v] = some x) :
    ∃ (A : Option Addr) (n c : Nat) (ps : List Pg) (qs : Wet), v = .slice A n c ∧ PR w A n ps ∧ PC w ps qs ∧ n ≤ maxLen := by
  rcases open_slice_fields Tryd.underlying29 Tryd.underlying56 (by kernel_rfl) (by kernel_rfl) h with ⟨hcs, _⟩ | ⟨a, len, cap, m, D, Pl, hcs, _, hl, hm, hmm, _, hc⟩
  · simp only [List.cons.injEq, and_true] at hcs
    exact ⟨none, 0, 0, [], [], hcs, PR.nil w, ⟨rfl, fun i hi => by simp at hi⟩, by simp [maxLen]⟩
  · simp only [List.cons.injEq, and_true] at hcs
    have hmn : len ≤ m := by rw [hmm]; split <;> omega
    obtain ⟨G, hG⟩ := choose_lt (α := Pg × Bs) (n := len) (p := fun i p => w.cell? (a.add (i * 2)) = some (.int .i64 p.1.1) ∧ w.cell? (a.add (i * 2 + 1)) = some (.slice p.1.2.1 p.1.2.2.1 p.1.2.2.2) ∧ BR w p.1.2.1 p.1.2.2.1 p.2) (fun i hi => by
      obtain ⟨ys, k, _, _, _, hj⟩ := hc i (by omega)
      obtain ⟨v0, y0, hv0, _, ht0⟩ := hj 0 _ rfl
      obtain ⟨v1, y1, hv1, _, ht1⟩ := hj 1 _ rfl
      obtain ⟨n0, e0, _, w0⟩ := DataW.trod_int Tryd.underlying3 ht0
      obtain ⟨A1, n1, c1, b1, rfl, hr1, _, _⟩ := raw_oct ht1
      simp only [List.cons.injEq, and_true] at e0
      subst e0
      exact ⟨((n0, A1, n1, c1), b1), hv0, hv1, hr1⟩)
    have hx : ∀ i, i < len → nth ((List.range len).map fun i => (G i).1) i = (G i).1 := fun i hi => by rw [nth_lt (by simpa using hi)]; simp
    have hy : ∀ i, i < len → qn ((List.range len).map fun i => ((G i).1.1, (G i).2)) i = ((G i).1.1, (G i).2) := fun i hi => by rw [qn_lt (by simpa using hi)]; simp
    refine ⟨some a, len, cap, (List.range len).map fun i => (G i).1, (List.range len).map fun i => ((G i).1.1, (G i).2), hcs, ⟨?_, fun h0 => ⟨a, rfl, ?_, fun j u hu => ?_⟩⟩, ⟨by simp, fun i hi => ?_⟩, by omega⟩
    · rw [pcs_length]; simp
    · exact World.block_lt_of_cell? w a (by have := (hG 0 h0).1; simpa [Addr.add] using this)
    · have hlen : (pcs ((List.range len).map fun i => (G i).1)).length = len * 2 := by rw [pcs_length]; simp
      have hj : j < len * 2 := by
        rcases Nat.lt_or_ge j (len * 2) with h1 | h1
        · exact h1
        · rw [List.getElem?_eq_none (by omega)] at hu; cases hu
      have hp := pcs_get ((List.range len).map fun i => (G i).1) (j / 2) (by simp; omega)
      rw [hx _ (by omega)] at hp
      have hb := hG (j / 2) (by omega)
      rcases Nat.mod_two_eq_zero_or_one j with h2 | h2
      · have e : j = j / 2 * 2 := by omega
        rw [e, hp.1] at hu
        rw [e, hb.1]; exact hu
      · have e : j = j / 2 * 2 + 1 := by omega
        rw [e, hp.2] at hu
        rw [e, hb.2.1]; exact hu
    · have hil : i < len := by simpa using hi
      rw [hx i hil, hy i hil]
      exact ⟨rfl, (hG i hil).2.2⟩
/-- A disk that came in. -/
theorem open_diskc {r : Reach} {b0 : Nat} {v : Value} {d : DataW H} {p : List MemPlace} (hv : Value.okWide Tryd.prog w r b0 31 v) (h : DataW.Trod enc Tryd.prog w base spare held 31 v d p) :
    ∃ (A : Option Addr) (n c : Nat) (B : Option Addr) (m e : Nat) (k : Dk), v = .agg #[.slice A n c, .slice B m e, .int .i64 k.left] ∧ DR w A n B m k ∧ n ≤ maxLen ∧ m ≤ maxLen ∧ n ≤ c := by
  obtain ⟨v0, v1, v2, y0, y1, y2, n', rfl, _, _, h0, h1, h2⟩ := open_agg3 Tryd.underlying31 (by kernel_rfl) (by kernel_rfl) hv h
  obtain ⟨A, n, c, bs, rfl, hb, hn, hc⟩ := raw_oct h0
  obtain ⟨B, m, e, ps, qs, rfl, hp, hq, hm⟩ := raw_pgs h1
  obtain ⟨l, e2, _, _⟩ := DataW.trod_int Tryd.underlying3 h2
  simp only [List.cons.injEq, and_true] at e2
  subst e2
  exact ⟨A, n, c, B, m, e, ⟨bs, qs, l⟩, rfl, ⟨hb, ps, hp, hq⟩, hn, hm, hc⟩
theorem open_disk {r : Reach} {b0 : Nat} {v : Value} {d : DataW H} {p : List MemPlace} (hv : Value.okWide Tryd.prog w r b0 31 v) (h : DataW.Trod enc Tryd.prog w base spare held 31 v d p) :
    ∃ (A : Option Addr) (n c : Nat) (B : Option Addr) (m e : Nat) (k : Dk), v = .agg #[.slice A n c, .slice B m e, .int .i64 k.left] ∧ DR w A n B m k ∧ n ≤ maxLen ∧ m ≤ maxLen := by
  obtain ⟨A, n, c, B, m, e, k, h1, h2, h3, h4, _⟩ := open_diskc hv h
  exact ⟨A, n, c, B, m, e, k, h1, h2, h3, h4⟩
/-- Octets that came in. -/
theorem open_oct {A : Option Addr} {n c : Nat} {d : DataW H} {ps : List MemPlace}
    (hd : DataW.Trod enc Tryd.prog w base spare held 28 (.slice A n c) d ps) : ∃ bs : Bs, BR w A n bs ∧ n ≤ maxLen := by
  obtain ⟨fuel, hf⟩ := hd
  simp only [Value.cells] at hf
  obtain ⟨A', n', c', bs, e, hb, hn, _⟩ := raw_oct hf
  injection e with e1 e2 e3
  subst e1 e2 e3
  exact ⟨bs, hb, hn⟩
end
end Go.Proofs.YthhemdjggdgaaaaDoor
