/- A root that came in, opened; what the variable's condition gives. -/
import Derived.Test.YthhemdjggdgaaaaDoorRoctP
import Derived.Test.YthhemdjggdgaaaaDoorOpen
import Derived.Test.YthhemdjggdgaaaaDoorRows
import Derived.LaidMore
import Derived.ProofKit
import Derived.Stop.Joined
namespace Go.Proofs.YthhemdjggdgaaaaDoor
open Go.RowKit Go.ChangeShapes Go.WideShapes Go.Deep Go.Joins Go.ChangeAt

section
variable {H : Type} {enc : TypeId × Value → H} {w : World} {base : Nat} {spare : Nat → Bool} {held : Bool}
theorem some_at {α : Type} {xs : List α} {i : Nat} (h : i < xs.length) : xs[i]? = some (xs[i]'h) := List.getElem?_eq_getElem h
theorem open_octc {A : Option Addr} {n c : Nat} {d : DataW H} {ps : List MemPlace}
    (hd : DataW.Trod enc Tryd.prog w base spare held 28 (.slice A n c) d ps) : ∃ bs : Bs, BR w A n bs ∧ n ≤ maxLen ∧ n ≤ c := by
  obtain ⟨fuel, hf⟩ := hd
  simp only [Value.cells] at hf
  obtain ⟨A', n', c', bs, e, hb, hn, hc⟩ := raw_oct hf
  obtain ⟨rfl, rfl, rfl⟩ := Value.slice.inj e
  exact ⟨bs, hb, hn, hc⟩
theorem open_root {r : Reach} {b0 : Nat} {v : Value} {d : DataW H} {p : List MemPlace} (hv : Value.okWide Tryd.prog w r b0 27 v) (h : DataW.Trod enc Tryd.prog w base spare held 27 v d p) :
    ∃ k : Rt, v = rtv k ∧ k.sum < 4294967296 := by
  obtain ⟨cs, rfl, hsz⟩ := okWide_struct Tryd.underlying27 hv
  have e6 : Tryd.prog.cellsOf 27 = 6 := by kernel_rfl
  have eU : Tryd.prog.cellsOf 22 = 1 := by kernel_rfl
  have eV : Tryd.prog.cellsOf 25 = 1 := by kernel_rfl
  have eI : Tryd.prog.cellsOf 3 = 1 := by kernel_rfl
  have eX : Tryd.prog.cellsOf 24 = 2 := by kernel_rfl
  obtain ⟨l⟩ := cs
  match l, hsz.trans e6 with
  | [c0, c1, c2, c3, c4, c5], _ =>
    obtain ⟨fuel, hf⟩ := h
    obtain ⟨xs, n, _, _, _, hlen, hg⟩ := DataW.trod_struct Tryd.underlying27 hf
    have hl5 : xs.length = 5 := hlen
    have h0 := (hg 0 _ rfl).trans (some_at (by omega))
    have h1 := (hg 1 _ rfl).trans (some_at (by omega))
    have h2 := (hg 2 _ rfl).trans (some_at (by omega))
    have h3 := (hg 3 _ rfl).trans (some_at (by omega))
    have h4 := (hg 4 _ rfl).trans (some_at (by omega))
    change DataW.trod enc Tryd.prog w base spare held n 22 (List.take (Tryd.prog.cellsOf 22) (List.drop 0 [c0, c1, c2, c3, c4, c5])) = some _ at h0
    change DataW.trod enc Tryd.prog w base spare held n 24 (List.take (Tryd.prog.cellsOf 24) (List.drop 1 [c0, c1, c2, c3, c4, c5])) = some _ at h1
    change DataW.trod enc Tryd.prog w base spare held n 3 (List.take (Tryd.prog.cellsOf 3) (List.drop 3 [c0, c1, c2, c3, c4, c5])) = some _ at h2
    change DataW.trod enc Tryd.prog w base spare held n 25 (List.take (Tryd.prog.cellsOf 25) (List.drop 4 [c0, c1, c2, c3, c4, c5])) = some _ at h3
    change DataW.trod enc Tryd.prog w base spare held n 22 (List.take (Tryd.prog.cellsOf 22) (List.drop 5 [c0, c1, c2, c3, c4, c5])) = some _ at h4
    simp only [eU, eV, eI, eX, List.drop_succ_cons, List.drop_zero, List.take_succ_cons, List.take_zero] at h0 h1 h2 h3 h4
    obtain ⟨n0, z0, _, w0⟩ := DataW.trod_int Tryd.underlying22 h0
    obtain ⟨n3, z3, _, w3⟩ := DataW.trod_int Tryd.underlying3 h2
    obtain ⟨n4, z4, _, w4⟩ := DataW.trod_int Tryd.underlying25 h3
    obtain ⟨n5, z5, _, w5⟩ := DataW.trod_int Tryd.underlying22 h4
    obtain ⟨ys, m, _, _, _, hlen2, hg2⟩ := DataW.trod_struct Tryd.underlying24 h1
    have hl2 : ys.length = 2 := hlen2
    have k0 := (hg2 0 _ rfl).trans (some_at (by omega))
    have k1 := (hg2 1 _ rfl).trans (some_at (by omega))
    change DataW.trod enc Tryd.prog w base spare held m 3 (List.take (Tryd.prog.cellsOf 3) (List.drop 0 [c1, c2])) = some _ at k0
    change DataW.trod enc Tryd.prog w base spare held m 3 (List.take (Tryd.prog.cellsOf 3) (List.drop 1 [c1, c2])) = some _ at k1
    simp only [eI, List.drop_succ_cons, List.drop_zero, List.take_succ_cons, List.take_zero] at k0 k1
    obtain ⟨n1, z1, _, _⟩ := DataW.trod_int Tryd.underlying3 k0
    obtain ⟨n2, z2, _, _⟩ := DataW.trod_int Tryd.underlying3 k1
    simp only [List.cons.injEq, and_true] at z0 z1 z2 z3 z4 z5
    have b0 := bounds_u64 w0
    have b4 := bounds_u32 w4
    have b5 := bounds_u64 w5
    obtain ⟨g0, rfl⟩ := Int.eq_ofNat_of_zero_le b0.1
    obtain ⟨g4, rfl⟩ := Int.eq_ofNat_of_zero_le b4.1
    obtain ⟨g5, rfl⟩ := Int.eq_ofNat_of_zero_le b5.1
    subst z0 z1 z2 z3 z4 z5
    exact ⟨⟨g0, n1, n2, n3, g4, g5⟩, rfl, by show g4 < 4294967296; omega⟩
end
theorem u8_of {n : Int} (h : 0 ≤ n ∧ n ≤ 255) : ∃ b : UInt8, n = (b.toNat : Int) := by
  obtain ⟨k, rfl⟩ := Int.eq_ofNat_of_zero_le h.1
  exact ⟨UInt8.ofNat k, by rw [UInt8.toNat_ofNat_of_lt' (by simp [UInt8.size]; omega)]⟩
theorem gWide : Tryd.prog.globalNamed "tansy/root.wide" = some 0 := by kernel_rfl
theorem tWide : (Tryd.prog.globals[0]?).map (·.type) = some 58 := by kernel_rfl
theorem at_int {H : Type} {enc : TypeId × Value → H} {w : World} {base : Nat} {spare : Nat → Bool} {held : Bool} {m : Nat} {v : Value} {x : DataW H × List MemPlace} {n : Int} (h : DataW.trod enc Tryd.prog w base spare held m 3 [v] = some x) (hx : DataW.lit (.int .i64 n) = x.1) : v = .int .i64 n := by
  obtain ⟨k, e1, e2, _⟩ := DataW.trod_int Tryd.underlying3 h
  simp only [List.cons.injEq, and_true] at e1
  subst e1 e2
  simp only [DataW.lit.injEq, Lit.int.injEq, true_and] at hx
  rw [hx]
/-- What the condition gives the walks. -/
theorem wd_of_laid {W : World} (h : laidMetH Tryd.prog [("tansy/root.wide", Rows.laid_tansy_root_wide)] W) : Wd W := by
  rw [MakeChecks.laidMetH_plain _ _ _ (by kernel_rfl)] at h
  obtain ⟨ps, ⟨g0, t0, cs0, f0, p0, q0, hg0, ht0, hv0, hd0, _, _⟩, _, _⟩ := h
  obtain rfl := Option.some.inj (gWide.symm.trans hg0)
  obtain rfl := Option.some.inj (tWide.symm.trans ht0)
  obtain ⟨xs, m1, rfl, hx1, hlen, hn3, hel⟩ := DataW.trod_array Tryd.underlying58 hd0
  have c3 : Tryd.prog.cellsOf 3 = 1 := by kernel_rfl
  have hl7 : cs0.toList.length = 7 := hlen.trans (by kernel_rfl)
  have cell := fun i => World.var?_cell hg0 hv0 i
  obtain ⟨l⟩ := cs0
  simp only at hl7
  match l, hl7 with
  | [v0, v1, v2, v3, v4, v5, v6], _ =>
    match xs, hn3, hx1, hel with
    | [x0, x1, x2, x3, x4, x5, x6], _, hx1, hel =>
      simp only [Prod.mk.injEq, DataW.agg.injEq, Rows.laid_tansy_root_wide, List.map_cons, List.map_nil, List.cons.injEq, and_true] at hx1
      obtain ⟨⟨y0, y1, y2, y3, y4, y5, y6⟩, _⟩ := hx1
      have s0 := hel 0 (by decide)
      have s1 := hel 1 (by decide)
      have s2 := hel 2 (by decide)
      have s3 := hel 3 (by decide)
      have s4 := hel 4 (by decide)
      have s5 := hel 5 (by decide)
      have s6 := hel 6 (by decide)
      rw [c3] at s0 s1 s2 s3 s4 s5 s6
      have t0 := at_int (show DataW.trod _ Tryd.prog W 0 _ false m1 3 [v0] = some x0 from s0) y0
      have t1 := at_int (show DataW.trod _ Tryd.prog W 0 _ false m1 3 [v1] = some x1 from s1) y1
      have t2 := at_int (show DataW.trod _ Tryd.prog W 0 _ false m1 3 [v2] = some x2 from s2) y2
      have t3 := at_int (show DataW.trod _ Tryd.prog W 0 _ false m1 3 [v3] = some x3 from s3) y3
      have t4 := at_int (show DataW.trod _ Tryd.prog W 0 _ false m1 3 [v4] = some x4 from s4) y4
      have t5 := at_int (show DataW.trod _ Tryd.prog W 0 _ false m1 3 [v5] = some x5 from s5) y5
      have t6 := at_int (show DataW.trod _ Tryd.prog W 0 _ false m1 3 [v6] = some x6 from s6) y6
      exact ⟨(cell 0).trans (by rw [t0]; rfl), (cell 1).trans (by rw [t1]; rfl), (cell 2).trans (by rw [t2]; rfl), (cell 3).trans (by rw [t3]; rfl), (cell 4).trans (by rw [t4]; rfl), (cell 5).trans (by rw [t5]; rfl), (cell 6).trans (by rw [t6]; rfl)⟩
end Go.Proofs.YthhemdjggdgaaaaDoor
