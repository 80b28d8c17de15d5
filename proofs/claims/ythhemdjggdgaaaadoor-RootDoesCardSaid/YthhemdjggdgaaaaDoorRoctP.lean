/- A root's octets, in words. -/
import Derived.Test.YthhemdjggdgaaaaDoorRt
import Derived.Test.YthhemdjggdgaaaaDoorLaws
namespace Go.Proofs.YthhemdjggdgaaaaDoor
open Go.RowKit
set_option linter.unusedVariables false

/-- The k-th lowest octet of a number. -/
def byteAt (n k : Nat) : UInt8 := UInt8.ofNat (n / 2 ^ (8 * k))
def putN (n w : Nat) : Bs := (List.range w).map (byteAt n)
theorem putN_len (n w : Nat) : (putN n w).length = w := by unfold putN; simp
theorem putN_snoc (n w : Nat) : putN n w ++ [byteAt n w] = putN n (w + 1) := by unfold putN; rw [List.range_succ, List.map_append]; rfl
theorem byteAt_val (n k : Nat) : ((byteAt n k).toNat : Int) = ((n : Int) / 2 ^ (8 * k)) % 256 := by
  unfold byteAt
  rw [UInt8.toNat_ofNat']
  simp
structure Nums where
  gen : Nat
  at_ : Nat
  len : Nat
  long : Nat
  sum : Nat
  next : Nat
def body1 (x : Nums) : Bs := putN x.gen 6
def body2 (x : Nums) : Bs := body1 x ++ putN x.at_ 2
def body3 (x : Nums) : Bs := body2 x ++ putN x.len 2
def body4 (x : Nums) : Bs := body3 x ++ putN x.long 3
def body5 (x : Nums) : Bs := body4 x ++ putN x.sum 4
def body6 (x : Nums) : Bs := body5 x ++ putN x.next 6
def body7 (x : Nums) : Bs := body6 x ++ putN 0 1
def bodyU (x : Nums) : Nat → Bs
  | 0 => []
  | 1 => body1 x
  | 2 => body2 x
  | 3 => body3 x
  | 4 => body4 x
  | 5 => body5 x
  | 6 => body6 x
  | _ => body7 x
theorem body7_len (x : Nums) : (body7 x).length = 24 := by simp [body7, body6, body5, body4, body3, body2, body1, putN_len]
def octsU (x : Nums) : Nat → Bs
  | 0 => []
  | k + 1 => octsU x k ++ [byteAt x.gen 0] ++ ((body7 x).drop (3 * k)).take 3
def octs (x : Nums) : Bs := octsU x 8
theorem octsU_len (x : Nums) : ∀ k, k ≤ 8 → (octsU x k).length = 4 * k
  | 0, _ => rfl
  | k + 1, h => by
    have ih := octsU_len x k (by omega)
    have hb := body7_len x
    rw [octsU, List.length_append, List.length_append, ih, List.length_take, List.length_drop, hb]
    simp
    omega
def Rt.nums (r : Rt) : Nums := ⟨r.gen, r.at_.toNat, r.len.toNat, r.long.toNat, r.sum, r.next⟩
open Classical in
noncomputable def octS (r : Rt) : Bs × Int := if RGood r then (octs r.nums, 0) else ([], 1)
theorem octS_ok {r : Rt} (h : RGood r) : octS r = (octs r.nums, 0) := by unfold octS; rw [if_pos h]
theorem octS_bad {r : Rt} (h : ¬ RGood r) : octS r = ([], 1) := by unfold octS; rw [if_neg h]
/-- The variable's cells: how wide each number is. -/
structure Wd (w : World) : Prop where
  c0 : w.cell? ⟨0, 0, none⟩ = some (.int .i64 6)
  c1 : w.cell? ⟨0, 1, none⟩ = some (.int .i64 2)
  c2 : w.cell? ⟨0, 2, none⟩ = some (.int .i64 2)
  c3 : w.cell? ⟨0, 3, none⟩ = some (.int .i64 3)
  c4 : w.cell? ⟨0, 4, none⟩ = some (.int .i64 4)
  c5 : w.cell? ⟨0, 5, none⟩ = some (.int .i64 6)
  c6 : w.cell? ⟨0, 6, none⟩ = some (.int .i64 1)
theorem Wd.pos {w : World} (h : Wd w) : 0 < w.heap.size := World.block_lt_of_cell? w ⟨0, 0, none⟩ h.c0
theorem Wd.below {B : Nat} {w w' : World} (h : Wd w) (hb : Below B w w') (hB : 0 < B) : Wd w' :=
  ⟨(hb.cell (p := ⟨0, 0, none⟩) hB).trans h.c0, (hb.cell (p := ⟨0, 1, none⟩) hB).trans h.c1, (hb.cell (p := ⟨0, 2, none⟩) hB).trans h.c2, (hb.cell (p := ⟨0, 3, none⟩) hB).trans h.c3, (hb.cell (p := ⟨0, 4, none⟩) hB).trans h.c4, (hb.cell (p := ⟨0, 5, none⟩) hB).trans h.c5, (hb.cell (p := ⟨0, 6, none⟩) hB).trans h.c6⟩
theorem one_octv (w : World) (v : UInt8) (z : Int) (hz : z = (v.toNat : Int)) : BR (w.alloc (.cells #[.int .u8 z] 5)) (some ⟨w.heap.size, 0, none⟩) 1 [v] := by
  subst hz
  refine ⟨rfl, fun _ => ⟨_, rfl, by simp, fun j u h => ?_⟩⟩
  cases j with
  | zero =>
    have e : u = .int .u8 v.toNat := by
      have : (byt [v])[0]? = some (Value.int .u8 v.toNat) := rfl
      rw [this] at h
      exact (Option.some.inj h).symm
    subst e
    exact box_cell w #[.int .u8 v.toNat] 5 0 (.int .u8 v.toNat) rfl
  | succ j => simp [byt] at h
/-- Octets stay where another row grows. -/
theorem row_other2 {base n c g N C : Nat} {w w' : World} {B : Option Addr} {bs : Bs} (h : OB base w (some ⟨g, 0, none⟩) n c bs) (hg : w.grownBy w' (Value.slice B N C).ownBlock) (hne : ∀ q, (Value.slice B N C).ownBlock = some q → q ≠ g) : OB base w' (some ⟨g, 0, none⟩) n c bs := by
  cases e : (Value.slice B N C).ownBlock with
  | none => rw [e] at hg; exact row_below h ((Below.refl _ _).grown hg (Nat.le_refl _) (fun q hq => by cases hq))
  | some b =>
    rw [e] at hg
    refine row_other h hg (fun q hq => ?_)
    have h1 : g = q := by simpa [Value.ownBlock] using hq
    subst h1
    exact fun e2 => hne b e e2.symm
theorem ne_grown {base n c g N C N' C' : Nat} {w : World} {B B' : Option Addr} {bs : Bs} (h : OB base w (some ⟨g, 0, none⟩) n c bs) (hat : (Value.slice B' N' C').ownBlock = (Value.slice B N C).ownBlock ∨ (Value.slice B' N' C').ownBlock = some w.heap.size) (hne : ∀ q, (Value.slice B N C).ownBlock = some q → q ≠ g) : ∀ q, (Value.slice B' N' C').ownBlock = some q → q ≠ g := by
  intro q hq
  rcases hat with e | e
  · exact hne q (by rw [← e]; exact hq)
  · rw [e] at hq
    injection hq with hq
    have := (World.ownsRow.lt h g rfl).2
    omega
theorem part3 {base c g j : Nat} {w : World} {bs : Bs} (h : OB base w (some ⟨g, 0, none⟩) 24 c bs) (hj : j < 8) : BR w (some ⟨g, 3 * j, none⟩) 3 ((bs.drop (3 * j)).take 3) :=
  BR.part h.reads (3 * j) 3 (by omega) _ (fun _ ad e => by injection e with e; subst e; simp [Addr.add])
end Go.Proofs.YthhemdjggdgaaaaDoor
