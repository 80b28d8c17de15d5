/- A disk of one's own: own, and the reference's Copy. -/
import Derived.Test.YthhemdjggdgaaaaDoorIs
namespace Go.Proofs.YthhemdjggdgaaaaDoor
open Go.RowKit

theorem place_any (w : World) (A : Option Addr) (n c : Nat) (B : Option Addr) (m e' : Nat) (l : Int) (ps : List Pg) (k : Int) (hr : PR w B m ps) (hs : Asc ps) (hm : m ≤ 1000) :
    Calls Tryd.prog 41 #[.agg #[.slice A n c, .slice B m e', .int .i64 l], .int .i64 k] w (BsPost w ps k) := by
  have HR := hide hr
  have HS := hide hs
  clear hr hs
  go_enter Tryd.func41, Tryd.ntmps41
  go_wp2_with (first | (go_at_call 52; refine (bs_any _ _ _ _ ps k (HR.out.below (below_alloc _ _)) HS.out hm).mono ?_; rintro e w' ⟨i, rfl, hat, hb⟩; have HB := hide hb; have HA := hide hat; clear hb hat))
  go_ret2
  exact ⟨i, rfl, HA.out, Below.then (below_alloc _ _) HB.out⟩

/-- A slice's part that was read whole. -/
theorem BR.part {w : World} {A : Option Addr} {n : Nat} {bs : Bs} (h : BR w A n bs) (o k : Nat) (hk : o + k ≤ n) (A' : Option Addr) (hA : 0 < k → ∀ ad, A = some ad → A' = some (ad.add o)) : BR w A' k ((bs.drop o).take k) := by
  have hl := h.len
  refine ⟨by rw [byt_length, List.length_take, List.length_drop]; omega, fun h0 => ?_⟩
  obtain ⟨ad, e, hb, hc⟩ := h.2 (by omega)
  refine ⟨ad.add o, hA h0 ad e, by rw [block_of_add]; exact hb, fun j u hu => ?_⟩
  rw [add_of_add]
  refine hc _ u ?_
  rw [← byt_take, ← byt_drop, List.getElem?_take] at hu
  split at hu
  · rw [List.getElem?_drop] at hu; exact hu
  · cases hu

/-- A sector as it is synced. -/
def sect (b : Bs) (k : Nat) : Bs := (b.drop (k * 32)).take 32
theorem dry_any (w : World) (A : Option Addr) (n c : Nat) (B : Option Addr) (m e' : Nat) (l : Int) (k : Nat) (hk : (k + 1) * 32 ≤ n) (hc : n ≤ c) (hn : n ≤ 300000) (ad : Addr) (hA : A = some ad) :
    Calls Tryd.prog 47 #[.agg #[.slice A n c, .slice B m e', .int .i64 l], .int .i64 k] w fun e w' => e = .returned (.slice (some (ad.add (k * 32))) 32 32) ∧ Below w.heap.size w w' := by
  subst hA
  have h1 : (k : Int) * 32 + 32 ≤ (n : Int) := by omega
  have h2 : (k : Int) * 32 + 32 ≤ (c : Int) := by omega
  have h3 : (k : Int) ≤ 300000 := by omega
  go_enter Tryd.func47, Tryd.ntmps47
  go_wp2_with fail
  go_ret
  refine ⟨?_, below_alloc _ _⟩
  show Ending.returned (Value.slice (some (ad.add (k * 32))) (k * 32 + 32 - k * 32) (k * 32 + 32 - k * 32)) = _
  rw [show k * 32 + 32 - k * 32 = 32 by omega]
end Go.Proofs.YthhemdjggdgaaaaDoor
