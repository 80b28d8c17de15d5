/- Texts of octets: read, compared, copied. -/
import Derived.Test.YthhemdjggdgaaaaDoorRow
import Derived.Laws.BytesArg
import Derived.Lib.SliceRun
namespace Go.Proofs.YthhemdjggdgaaaaDoor
open Go.RowKit

abbrev Bs := List UInt8
def byt (bs : Bs) : List Value := bs.map fun b => .int .u8 b.toNat
theorem byt_length (bs : Bs) : (byt bs).length = bs.length := by unfold byt; simp
theorem byt_append (a b : Bs) : byt (a ++ b) = byt a ++ byt b := by unfold byt; simp
theorem byt_take (a : Bs) (k : Nat) : (byt a).take k = byt (a.take k) := by unfold byt; simp [List.map_take]
theorem byt_drop (a : Bs) (k : Nat) : (byt a).drop k = byt (a.drop k) := by unfold byt; simp [List.map_drop]
theorem byt_set (a : Bs) (k : Nat) (b : UInt8) : byt (a.set k b) = (byt a).set k (.int .u8 b.toNat) := by unfold byt; rw [List.map_set]
theorem byt_get (a : Bs) (k : Nat) (h : k < a.length) : (byt a)[k]? = some (.int .u8 (a.getD k 0).toNat) := by
  unfold byt
  rw [List.getElem?_map, List.getElem?_eq_getElem h, List.getD_eq_getElem?_getD, List.getElem?_eq_getElem h]; rfl
theorem byt_one (bs : Bs) : ∀ u ∈ byt bs, u.oneCell' = true := by
  intro u hu
  unfold byt at hu
  obtain ⟨b, _, rfl⟩ := List.mem_map.1 hu
  rfl
theorem byt_inj : ∀ {a b : Bs}, byt a = byt b → a = b
  | [], [], _ => rfl
  | [], _ :: _, h => by simp [byt] at h
  | _ :: _, [], h => by simp [byt] at h
  | x :: a, y :: b, h => by
    simp only [byt, List.map_cons, List.cons.injEq, Value.int.injEq, true_and] at h
    rw [byt_inj (a := a) (b := b) h.2, UInt8.toNat_inj.1 (by omega : x.toNat = y.toNat)]

/-- A slice that holds these octets. -/
def BR (w : World) (A : Option Addr) (n : Nat) (bs : Bs) : Prop := Reads w w.heap.size 1 A n (byt bs)
/-- .. in a block of its own, from base on, room for c. -/
def OB (base : Nat) (w : World) (A : Option Addr) (n c : Nat) (bs : Bs) : Prop := w.ownsRow base 5 1 (.slice A n c) n (byt bs)
section
variable {w w' : World} {A : Option Addr} {n c base : Nat} {bs : Bs}
theorem BR.len (h : BR w A n bs) : bs.length = n := by have := h.1; rw [byt_length] at this; omega
theorem BR.below (h : BR w A n bs) (hb : Below w.heap.size w w') : BR w' A n bs := (Reads.below h hb).more hb.size
theorem BR.nil (w : World) : BR w none 0 [] := Reads.none_
theorem BR.cell (h : BR w A n bs) (k : Nat) (hk : k < n) : ∃ ad, A = some ad ∧ w.cell? (ad.add k) = some (.int .u8 (bs.getD k 0).toNat) := by
  obtain ⟨ad, e, _, hc⟩ := h.2 (by omega)
  exact ⟨ad, e, hc k _ (byt_get bs k (by rw [h.len]; exact hk))⟩
theorem BR.block (h : BR w A n bs) {ad : Addr} (hA : A = some ad) (hn : 0 < n) : ad.block < w.heap.size := by
  obtain ⟨ad', e, hb, _⟩ := h.2 hn
  rw [hA] at e; injection e with e; subst e; exact hb
theorem OB.reads (h : OB base w A n c bs) : BR w A n bs := Reads.of_own h
theorem OB.len (h : OB base w A n c bs) : bs.length = n := h.reads.len
theorem OB.below (h : OB base w A n c bs) (hb : Below w.heap.size w w') : OB base w' A n c bs := row_below h hb
theorem OB.mono {b' : Nat} (h : OB base w A n c bs) (hb : b' ≤ base) : OB b' w A n c bs := row_mono h hb
theorem OB.nil (base : Nat) (w : World) : OB base w none 0 0 [] := row_nil _ _ _ _
end

theorem u8_info : (Tryd.prog.info? 5).map (fun i => (i.zero, i.size, i.bytes)) = some (some (.int .u8 0), 1, 1) := by kernel_rfl

theorem strOf (bs : Bs) : strOfNums (bs.map fun b => (b.toNat : Int)) = ⟨bs.toArray⟩ := by
  unfold strOfNums
  rw [List.map_map]
  congr 2
  conv => rhs; rw [← List.map_id bs]
  congr 1
  funext b
  simp
theorem run_str (w : World) (A : Option Addr) (n c : Nat) (bs : Bs) (h : BR w A n bs) : (convert 28 9 (.slice A n c)).run Tryd.prog w = .ok (.string ⟨bs.toArray⟩) w := by
  rw [run_convert_bytes_string w 28 9 5 _ n c Tryd.underlying28 Tryd.underlying5 Tryd.underlying9]
  cases A with
  | none =>
    have h0 : n = 0 := by
      rcases Nat.eq_zero_or_pos n with h' | h'
      · exact h'
      · obtain ⟨ad, e, _⟩ := h.2 h'; cases e
    have hl := h.len
    rw [h0] at hl
    rw [List.length_eq_zero_iff.1 hl]
    simp [Conv.bytesToString]; rfl
  | some ad =>
    have hl : (loadCells ad n).run Tryd.prog w = .ok ((bs.map fun b => (b.toNat : Int)).map (Value.int .u8)).toArray w := by
      have hlen := h.len
      have := run_loadCells_list (P := Tryd.prog) w ad (byt bs) (fun j v hj => by
        rcases Nat.eq_zero_or_pos n with h' | h'
        · rw [List.length_eq_zero_iff.1 (by rw [byt_length]; omega : (byt bs).length = 0)] at hj; cases hj
        · obtain ⟨ad', e, _, hc⟩ := h.2 h'
          injection e with e; subst e
          exact hc j v hj)
      rw [byt_length, hlen] at this
      rw [this]
      unfold byt
      rw [List.map_map]; rfl
    rw [run_bytesToString w _ n c _ hl, foldl_push_bytes]
    have := strOf bs
    unfold strOfNums at this
    simp [ByteArray.empty, ByteArray.emptyWithCapacity] at this ⊢
    exact this

theorem equalB_any (w : World) (A B : Option Addr) (n m c d : Nat) (xs bs : Bs) (hx : BR w A n xs) (hy : BR w B m bs) :
    Calls Tryd.prog 28 #[.slice A n c, .slice B m d] w fun e w' => e = .returned (.bool (decide (xs = bs))) ∧ w = w' := by
  have h1 := run_str w A n c xs hx
  have h2 := run_str w B m d bs hy
  go_enter Tryd.func28, Tryd.ntmps28
  go_wp2_with fail
  go_ret
  exact ⟨ret_bool (by rw [Bool.eq_iff_iff]; simp), rfl⟩
theorem sameB_any (w : World) (A B : Option Addr) (n m c d : Nat) (xs bs : Bs) (hx : BR w A n xs) (hy : BR w B m bs) :
    Calls Tryd.prog 19 #[.slice A n c, .slice B m d] w fun e w' => e = .returned (.bool (decide (xs = bs))) ∧ w = w' := by
  have h1 := run_str w A n c xs hx
  have h2 := run_str w B m d bs hy
  go_enter Tryd.func19, Tryd.ntmps19
  go_wp2_with fail
  go_ret
  exact ⟨ret_bool (by rw [Bool.eq_iff_iff]; simp), rfl⟩

def CloneB (w : World) (n : Nat) (bs : Bs) (e : Ending) (w' : World) : Prop := ∃ A c, e = .returned (.slice A n c) ∧ Below w.heap.size w w' ∧ OB w.heap.size w' A n c bs
theorem cloneB_any (w : World) (A : Option Addr) (n c : Nat) (bs : Bs) (hr : BR w A n bs) (hn : n ≤ 300000) :
    Calls Tryd.prog 38 #[.slice A n c] w (CloneB w n bs) := by
  obtain ⟨i0, hi0, hz0, hz1, hz2⟩ := info_parts u8_info
  have H1 := hide (byt_one bs)
  have HR := hide hr
  clear hr
  cases A with
  | none =>
    have hnil := fun w => Lib.run_eql_slice_nil (P := Tryd.prog) w 28 5 none n c 0 0 Tryd.underlying28
    have h0 : n = 0 := by
      rcases Nat.eq_zero_or_pos n with h | h
      · exact h
      · obtain ⟨ad, h, _⟩ := HR.out.cell 0 h; cases h
    subst h0
    go_enter Tryd.func38, Tryd.ntmps38
    go_wp2_with fail
    go_ret
    have hp := HR.out.len
    rw [List.length_eq_zero_iff.1 hp]
    exact ⟨none, 0, rfl, Below.refl _ _, OB.nil _ _⟩
  | some ad =>
    have hnil := fun w => Lib.run_eql_slice_nil (P := Tryd.prog) w 28 5 (some ad) n c 0 0 Tryd.underlying28
    have o0 : (w.alloc (.cells #[] 5)).ownsRow w.heap.size 5 1 (.slice (some ⟨w.heap.size, 0, none⟩) 0 0) 0 [] := ⟨by simp, .inr ⟨w.heap.size, 0, #[], rfl, Nat.le_refl _, heap_alloc_new w _, by omega, by simp [maxLen], rfl, rfl⟩⟩
    have O0 := hide o0
    clear o0
    have R0 : Hid (Reads (w.alloc (.cells #[] 5)) w.heap.size 1 (some ad) n (byt bs)) := Reads.alloc HR.out (Nat.le_refl _) _
    go_enter Tryd.func38, Tryd.ntmps38
    go_wp2_with (at_builtin; refine wpList_append_any _ rfl (.tmp 5) (.tmp 6) _ rfl w.heap.size 5 i0 _ 1 1 Tryd.underlying28 hi0 hz0 hz1 hz2 rfl (by omega) (.slice (some ⟨w.heap.size, 0, none⟩) 0 0) 0 [] rfl O0.out w.heap.size (some ad) n c (byt bs) rfl R0.out H1.out (by simp only [maxLen]; omega) (by omega) (by simp) ?_; intro v1 w1 hown1 hg1 hat1)
    go_ret
    simp only [Nat.zero_add, List.nil_append] at hown1
    obtain ⟨A', c', rfl⟩ := row_slice hown1
    refine ⟨A', c', rfl, ?_, hown1⟩
    exact ((Below.refl _ _).alloc (Nat.le_refl _) _).grown hg1 (by simp) (fun k hk => by simp [Value.ownBlock] at hk; omega)
end Go.Proofs.YthhemdjggdgaaaaDoor
