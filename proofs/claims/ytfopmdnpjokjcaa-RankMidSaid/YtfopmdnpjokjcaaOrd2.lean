import Derived.Test.YtfopmdnpjokjcaaOrd
namespace Go.Proofs.Ytfopmdnpjokjcaa
open Go.RowKit Plain

theorem ins_zero (A : Option Addr) (c : Nat) (f : Value) (w : World) : Calls Try.prog 40 #[.slice A 0 c, .int .i64 0, .int .i64 0, f] w fun e w' => e = .returned (.tuple #[]) ∧ w = w' := by
  go_enter Try.func40, Try.ntmps40
  go_wp2_with fail
  go_loop [8] (fun v => v = .int .i64 1) (fun _ => 0)
  case atStart => rfl
  case round =>
    obtain rfl := hrel
    go_wp2_with fail
    go_end0
    exact ⟨rfl, rfl⟩

theorem stable_zero (A : Option Addr) (c : Nat) (f : Value) (w : World) : Calls Try.prog 38 #[.slice A 0 c, .int .i64 0, f] w fun e w' => e = .returned (.tuple #[]) ∧ w = w' := by
  go_enter Try.func38, Try.ntmps38
  go_wp2_with fail
  go_loop [7, 8] (fun u v => u = .int .i64 0 ∧ v = .int .i64 20) (fun _ _ => 0)
  case atStart => exact ⟨rfl, rfl⟩
  case round =>
    obtain ⟨rfl, rfl⟩ := hrel
    go_wp2_with fail
    refine (ins_zero _ _ _ _).mono ?_
    rintro e w' ⟨rfl, rfl⟩
    go_wp2_with fail
    go_loop [6] (fun u => u = .int .i64 20) (fun _ => 0)
    case atStart => rfl
    case round =>
      obtain rfl := hrel
      go_wp2_with fail
      go_end0
      exact ⟨rfl, rfl⟩

theorem sort_zero (A : Option Addr) (c : Nat) (f : Value) (w : World) : Calls Try.prog 30 #[.slice A 0 c, f] w fun e w' => e = .returned (.tuple #[]) ∧ w = w' := by
  go_enter Try.func30, Try.ntmps30
  go_wp2_with fail
  refine (stable_zero _ _ _ _).mono ?_
  rintro e w' ⟨rfl, rfl⟩
  go_wp2_with fail
  go_end0
  exact ⟨rfl, rfl⟩

theorem sort_any (w0 w : World) (g cap n : Nat) (xs : List Nat) (hr : SRow w0 w g xs) (hw : Words xs) (hn : xs.length = n) (hl : n ≤ 1000) :
    Calls Try.prog 30 #[.slice (some ⟨g, 0, none⟩) n cap, .func (.func 15) #[] #[]] w (InsPost w0 g 0 n xs) := by
  subst hn
  go_enter Try.func30, Try.ntmps30
  go_wp2_with fail
  refine (stable_any w0 w g cap xs hr hw hl).mono ?_
  rintro e w' ⟨rfl, h⟩
  go_wp2_with fail
  go_end0
  exact ⟨rfl, h⟩

def OrdPost (w : World) (n : Nat) (xs : List Nat) (e : Ending) (w' : World) : Prop :=
  ∃ A c ys, e = .returned (.slice A n c) ∧ Below w.heap.size w w' ∧ Own w.heap.size w' A n ys ∧ ys.Perm xs ∧ Up 0 n ys

theorem order_any (w : World) (A : Option Addr) (n c : Nat) (xs : List Nat) (hr : FR w A n xs) (hw : Words xs) (hn : n ≤ 1000) :
    Calls Try.prog 11 #[.slice A n c] w (OrdPost w n xs) := by
  have HW := hide hw
  clear hw
  go_enter Try.func11, Try.ntmps11
  go_wp2_with fail
  refine (clone_any w A n c xs hr hn).mono ?_
  rintro e w1 ⟨A1, c1, rfl, hb, ho⟩
  have HB := hide hb
  have HO := hide ho
  clear hb ho hr
  by_cases h0 : n = 0
  · subst h0
    go_wp2_with fail
    refine (sort_zero _ _ _ _).mono ?_
    rintro e w' ⟨rfl, rfl⟩
    go_wp2_with fail
    go_ret
    exact ⟨A1, c1, xs, rfl, HB.out, HO.out, List.Perm.refl _, Up.empty _ (by omega)⟩
  · obtain ⟨g, tail, rfl, hg, hh⟩ := HO.out.2 (by omega)
    have HH := hide hh
    clear hh
    have hlen := hide HO.out.1
    go_wp2_with fail
    refine (sort_any w1 w1 g c1 n xs ⟨⟨tail, HH.out⟩, World.grownBy.refl _ _⟩ HW.out hlen.out hn).mono ?_
    rintro e w2 ⟨rfl, ys, hs, hi, hu⟩
    have HS := hide hs
    have HI := hide hi
    have HU := hide hu
    clear hs hi hu
    go_wp2_with fail
    go_ret
    obtain ⟨⟨tail2, hh2⟩, hg2⟩ := HS.out
    exact ⟨_, c1, ys, rfl, HB.out.grown hg2 HB.out.size (fun k hk => by injection hk; omega), ⟨HI.out.1.trans hlen.out, fun _ => ⟨g, tail2, rfl, hg, hh2⟩⟩, HI.out.2.1, HU.out⟩

/-- Only draws. -/
def Drw (w w' : World) : Prop := ∃ q, w' = w.drewN q
theorem Drw.refl (w : World) : Drw w w := ⟨0, rfl⟩
theorem Drw.step {w w' : World} (h : Drw w w') (n : Nat) : Drw w (w'.drewN n) := by
  obtain ⟨q, rfl⟩ := h
  exact ⟨q + n, by rw [World.drewN_drewN]⟩
theorem Drw.trans {w w' w'' : World} (h : Drw w w') (k : Drw w' w'') : Drw w w'' := by
  obtain ⟨n, rfl⟩ := k
  exact h.step n
theorem Drw.cell {w w' : World} (h : Drw w w') (a : Addr) : w'.cell? a = w.cell? a := by
  obtain ⟨q, rfl⟩ := h; rfl
theorem Drw.below {w w' : World} (h : Drw w w') (B : Nat) : Below B w w' := by
  obtain ⟨q, rfl⟩ := h; exact ⟨rfl, rfl, rfl, Nat.le_refl _, fun _ _ => rfl⟩

/-! ### The document's answer -/
/-- Two lists are the same: as many, and each by its key. -/
def sameL (xs ys : List Nat) : Bool := decide (xs.length = ys.length ∧ ∀ i, i < xs.length → K xs i = K ys i)

theorem sameList_any (w : World) (A B : Option Addr) (n m c d : Nat) (xs ys : List Nat) (hx : FR w A n xs) (hy : FR w B m ys) (wx : Words xs) (wy : Words ys) (hn : n ≤ 1000) :
    Calls Try.prog 12 #[.slice A n c, .slice B m d] w fun e w' => e = .returned (.bool (sameL xs ys)) ∧ Drw w w' := by
  have HX := hide hx
  have HY := hide hy
  have WX := hide wx
  have WY := hide wy
  have lx := hide hx.len
  have ly := hide hy.len
  clear hx hy wx wy
  by_cases hnm : n = m
  · have t1 : ((n : Int) != (m : Int)) = false := by rw [bne_eq_false_iff_eq]; omega
    have HNM := hide hnm
    clear hnm
    have hnm1 : n ≤ m := by have := HNM.out; omega
    go_enter Try.func12, Try.ntmps12
    go_wp2_with fail
    go_loopw [13] (fun v wr => ∃ k : Nat, v = .int .i64 k ∧ k ≤ n ∧ Hid (∀ i, i < k → K xs i = K ys i) ∧ Hid (Drw w wr)) (fun v _ => n - (intOf v).toNat)
    case atStart => exact ⟨0, rfl, by omega, hide (fun i hi => by omega), Drw.refl _⟩
    case round =>
      obtain ⟨k, rfl, hk, HK, HQ⟩ := hrel
      by_cases hkn : k < n
      · have hkz : (k : Int) < (n : Int) := by omega
        have hkm : (k : Int) < (m : Int) := by omega
        obtain ⟨a1, rfl, ca⟩ := HX.out.cell k hkn
        obtain ⟨b1, rfl, cb⟩ := HY.out.cell k (by omega)
        have ca' := (HQ.out.cell _).trans ca
        have cb' := (HQ.out.cell _).trans cb
        clear ca cb
        have wx := hide (WX.out.nth k)
        have wy := hide (WY.out.nth k)
        obtain ⟨x, hx⟩ : ∃ x, x = nth xs k := ⟨_, rfl⟩
        obtain ⟨y, hy⟩ : ∃ y, y = nth ys k := ⟨_, rfl⟩
        rw [← hx] at ca' wx
        rw [← hy] at cb' wy
        unfold fl at ca' cb'
        have HXX := hide hx
        have HYY := hide hy
        clear hx hy
        by_cases hke : keyN x = keyN y
        · have t2 : ((keyN x : Int) == (keyN y : Int)) = true := beq_iff_eq.2 (by omega)
          have HKE := hide hke
          clear hke
          go_wp2_with fail
          go_quiet ((go_at_call 22; exact quiet_left (rsame_any x y wx.out wy.out _)))
          go_wp2_with fail
          go_roundw
          case rel =>
            refine ⟨k + 1, by go_num, by omega, hide (fun i hi => ?_), HQ.out.step nq⟩
            by_cases hik : i < k
            · exact HK.out i hik
            · obtain rfl : i = k := by omega
              unfold K; rw [← HXX.out, ← HYY.out, HKE.out]
          case measure => simp [intOf]; omega
        · have t2 : ((keyN x : Int) == (keyN y : Int)) = false := beq_eq_false_iff_ne.2 (by omega)
          have HKE := hide hke
          clear hke
          go_wp2_with fail
          go_quiet ((go_at_call 22; exact quiet_left (rsame_any x y wx.out wy.out _)))
          go_wp2_with fail
          go_ret
          have hf : sameL xs ys = false := by
            unfold sameL
            refine decide_eq_false (fun h => HKE.out ?_)
            have := h.2 k (by rw [lx.out]; exact hkn)
            unfold K at this; rw [← HXX.out, ← HYY.out] at this; exact this
          exact ⟨by rw [hf]; rfl, HQ.out.step nq⟩
      · have hkz : ¬ (k : Int) < (n : Int) := by omega
        have hke : Hid (k = n) := by show _ = _; omega
        go_wp2_with fail
        go_ret
        have hf : sameL xs ys = true := by
          unfold sameL
          refine decide_eq_true ⟨by rw [lx.out, ly.out]; exact HNM.out, fun i hi => HK.out i (by rw [lx.out] at hi; rw [hke.out]; exact hi)⟩
        exact ⟨by rw [hf]; rfl, HQ.out⟩
  · have t1 : ((n : Int) != (m : Int)) = true := by rw [bne_iff_ne]; omega
    have HNM := hide hnm
    clear hnm
    go_enter Try.func12, Try.ntmps12
    go_wp2_with fail
    go_ret
    have hf : sameL xs ys = false := by
      unfold sameL
      exact decide_eq_false (fun h => HNM.out (by rw [← lx.out, ← ly.out]; exact h.1))
    exact ⟨by rw [hf]; rfl, Drw.refl _⟩
end Go.Proofs.Ytfopmdnpjokjcaa
