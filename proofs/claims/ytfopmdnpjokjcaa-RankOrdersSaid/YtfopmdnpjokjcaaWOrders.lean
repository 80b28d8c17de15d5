import Derived.Test.YtfopmdnpjokjcaaLive
namespace Go.Proofs.Ytfopmdnpjokjcaa
open Go.RowKit Plain

theorem sameL_self (xs : List Nat) : sameL xs xs = true := decide_eq_true ⟨rfl, fun _ _ => rfl⟩
theorem sameL_up {xs ys zs : List Nat} {n : Nat} (l1 : ys.length = n) (l2 : zs.length = n) (p1 : ys.Perm xs) (p2 : zs.Perm xs) (u1 : Up 0 n ys) (u2 : Up 0 n zs) : sameL ys zs = true := by
  have e := up_keys (xs := ys) (ys := zs) (by rw [l1]; exact u1) (by rw [l2]; exact u2) (p1.trans p2.symm)
  refine decide_eq_true ⟨by omega, fun i hi => ?_⟩
  have h1 : (ys.map keyN)[i]? = (zs.map keyN)[i]? := by rw [e]
  rw [List.getElem?_map, List.getElem?_map, List.getElem?_eq_getElem hi, List.getElem?_eq_getElem (show i < zs.length by omega)] at h1
  unfold K
  rw [nth_lt hi, nth_lt (show i < zs.length by omega)]
  simpa using h1

theorem SRow.below {w0 w : World} {g : Nat} {xs : List Nat} (h : SRow w0 w g xs) {B : Nat} (hB : B ≤ g) (hs : B ≤ w0.heap.size) : Below B w0 w :=
  ((Below.refl B w0).grown h.2 hs (fun k hk => by injection hk; omega))

attribute [local go_sem] run_store_fl

set_option maxHeartbeats 1000000 in
theorem ordersW (w : World) (A : Option Addr) (n c : Nat) (xs : List Nat) (hr : FR w A n xs) (hw : Words xs) :
    Calls Try.prog 3 #[.slice A n c] w fun e w' => e = .returned (.bool true) ∧ Below w.heap.size w w' := by
  obtain ⟨i0, hi0, hz0, hz1, hz2⟩ := info_parts fl_info
  have HR := hide hr
  have HW := hide hw
  clear hr hw
  by_cases hn : n ≤ 100
  · have hnz : ¬ (100 : Int) < (n : Int) := by omega
    go_enter Try.func3, Try.ntmps3
    go_wp2_with fail
    refine (live_any _).mono ?_
    rintro e w1 ⟨rfl, hb1⟩
    have B1 := hide hb1
    have R1 := hide (FR.below HR.out hb1)
    have H1 := hide (one_fl xs)
    have O0 : Hid (w1.ownsRow w1.heap.size 26 1 (.slice none 0 0) 0 []) := ⟨rfl, .inl ⟨rfl, rfl⟩⟩
    clear hb1
    go_wp2_with (at_builtin; refine wpList_append_any _ rfl (.const (.slice none 0 0)) (.tmp 13) _ rfl w1.heap.size 26 i0 _ 1 8 Try.underlying22 hi0 hz0 hz1 hz2 rfl (by omega) (.slice none 0 0) 0 [] rfl O0.out w1.heap.size A n c (xs.map fl) rfl R1.out H1.out (by simp only [maxLen]; omega) (by omega) (Nat.le_refl _) ?_; intro v2 w2 hown2 hg2 _hat2)
    have hb2 : Below w1.heap.size w1 w2 := (Below.refl _ _).grown hg2 (Nat.le_refl _) (fun k hk => by simp [Value.ownBlock] at hk)
    simp only [Nat.zero_add, List.nil_append] at hown2
    obtain ⟨A2, c2, rfl, ho2⟩ := Own.of_row hown2
    have B2 := hide (B1.out.trans (hb2.mono B1.out.size))
    have R2 := hide (FR.below R1.out hb2)
    have O2 := hide ho2
    clear hown2 hg2 hb2 ho2 O0
    refine (order_any w2 A n c xs R2.out HW.out (by omega)).mono ?_
    rintro e w3 ⟨A3, c3, ys, rfl, hb3, ho3, hp3, hu3⟩
    have C3 := hide hb3
    have R3 := hide (FR.below R2.out hb3)
    have O3 := hide ho3
    have P3 := hide hp3
    have U3 := hide hu3
    clear hb3 ho3 hp3 hu3
    go_wp2_with fail
    refine (rorder_any w3 A n c xs R3.out HW.out (by omega)).mono ?_
    rintro e w4 ⟨A4, c4, zs, rfl, hb4, ho4, hp4, hu4⟩
    have C4 := hide (C3.out.trans (hb4.mono C3.out.size))
    have O34 := hide (O3.out.below hb4)
    have O4 := hide ho4
    have P4 := hide hp4
    have U4 := hide hu4
    clear hb4 ho4 hp4 hu4
    go_wp2_with fail
    refine (sameList_any w4 A3 A4 n n c3 c4 ys zs O34.out.reads O4.out.reads (HW.out.perm P3.out) (HW.out.perm P4.out) (by omega)).mono ?_
    rintro e w5 ⟨rfl, hd5⟩
    have hs1 := sameL_up O3.out.1 O4.out.1 P3.out P4.out U3.out U4.out
    have D5 := hide hd5
    clear hd5
    rw [hs1]
    clear hs1
    have C5 := hide (C4.out.trans (D5.out.below _))
    have O35 := hide (O34.out.below (D5.out.below _))
    clear B1 R1 R3 O3 O34 O4 P3 P4 U3 U4 D5 C3 C4
    by_cases h0 : n = 0
    · subst h0
      go_wp2_with fail
      go_loop [23] (fun v => v = .int .i64 0) (fun _ => 0)
      case atStart => rfl
      case round =>
        obtain rfl := hrel
        have R6 : Hid (FR w5 A 0 xs) := (Reads.below R2.out C5.out).more C5.out.size
        have O26 : Hid (FR w5 A2 0 xs) := (Reads.below O2.out.reads C5.out).more C5.out.size
        go_wp2_with fail
        refine (sameList_any w5 A A2 0 0 c c2 xs xs R6.out O26.out HW.out HW.out (by omega)).mono ?_
        rintro e w7 ⟨rfl, hd7⟩
        rw [sameL_self]
        go_wp2_with fail
        go_ret
        exact ⟨rfl, (B2.out.trans (C5.out.mono B2.out.size)).trans (hd7.below _)⟩
    · obtain ⟨g, tail, rfl, hg, hh⟩ := O35.out.2 (by omega)
      have hS : SRow w5 w5 g ys := ⟨⟨tail, hh⟩, World.grownBy.refl _ _⟩
      have HS := hide hS
      have hyl := hide O35.out.1
      clear hS hh
      go_wp2_with fail
      go_loopw [23] (fun v wr => ∃ (k : Nat) (vs : List Nat), v = .int .i64 k ∧ k ≤ n ∧ Hid (SRow w5 wr g vs) ∧ Hid (vs.length = n)) (fun v _ => n - (intOf v).toNat)
      case atStart => exact ⟨0, ys, rfl, by omega, HS, hyl⟩
      case round =>
        clear HS hyl
        obtain ⟨k, vs, rfl, hk, HS, hvl⟩ := hrel
        by_cases hkn : k < n
        · have hkz : (k : Int) < (n : Int) := by omega
          have ca := HS.out.cell k (by rw [hvl.out]; exact hkn)
          have fa := HS.out.frozen k
          unfold fl at ca
          go_wp2_with fail
          go_roundw
          case rel => exact ⟨k + 1, vs.set k 4619567317775286272, by go_num, by omega, HS.out.set_ k _ (by rw [hvl.out]; exact hkn), by show _ = _; rw [List.length_set]; exact hvl.out⟩
          case measure => simp [intOf]; omega
        · have hkz : ¬ (k : Int) < (n : Int) := by omega
          have hb6 : Below w2.heap.size w5 wr := HS.out.below hg C5.out.size
          have C6 := hide (C5.out.trans hb6)
          clear hb6
          have R6 : Hid (FR wr A n xs) := (Reads.below R2.out C6.out).more C6.out.size
          have O26 : Hid (FR wr A2 n xs) := (Reads.below O2.out.reads C6.out).more C6.out.size
          go_wp2_with fail
          refine (sameList_any wr A A2 n n c c2 xs xs R6.out O26.out HW.out HW.out (by omega)).mono ?_
          rintro e w7 ⟨rfl, hd7⟩
          rw [sameL_self]
          go_wp2_with fail
          go_ret
          exact ⟨rfl, (B2.out.trans (C6.out.mono B2.out.size)).trans (hd7.below _)⟩
  · have hnz : (100 : Int) < (n : Int) := by omega
    go_enter Try.func3, Try.ntmps3
    go_wp2_with fail
    refine (live_any _).mono ?_
    rintro e w1 ⟨rfl, hb1⟩
    go_wp2_with fail
    go_ret
    exact ⟨rfl, hb1⟩
end Go.Proofs.Ytfopmdnpjokjcaa
