import Derived.Test.YtbfagfnclgfmhaaWBack
namespace Go.Proofs.Ytbfagfnclgfmhaa
set_option linter.unusedVariables false
open Go.RowKit

theorem rcheck_is (w : World) (A : Option Addr) (n c : Nat) (ps : List Pin) (x : Int) (h : chk ps = x) (hr : PR w A n ps) (hn : n ≤ 1000) :
    Calls Try.prog 20 #[.slice A n c] w fun e w' => e = .returned (.int .i64 x) ∧ Below w.heap.size w w' :=
  (rcheck_any w A n c ps hr hn).mono fun _ _ hh => by rw [h] at hh; exact hh
theorem rmany_is (w : World) (A : Option Addr) (n c : Nat) (ps : List Pin) (gen : Nat) (m x : Int) (h : manyS ps gen = (m, x)) (hr : PR w A n ps) (hn : n ≤ 1000) :
    Calls Try.prog 17 #[.slice A n c, .int .u64 gen] w fun e w' => e = .returned (.tuple #[.int .i64 m, .int .i64 x]) ∧ Below w.heap.size w w' :=
  (rmany_any w A n c ps gen hr hn).mono fun _ _ hh => by rw [h] at hh; exact hh
theorem least_is (w : World) (A : Option Addr) (n c : Nat) (ps : List Pin) (m : Nat) (x : Int) (h : leastS ps = (m, x)) (hr : PR w A n ps) (hn : n ≤ 1000) :
    Calls Try.prog 12 #[.slice A n c] w fun e w' => e = .returned (.tuple #[.int .u64 m, .int .i64 x]) ∧ Below w.heap.size w w' :=
  (least_any w A n c ps hr hn).mono fun _ _ hh => by rw [h] at hh; exact hh
theorem rleast_is (w : World) (A : Option Addr) (n c : Nat) (ps : List Pin) (m : Nat) (x : Int) (h : leastS ps = (m, x)) (hr : PR w A n ps) (hn : n ≤ 1000) :
    Calls Try.prog 18 #[.slice A n c] w fun e w' => e = .returned (.tuple #[.int .u64 m, .int .i64 x]) ∧ Below w.heap.size w w' :=
  (rleast_any w A n c ps hr hn).mono fun _ _ hh => by rw [h] at hh; exact hh

/-- Kept where another block grows. -/
theorem Own.other {base : Nat} {w w' : World} {A : Option Addr} {n c g : Nat} {ps : List Pin} (h : Own base w A n c ps) (hg : w.grownBy w' (some g)) (hne : g < base) : Own base w' A n c ps := by
  refine ⟨h.1, ?_⟩
  rcases h.2 with h0 | ⟨k, cap, cur, e, hk, hh, h3⟩
  · exact .inl h0
  · exact .inr ⟨k, cap, cur, e, hk, (hg.block k (Array.getElem?_eq_some_iff.1 hh).1 (fun e => by injection e with e; omega)).trans hh, h3⟩

def Low (k : Nat) (ps : List Pin) : Prop := ∀ i, k ≤ i → i < ps.length → 0 ≤ (nth ps i).2 ∧ (nth ps i).2 ≤ 64
theorem Low.open (ps : List Pin) (gen : Nat) : Low 0 (openS ps gen).1 := by
  intro i _ hi
  rcases open_cases ps gen with ⟨h, _⟩ | ⟨_, h⟩
  · rw [h] at hi; simp at hi
  · have := h.good'.one i hi; have := h.good'.max i hi; omega
theorem Low.close (ps : List Pin) (gen : Nat) : Low 0 (closeS ps gen).1 := by
  intro i _ hi
  rcases close_cases ps gen with ⟨h, _⟩ | ⟨_, h⟩
  · rw [h] at hi; simp at hi
  · have := h.good'.one i hi; have := h.good'.max i hi; omega
theorem nth_set_ne {ps : List Pin} {i j : Nat} (x : Pin) (h : i ≠ j) : nth (ps.set i x) j = nth ps j := by
  unfold nth
  rw [List.getD_eq_getElem?_getD, List.getElem?_set_ne h, ← List.getD_eq_getElem?_getD]
theorem Low.set {k : Nat} {ps : List Pin} (h : Low k ps) (x : Pin) : Low (k + 1) (ps.set k x) := by
  intro i h1 h2
  rw [nth_set_ne x (by omega)]
  exact h i (by omega) (by simpa using h2)


theorem app_all {base : Nat} {w1 : World} {n : Nat} {ps : List Pin} {v : Value} (hown : w1.ownsRow base 41 2 v (0 + n) (pcs [] ++ pcs ps)) :
    ∃ A' c', v = .slice A' n c' ∧ Own base w1 A' n c' ps := by
  rw [← pcs_append, Nat.zero_add, List.nil_append] at hown
  rcases hown.2 with ⟨rfl, h0⟩ | ⟨g, cap, cur, rfl, _⟩
  · have h0 := h0
    subst h0
    exact ⟨_, _, rfl, hown⟩
  · exact ⟨_, _, rfl, hown⟩
theorem only_some {a w : World} (h : a.grownBy w ((Value.slice none 0 0).ownBlock)) : Below a.heap.size a w :=
  (Below.refl _ _).grown h (Nat.le_refl _) (fun k hk => by simp [Value.ownBlock] at hk)
theorem sep {base B : Nat} {w w' : World} {A A3 : Option Addr} {n c n3 c3 : Nat} {ps cs : List Pin} (h : Own base w A n c ps) (k : Own w.heap.size w' A3 n3 c3 cs) (hb : B ≤ w.heap.size) :
    ∃ b3, (∀ q, (Value.slice A n c).ownBlock = some q → q < b3) ∧ B ≤ b3 ∧ Own b3 w' A3 n3 c3 cs := ⟨_, fun q hq => (World.ownsRow.lt h q hq).2, hb, k⟩

set_option maxRecDepth 100000 in
set_option maxHeartbeats 4000000 in
theorem doesW (w : World) (A : Option Addr) (n c : Nat) (ps : List Pin) (B : Option Addr) (m d : Nat) (qs : List Pin) (gen : Nat) (hr : PR w A n ps) (hq : PR w B m qs) :
    Calls Try.prog 7 #[.slice A n c, .slice B m d, .int .u64 gen] w fun e w' => e = .returned (.bool true) ∧ Below w.heap.size w w' := by
  obtain ⟨i0, hi0, hz0, hz1, hz2⟩ := info_parts pin_info
  have H1 := hide (one_pin ps)
  have HR := hide hr
  have HQ := hide hq
  clear hr hq
  by_cases hn : n ≤ 70
  · have t1 : decide ((70 : Int) < (n : Int)) = false := decide_eq_false (by omega)
    by_cases hm : m ≤ 70
    · have hn0 : n ≤ 1000 := by omega
      have hm0 : m ≤ 1000 := by omega
      have t2 : decide ((70 : Int) < (m : Int)) = false := decide_eq_false (by omega)
      have LA := hide (Low.open ps gen)
      have LC := hide (Low.close ps gen)
      obtain ⟨xs1, e1, HOa⟩ : ∃ xs1 e1, Hid (openS ps gen = (xs1, e1)) := ⟨_, _, rfl⟩
      obtain ⟨xs3, e2, HOc⟩ : ∃ xs3 e2, Hid (closeS ps gen = (xs3, e2)) := ⟨_, _, rfl⟩
      obtain ⟨mm, e3, HMM⟩ : ∃ mm e3, Hid (manyS ps gen = (mm, e3)) := ⟨_, _, rfl⟩
      obtain ⟨ll, e4, HLL⟩ : ∃ ll e4, Hid (leastS ps = (ll, e4)) := ⟨_, _, rfl⟩
      obtain ⟨ck, HCK⟩ : ∃ ck, Hid (chk ps = ck) := ⟨_, rfl⟩
      obtain ⟨eq, HEQ⟩ : ∃ eq, Hid (decide (ps = qs) = eq) := ⟨_, rfl⟩
      rw [HOa.out] at LA
      rw [HOc.out] at LC
      go_enter Try.func7, Try.ntmps7
      go_wp2_with (first
        | (go_at_call 8; refine (live_any _).mono ?_; rintro e w1 ⟨rfl, hb⟩; replace HR := hide (HR.out.below hb); replace HQ := hide (HQ.out.below hb); have HB0 := hide hb; clear hb)
        | (at_builtin; refine wpList_append_any _ rfl (.const (.slice none 0 0)) (.tmp 38) _ rfl w.heap.size 41 i0 _ 2 16 Try.underlying24 hi0 hz0 hz1 hz2 rfl (by omega) (.slice none 0 0) 0 (pcs []) rfl (Own.nil _ _) _ A n c (pcs ps) rfl HR.out H1.out (by simp only [maxLen]; omega) (by omega) HB0.out.size ?_; intro v1 wo hown1 hg1 hat1; obtain ⟨A0, c0, rfl, ho1⟩ := app_all hown1; have hb := only_some hg1; replace HR := hide (HR.out.below hb); replace HQ := hide (HQ.out.below hb); replace HB0 := hide (Below.then HB0.out hb); have HW := hide ho1.reads; have HB := hide (Below.refl wo.heap.size wo); clear hown1 hg1 hat1 ho1 hb)
        | (go_at_call 9; (with_reducible refine (open_is _ A n c ps gen _ _ HOa.out (HR.out.below HB.out) hn0).mono ?_); rintro e w2 ⟨A1, n1, c1, rfl, ho, hl1, hn1, hb⟩; have HL1 := hide hl1; have HA := hide (ho.mono HB.out.size); replace HB := hide (Below.then HB.out hb); clear ho hb hl1)
        | (go_at_call 15; (with_reducible refine (ropen_is _ A n c ps gen _ _ HOa.out (HR.out.below HB.out) hn0).mono ?_); rintro e w2 ⟨A2, n2, c2, rfl, ho, _, hn2, hb⟩; (try replace HA := hide (HA.out.below hb)); (try replace HX := hide (HX.out.below hb)); (try replace HC := hide (HC.out.below hb)); (try replace HY := hide (HY.out.below hb)); replace HB := hide (Below.then HB.out hb); clear hb; have HX := hide ho.reads; clear ho)
        | (go_at_call 11; (with_reducible refine (close_is _ A n c ps gen _ _ HOc.out (HR.out.below HB.out) hn0).mono ?_); rintro e w2 ⟨A3, n3, c3, rfl, ho, hl3, hn3, hb⟩; have HL3 := hide hl3; obtain ⟨b3, hs, hb3, ho3⟩ := sep HA.out ho HB.out.size; (try replace HA := hide (HA.out.below hb)); (try replace HX := hide (HX.out.below hb)); (try replace HC := hide (HC.out.below hb)); (try replace HY := hide (HY.out.below hb)); replace HB := hide (Below.then HB.out hb); clear hb; have HC := hide ho3; have HS := hide hs; clear ho ho3 hs hl3)
        | (go_at_call 16; (with_reducible refine (rclose_is _ A n c ps gen _ _ HOc.out (HR.out.below HB.out) hn0).mono ?_); rintro e w2 ⟨A4, n4, c4, rfl, ho, _, hn4, hb⟩; (try replace HA := hide (HA.out.below hb)); (try replace HX := hide (HX.out.below hb)); (try replace HC := hide (HC.out.below hb)); (try replace HY := hide (HY.out.below hb)); replace HB := hide (Below.then HB.out hb); clear hb; have HY := hide ho.reads; clear ho)
        | (go_at_call 10; (with_reducible refine (many_is _ A n c ps gen _ _ HMM.out (HR.out.below HB.out) hn0).mono ?_); rintro e w2 ⟨rfl, hb⟩; (try replace HA := hide (HA.out.below hb)); (try replace HX := hide (HX.out.below hb)); (try replace HC := hide (HC.out.below hb)); (try replace HY := hide (HY.out.below hb)); replace HB := hide (Below.then HB.out hb); clear hb)
        | (go_at_call 17; (with_reducible refine (rmany_is _ A n c ps gen _ _ HMM.out (HR.out.below HB.out) hn0).mono ?_); rintro e w2 ⟨rfl, hb⟩; (try replace HA := hide (HA.out.below hb)); (try replace HX := hide (HX.out.below hb)); (try replace HC := hide (HC.out.below hb)); (try replace HY := hide (HY.out.below hb)); replace HB := hide (Below.then HB.out hb); clear hb)
        | (go_at_call 12; (with_reducible refine (least_is _ A n c ps _ _ HLL.out (HR.out.below HB.out) hn0).mono ?_); rintro e w2 ⟨rfl, hb⟩; (try replace HA := hide (HA.out.below hb)); (try replace HX := hide (HX.out.below hb)); (try replace HC := hide (HC.out.below hb)); (try replace HY := hide (HY.out.below hb)); replace HB := hide (Below.then HB.out hb); clear hb)
        | (go_at_call 18; (with_reducible refine (rleast_is _ A n c ps _ _ HLL.out (HR.out.below HB.out) hn0).mono ?_); rintro e w2 ⟨rfl, hb⟩; (try replace HA := hide (HA.out.below hb)); (try replace HX := hide (HX.out.below hb)); (try replace HC := hide (HC.out.below hb)); (try replace HY := hide (HY.out.below hb)); replace HB := hide (Below.then HB.out hb); clear hb)
        | (go_at_call 19; (with_reducible refine (rsame_self _ A1 A2 n1 n2 c1 c2 xs1 HA.out.reads HX.out hn1).mono ?_); rintro e w2 ⟨rfl, hb⟩; (try replace HA := hide (HA.out.below hb)); (try replace HX := hide (HX.out.below hb)); (try replace HC := hide (HC.out.below hb)); (try replace HY := hide (HY.out.below hb)); replace HB := hide (Below.then HB.out hb); clear hb)
        | (go_at_call 19; (with_reducible refine (rsame_self _ A3 A4 n3 n4 c3 c4 xs3 HC.out.reads HY.out hn3).mono ?_); rintro e w2 ⟨rfl, hb⟩; (try replace HA := hide (HA.out.below hb)); (try replace HX := hide (HX.out.below hb)); (try replace HC := hide (HC.out.below hb)); (try replace HY := hide (HY.out.below hb)); replace HB := hide (Below.then HB.out hb); clear hb)
        | (go_at_call 14; (with_reducible refine (check_is _ A n c ps _ HCK.out (HR.out.below HB.out) hn0).mono ?_); rintro e w2 ⟨rfl, hb⟩; (try replace HA := hide (HA.out.below hb)); (try replace HX := hide (HX.out.below hb)); (try replace HC := hide (HC.out.below hb)); (try replace HY := hide (HY.out.below hb)); replace HB := hide (Below.then HB.out hb); clear hb)
        | (go_at_call 20; (with_reducible refine (rcheck_is _ A n c ps _ HCK.out (HR.out.below HB.out) hn0).mono ?_); rintro e w2 ⟨rfl, hb⟩; (try replace HA := hide (HA.out.below hb)); (try replace HX := hide (HX.out.below hb)); (try replace HC := hide (HC.out.below hb)); (try replace HY := hide (HY.out.below hb)); replace HB := hide (Below.then HB.out hb); clear hb)
        | (go_at_call 13; (with_reducible refine (same_is _ A B n m c d ps qs eq HEQ.out (HR.out.below HB.out) (HQ.out.below HB.out) hn0).mono ?_); rintro e w2 ⟨rfl, hb⟩; (try replace HA := hide (HA.out.below hb)); (try replace HX := hide (HX.out.below hb)); (try replace HC := hide (HC.out.below hb)); (try replace HY := hide (HY.out.below hb)); replace HB := hide (Below.then HB.out hb); clear hb)
        | (go_at_call 19; (with_reducible refine (rsame_is _ A B n m c d ps qs eq HEQ.out (HR.out.below HB.out) (HQ.out.below HB.out) hn0).mono ?_); rintro e w2 ⟨rfl, hb⟩; (try replace HA := hide (HA.out.below hb)); (try replace HX := hide (HX.out.below hb)); (try replace HC := hide (HC.out.below hb)); (try replace HY := hide (HY.out.below hb)); replace HB := hide (Below.then HB.out hb); clear hb))
      go_loopw [142] (fun v wr => ∃ (k : Nat) (zs : List Pin), v = .int .i64 k ∧ k ≤ n1 ∧ Hid (zs.length = n1) ∧ Hid (Low k zs) ∧ Hid (Own wo.heap.size wr A1 n1 c1 zs) ∧ Hid (Own b3 wr A3 n3 c3 xs3) ∧ Hid (Below wo.heap.size wo wr)) (fun v _ => n1 - (intOf v).toNat)
      case atStart => exact ⟨0, xs1, rfl, by omega, HL1, LA, HA, HC, HB⟩
      case round =>
        obtain ⟨k, zs, rfl, hk, HZ, HLO, HO, HC, HB⟩ := hrel
        by_cases hkn : k < n1
        · have hkz : (k : Int) < (n1 : Int) := by omega
          obtain ⟨g, hg⟩ := HO.out.addr (by omega : 0 < n1)
          subst hg
          obtain ⟨d0, d1⟩ := HO.out.at k hkn
          have g1 := HO.out.froz (k * 2 + 1)
          obtain ⟨v0, hv⟩ : ∃ v0, (nth zs k).2 = v0 := ⟨_, rfl⟩
          have hlo := HLO.out k (Nat.le_refl _) (by rw [HZ.out]; exact hkn)
          rw [hv] at d1 hlo
          clear hv
          have hw1 : IntKind.i64.wrap (v0 + 1) = v0 + 1 := by rw [IntKind.wrap_i64]; omega
          have hlo1 := hlo.1
          have hlo2 := hlo.2
          clear hlo
          go_wp2_with fail
          go_roundw
          case rel =>
            obtain ⟨h1, h2⟩ := HO.out.bump k hkn (v0 + 1)
            have hlt := HO.out.lt
            exact ⟨k + 1, _, by go_num, by omega, hide (by rw [List.length_set]; exact HZ.out), hide (HLO.out.set _), hide h1, hide (HC.out.other h2 (HS.out g rfl)), hide (HB.out.grown h2 HB.out.size (fun q hq => by injection hq with hq; omega))⟩
          case measure => simp [intOf]; omega
        · have hkz : ¬ (k : Int) < (n1 : Int) := by omega
          go_wp2_with fail
          go_loopw [156] (fun v wr => ∃ (k : Nat) (zs : List Pin), v = .int .i64 k ∧ k ≤ n3 ∧ Hid (zs.length = n3) ∧ Hid (Low k zs) ∧ Hid (Own b3 wr A3 n3 c3 zs) ∧ Hid (Below wo.heap.size wo wr)) (fun v _ => n3 - (intOf v).toNat)
          case atStart => exact ⟨0, xs3, rfl, by omega, HL3, LC, HC, HB⟩
          case round =>
            obtain ⟨k, zs, rfl, hk, HZ, HLO, HO, HB⟩ := hrel
            by_cases hkn : k < n3
            · have hkz : (k : Int) < (n3 : Int) := by omega
              obtain ⟨g, hg⟩ := HO.out.addr (by omega : 0 < n3)
              subst hg
              obtain ⟨d0, d1⟩ := HO.out.at k hkn
              have g1 := HO.out.froz (k * 2 + 1)
              obtain ⟨v0, hv⟩ : ∃ v0, (nth zs k).2 = v0 := ⟨_, rfl⟩
              have hlo := HLO.out k (Nat.le_refl _) (by rw [HZ.out]; exact hkn)
              rw [hv] at d1 hlo
              clear hv
              have hw1 : IntKind.i64.wrap (v0 + 1) = v0 + 1 := by rw [IntKind.wrap_i64]; omega
              have hlo1 := hlo.1
              have hlo2 := hlo.2
              clear hlo
              go_wp2_with fail
              go_roundw
              case rel =>
                obtain ⟨h1, h2⟩ := HO.out.bump k hkn (v0 + 1)
                have hlt := HO.out.lt
                exact ⟨k + 1, _, by go_num, by omega, hide (by rw [List.length_set]; exact HZ.out), hide (HLO.out.set _), hide h1, hide (HB.out.grown h2 HB.out.size (fun q hq => by injection hq with hq; omega))⟩
              case measure => simp [intOf]; omega
            · have hkz : ¬ (k : Int) < (n3 : Int) := by omega
              go_wp2_with (first | (go_at_call 19; (with_reducible refine (rsame_self _ A A0 n n c c0 ps (HR.out.below HB.out) (HW.out.below HB.out) hn0).mono ?_); rintro e w2 ⟨rfl, hb⟩; replace HB := hide (Below.then HB.out hb); clear hb))
              go_ret
              exact ⟨rfl, Below.then HB0.out HB.out⟩
    · have t2 : decide ((70 : Int) < (m : Int)) = true := decide_eq_true (by omega)
      go_enter Try.func7, Try.ntmps7
      go_wp2_with (first | (go_at_call 8; refine (live_any _).mono ?_; rintro e w1 ⟨rfl, hb⟩; have HB1 := hide hb; clear hb))
      go_ret
      exact ⟨rfl, HB1.out⟩
  · have t1 : decide ((70 : Int) < (n : Int)) = true := decide_eq_true (by omega)
    go_enter Try.func7, Try.ntmps7
    go_wp2_with (first | (go_at_call 8; refine (live_any _).mono ?_; rintro e w1 ⟨rfl, hb⟩; have HB1 := hide hb; clear hb))
    go_ret
    exact ⟨rfl, HB1.out⟩
end Go.Proofs.Ytbfagfnclgfmhaa
