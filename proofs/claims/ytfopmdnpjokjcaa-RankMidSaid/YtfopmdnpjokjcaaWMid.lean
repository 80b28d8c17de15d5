import Derived.Test.YtfopmdnpjokjcaaPMid
import Derived.Test.YtfopmdnpjokjcaaWDoes
namespace Go.Proofs.Ytfopmdnpjokjcaa
open Go.RowKit Plain

theorem mids_keys {a b r s : Nat} (h1 : ∀ m, midN a b = some m → r = m) (h2 : midN a b = none → isNaN r = true)
    (h3 : ∀ m, midN b a = some m → s = m) (h4 : midN b a = none → isNaN s = true) : ((keyN r : Int) == (keyN s : Int)) = true := by
  rw [midN_comm b a] at h3 h4
  exact mids_same h1 h2 h3 h4

set_option maxHeartbeats 4000000 in
theorem midW (w : World) (a b : Nat) (ha : a < 18446744073709551616) (hb : b < 18446744073709551616) :
    Calls Try.prog 9 #[.float .f64 a, .float .f64 b] w fun e w' => e = .returned (.bool true) ∧ Below w.heap.size w w' := by
  have HA := hide ha
  have HB := hide hb
  cases na : isNaN a with
  | true =>
    have s1 := order_self a
    rw [na] at s1
    have HM := hide (midN_nan_left b na)
    clear ha hb
    go_enter Try.func9, Try.ntmps9
    go_wp2_with (first | (go_at_call 10; refine (live_any _).mono ?_; rintro e w1 ⟨rfl, hb1⟩; have B1 := hide hb1; clear hb1))
    refine (mid_any a b _).mono ?_; rintro e w' ⟨r, nq, rfl, rfl, hr, hm1, hm2⟩; have HR := hide hr; have sr := order_self r; rw [hm2 HM.out] at sr; have HM1 := hide hm1; have HM2 := hide hm2; clear hr hm1 hm2
    go_wp2_with fail
    refine (mid_any b a _).mono ?_; rintro e w' ⟨s, np, rfl, rfl, hr, hm1, hm2⟩; have HS := hide hr; have tq := mids_keys HM1.out HM2.out hm1 hm2; clear hr hm1 hm2
    go_wp2_with (first | (go_at_call 16; refine (same_any _ _ HR.out HS.out _).mono ?_; rintro e w' ⟨rfl, rfl⟩))
    go_ret
    exact ⟨rfl, below_drawn _ B1.out⟩
  | false =>
    cases nb : isNaN b with
    | true =>
      have s0 := order_self a
      have s1 := order_self b
      rw [na] at s0
      rw [nb] at s1
      have HM := hide (midN_nan_right a nb)
      clear ha hb
      go_enter Try.func9, Try.ntmps9
      go_wp2_with (first | (go_at_call 10; refine (live_any _).mono ?_; rintro e w1 ⟨rfl, hb1⟩; have B1 := hide hb1; clear hb1))
      refine (mid_any a b _).mono ?_; rintro e w' ⟨r, nq, rfl, rfl, hr, hm1, hm2⟩; have HR := hide hr; have sr := order_self r; rw [hm2 HM.out] at sr; have HM1 := hide hm1; have HM2 := hide hm2; clear hr hm1 hm2
      go_wp2_with fail
      refine (mid_any b a _).mono ?_; rintro e w' ⟨s, np, rfl, rfl, hr, hm1, hm2⟩; have HS := hide hr; have tq := mids_keys HM1.out HM2.out hm1 hm2; clear hr hm1 hm2
      go_wp2_with (first | (go_at_call 16; refine (same_any _ _ HR.out HS.out _).mono ?_; rintro e w' ⟨rfl, rfl⟩))
      go_ret
      exact ⟨rfl, below_drawn _ B1.out⟩
    | false =>
      have s0 := order_self a
      have s1 := order_self b
      rw [na] at s0
      rw [nb] at s1
      by_cases hi : isInf a = true ∧ isInf b = true
      · obtain ⟨ia, ib⟩ := hi
        have ho := order_eql_infs ha hb ia ib
        have hm := midN_infs ha hb ia ib
        by_cases hs : sgn a = sgn b
        · rw [decide_eq_true hs] at ho
          rw [if_pos hs] at hm
          have HM := hide hm
          have s2 := order_self_eq a
          rw [na] at s2
          clear ha hb hm hs
          go_enter Try.func9, Try.ntmps9
          go_wp2_with (first | (go_at_call 10; refine (live_any _).mono ?_; rintro e w1 ⟨rfl, hb1⟩; have B1 := hide hb1; clear hb1))
          refine (mid_any a b _).mono ?_; rintro e w' ⟨r, nq, rfl, rfl, hr, hm1, hm2⟩; have HR := hide hr; have er := hm1 a HM.out; subst r; have HM1 := hide hm1; have HM2 := hide hm2; clear hr hm1 hm2
          go_wp2_with fail
          refine (mid_any b a _).mono ?_; rintro e w' ⟨s, np, rfl, rfl, hr, hm1, hm2⟩; have HS := hide hr; have tq := mids_keys HM1.out HM2.out hm1 hm2; clear hr hm1 hm2
          go_wp2_with (first | (go_at_call 16; refine (same_any _ _ HA.out HS.out _).mono ?_; rintro e w' ⟨rfl, rfl⟩) | (go_at_call 26; refine (isInf_any _ (by first | exact HA.out | exact HB.out) _).mono ?_; rintro e w' ⟨rfl, rfl⟩))
          go_ret
          exact ⟨rfl, below_drawn _ B1.out⟩
        · rw [decide_eq_false hs] at ho
          rw [if_neg hs] at hm
          have HM := hide hm
          have ho' : (FloatKind.f64.format.order a b != some .eq) = true := by
            unfold bne; rw [ho]; rfl
          clear ha hb hm hs
          go_enter Try.func9, Try.ntmps9
          go_wp2_with (first | (go_at_call 10; refine (live_any _).mono ?_; rintro e w1 ⟨rfl, hb1⟩; have B1 := hide hb1; clear hb1))
          refine (mid_any a b _).mono ?_; rintro e w' ⟨r, nq, rfl, rfl, hr, hm1, hm2⟩; have HR := hide hr; have sr := order_self r; rw [hm2 HM.out] at sr; have HM1 := hide hm1; have HM2 := hide hm2; clear hr hm1 hm2
          go_wp2_with fail
          refine (mid_any b a _).mono ?_; rintro e w' ⟨s, np, rfl, rfl, hr, hm1, hm2⟩; have HS := hide hr; have tq := mids_keys HM1.out HM2.out hm1 hm2; clear hr hm1 hm2
          go_wp2_with (first | (go_at_call 16; refine (same_any _ _ HR.out HS.out _).mono ?_; rintro e w' ⟨rfl, rfl⟩) | (go_at_call 26; refine (isInf_any _ (by first | exact HA.out | exact HB.out) _).mono ?_; rintro e w' ⟨rfl, rfl⟩))
          go_ret
          exact ⟨rfl, below_drawn _ B1.out⟩
      · have hia : (isInf a = false) ∨ (isInf a = true ∧ isInf b = false) := by
          cases h1 : isInf a
          · exact .inl rfl
          · cases h2 : isInf b
            · exact .inr ⟨rfl, rfl⟩
            · exact absurd ⟨h1, h2⟩ hi
        obtain ⟨mn, hn1, hn2, rmin⟩ := val_min na nb
        obtain ⟨mx, hx1, hx2, rmax⟩ := val_max na nb
        have hbt : (a % 9223372036854775808 = 0 ∨ 103582791429521408 ≤ a % 9223372036854775808) → (b % 9223372036854775808 = 0 ∨ 103582791429521408 ≤ b % 9223372036854775808) → ∀ r, (∀ m, midN a b = some m → r = m) →
            (FloatKind.f64.format.order mn r == some .lt || FloatKind.f64.format.order mn r == some .eq) = true ∧ (FloatKind.f64.format.order r mx == some .lt || FloatKind.f64.format.order r mx == some .eq) = true := by
          intro ca cb r hr
          obtain ⟨h1, h2, h3⟩ := mid_between ha hb na nb hi ca cb hr
          exact ⟨order_le hn1 h1 (by rw [hn2]; exact h2), order_le h1 hx1 (by rw [hx2]; exact h3)⟩
        have HBT := hide hbt
        have sa := small na
        have sb := small nb
        clear ha hb hbt hn1 hn2 hx1 hx2 hi na nb
        rcases hia with hia | ⟨hia, hib⟩
        · rcases sa with ⟨sa1, ca⟩ | ⟨sa1, sa2⟩ | ⟨sa1, sa2, ca⟩
          · rcases sb with ⟨sb1, cb⟩ | ⟨sb1, sb2⟩ | ⟨sb1, sb2, cb⟩
            · have HQ := hide (HBT.out (.inl ca) (.inl cb))
              clear ca cb HBT
              go_enter Try.func9, Try.ntmps9
              go_wp2_with (first | (go_at_call 10; refine (live_any _).mono ?_; rintro e w1 ⟨rfl, hb1⟩; have B1 := hide hb1; clear hb1))
              refine (mid_any a b _).mono ?_; rintro e w' ⟨r, nq, rfl, rfl, hr, hm1, hm2⟩; have HR := hide hr; obtain ⟨hbt1, hbt2⟩ := HQ.out r hm1; have HM1 := hide hm1; have HM2 := hide hm2; clear hr hm1 hm2
              go_wp2_with fail
              refine (mid_any b a _).mono ?_; rintro e w' ⟨s, np, rfl, rfl, hr, hm1, hm2⟩; have HS := hide hr; have tq := mids_keys HM1.out HM2.out hm1 hm2; clear hr hm1 hm2
              go_wp2_with (first | (go_at_call 16; refine (same_any _ _ HR.out HS.out _).mono ?_; rintro e w' ⟨rfl, rfl⟩) | (go_at_call 26; refine (isInf_any _ (by first | exact HA.out | exact HB.out) _).mono ?_; rintro e w' ⟨rfl, rfl⟩) | (go_at_call 27; refine (abs_any _ (by first | exact HA.out | exact HB.out) _).mono ?_; rintro e w' ⟨rfl, rfl⟩))
              go_ret
              exact ⟨rfl, below_drawn _ B1.out⟩
            · clear ca HBT
              go_enter Try.func9, Try.ntmps9
              go_wp2_with (first | (go_at_call 10; refine (live_any _).mono ?_; rintro e w1 ⟨rfl, hb1⟩; have B1 := hide hb1; clear hb1))
              refine (mid_any a b _).mono ?_; rintro e w' ⟨r, nq, rfl, rfl, hr, hm1, hm2⟩; have HR := hide hr; have HM1 := hide hm1; have HM2 := hide hm2; clear hr hm1 hm2
              go_wp2_with fail
              refine (mid_any b a _).mono ?_; rintro e w' ⟨s, np, rfl, rfl, hr, hm1, hm2⟩; have HS := hide hr; have tq := mids_keys HM1.out HM2.out hm1 hm2; clear hr hm1 hm2
              go_wp2_with (first | (go_at_call 16; refine (same_any _ _ HR.out HS.out _).mono ?_; rintro e w' ⟨rfl, rfl⟩) | (go_at_call 26; refine (isInf_any _ (by first | exact HA.out | exact HB.out) _).mono ?_; rintro e w' ⟨rfl, rfl⟩) | (go_at_call 27; refine (abs_any _ (by first | exact HA.out | exact HB.out) _).mono ?_; rintro e w' ⟨rfl, rfl⟩))
              go_ret
              exact ⟨rfl, below_drawn _ B1.out⟩
            · have HQ := hide (HBT.out (.inl ca) (.inr cb))
              clear ca cb HBT
              go_enter Try.func9, Try.ntmps9
              go_wp2_with (first | (go_at_call 10; refine (live_any _).mono ?_; rintro e w1 ⟨rfl, hb1⟩; have B1 := hide hb1; clear hb1))
              refine (mid_any a b _).mono ?_; rintro e w' ⟨r, nq, rfl, rfl, hr, hm1, hm2⟩; have HR := hide hr; obtain ⟨hbt1, hbt2⟩ := HQ.out r hm1; have HM1 := hide hm1; have HM2 := hide hm2; clear hr hm1 hm2
              go_wp2_with fail
              refine (mid_any b a _).mono ?_; rintro e w' ⟨s, np, rfl, rfl, hr, hm1, hm2⟩; have HS := hide hr; have tq := mids_keys HM1.out HM2.out hm1 hm2; clear hr hm1 hm2
              go_wp2_with (first | (go_at_call 16; refine (same_any _ _ HR.out HS.out _).mono ?_; rintro e w' ⟨rfl, rfl⟩) | (go_at_call 26; refine (isInf_any _ (by first | exact HA.out | exact HB.out) _).mono ?_; rintro e w' ⟨rfl, rfl⟩) | (go_at_call 27; refine (abs_any _ (by first | exact HA.out | exact HB.out) _).mono ?_; rintro e w' ⟨rfl, rfl⟩))
              go_ret
              exact ⟨rfl, below_drawn _ B1.out⟩
          · clear sb HBT
            go_enter Try.func9, Try.ntmps9
            go_wp2_with (first | (go_at_call 10; refine (live_any _).mono ?_; rintro e w1 ⟨rfl, hb1⟩; have B1 := hide hb1; clear hb1))
            refine (mid_any a b _).mono ?_; rintro e w' ⟨r, nq, rfl, rfl, hr, hm1, hm2⟩; have HR := hide hr; have HM1 := hide hm1; have HM2 := hide hm2; clear hr hm1 hm2
            go_wp2_with fail
            refine (mid_any b a _).mono ?_; rintro e w' ⟨s, np, rfl, rfl, hr, hm1, hm2⟩; have HS := hide hr; have tq := mids_keys HM1.out HM2.out hm1 hm2; clear hr hm1 hm2
            go_wp2_with (first | (go_at_call 16; refine (same_any _ _ HR.out HS.out _).mono ?_; rintro e w' ⟨rfl, rfl⟩) | (go_at_call 26; refine (isInf_any _ (by first | exact HA.out | exact HB.out) _).mono ?_; rintro e w' ⟨rfl, rfl⟩) | (go_at_call 27; refine (abs_any _ (by first | exact HA.out | exact HB.out) _).mono ?_; rintro e w' ⟨rfl, rfl⟩))
            go_ret
            exact ⟨rfl, below_drawn _ B1.out⟩
          · rcases sb with ⟨sb1, cb⟩ | ⟨sb1, sb2⟩ | ⟨sb1, sb2, cb⟩
            · have HQ := hide (HBT.out (.inr ca) (.inl cb))
              clear ca cb HBT
              go_enter Try.func9, Try.ntmps9
              go_wp2_with (first | (go_at_call 10; refine (live_any _).mono ?_; rintro e w1 ⟨rfl, hb1⟩; have B1 := hide hb1; clear hb1))
              refine (mid_any a b _).mono ?_; rintro e w' ⟨r, nq, rfl, rfl, hr, hm1, hm2⟩; have HR := hide hr; obtain ⟨hbt1, hbt2⟩ := HQ.out r hm1; have HM1 := hide hm1; have HM2 := hide hm2; clear hr hm1 hm2
              go_wp2_with fail
              refine (mid_any b a _).mono ?_; rintro e w' ⟨s, np, rfl, rfl, hr, hm1, hm2⟩; have HS := hide hr; have tq := mids_keys HM1.out HM2.out hm1 hm2; clear hr hm1 hm2
              go_wp2_with (first | (go_at_call 16; refine (same_any _ _ HR.out HS.out _).mono ?_; rintro e w' ⟨rfl, rfl⟩) | (go_at_call 26; refine (isInf_any _ (by first | exact HA.out | exact HB.out) _).mono ?_; rintro e w' ⟨rfl, rfl⟩) | (go_at_call 27; refine (abs_any _ (by first | exact HA.out | exact HB.out) _).mono ?_; rintro e w' ⟨rfl, rfl⟩))
              go_ret
              exact ⟨rfl, below_drawn _ B1.out⟩
            · clear ca HBT
              go_enter Try.func9, Try.ntmps9
              go_wp2_with (first | (go_at_call 10; refine (live_any _).mono ?_; rintro e w1 ⟨rfl, hb1⟩; have B1 := hide hb1; clear hb1))
              refine (mid_any a b _).mono ?_; rintro e w' ⟨r, nq, rfl, rfl, hr, hm1, hm2⟩; have HR := hide hr; have HM1 := hide hm1; have HM2 := hide hm2; clear hr hm1 hm2
              go_wp2_with fail
              refine (mid_any b a _).mono ?_; rintro e w' ⟨s, np, rfl, rfl, hr, hm1, hm2⟩; have HS := hide hr; have tq := mids_keys HM1.out HM2.out hm1 hm2; clear hr hm1 hm2
              go_wp2_with (first | (go_at_call 16; refine (same_any _ _ HR.out HS.out _).mono ?_; rintro e w' ⟨rfl, rfl⟩) | (go_at_call 26; refine (isInf_any _ (by first | exact HA.out | exact HB.out) _).mono ?_; rintro e w' ⟨rfl, rfl⟩) | (go_at_call 27; refine (abs_any _ (by first | exact HA.out | exact HB.out) _).mono ?_; rintro e w' ⟨rfl, rfl⟩))
              go_ret
              exact ⟨rfl, below_drawn _ B1.out⟩
            · have HQ := hide (HBT.out (.inr ca) (.inr cb))
              clear ca cb HBT
              go_enter Try.func9, Try.ntmps9
              go_wp2_with (first | (go_at_call 10; refine (live_any _).mono ?_; rintro e w1 ⟨rfl, hb1⟩; have B1 := hide hb1; clear hb1))
              refine (mid_any a b _).mono ?_; rintro e w' ⟨r, nq, rfl, rfl, hr, hm1, hm2⟩; have HR := hide hr; obtain ⟨hbt1, hbt2⟩ := HQ.out r hm1; have HM1 := hide hm1; have HM2 := hide hm2; clear hr hm1 hm2
              go_wp2_with fail
              refine (mid_any b a _).mono ?_; rintro e w' ⟨s, np, rfl, rfl, hr, hm1, hm2⟩; have HS := hide hr; have tq := mids_keys HM1.out HM2.out hm1 hm2; clear hr hm1 hm2
              go_wp2_with (first | (go_at_call 16; refine (same_any _ _ HR.out HS.out _).mono ?_; rintro e w' ⟨rfl, rfl⟩) | (go_at_call 26; refine (isInf_any _ (by first | exact HA.out | exact HB.out) _).mono ?_; rintro e w' ⟨rfl, rfl⟩) | (go_at_call 27; refine (abs_any _ (by first | exact HA.out | exact HB.out) _).mono ?_; rintro e w' ⟨rfl, rfl⟩))
              go_ret
              exact ⟨rfl, below_drawn _ B1.out⟩
        · rcases sa with ⟨sa1, ca⟩ | ⟨sa1, sa2⟩ | ⟨sa1, sa2, ca⟩
          · rcases sb with ⟨sb1, cb⟩ | ⟨sb1, sb2⟩ | ⟨sb1, sb2, cb⟩
            · have HQ := hide (HBT.out (.inl ca) (.inl cb))
              clear ca cb HBT
              go_enter Try.func9, Try.ntmps9
              go_wp2_with (first | (go_at_call 10; refine (live_any _).mono ?_; rintro e w1 ⟨rfl, hb1⟩; have B1 := hide hb1; clear hb1))
              refine (mid_any a b _).mono ?_; rintro e w' ⟨r, nq, rfl, rfl, hr, hm1, hm2⟩; have HR := hide hr; obtain ⟨hbt1, hbt2⟩ := HQ.out r hm1; have HM1 := hide hm1; have HM2 := hide hm2; clear hr hm1 hm2
              go_wp2_with fail
              refine (mid_any b a _).mono ?_; rintro e w' ⟨s, np, rfl, rfl, hr, hm1, hm2⟩; have HS := hide hr; have tq := mids_keys HM1.out HM2.out hm1 hm2; clear hr hm1 hm2
              go_wp2_with (first | (go_at_call 16; refine (same_any _ _ HR.out HS.out _).mono ?_; rintro e w' ⟨rfl, rfl⟩) | (go_at_call 26; refine (isInf_any _ (by first | exact HA.out | exact HB.out) _).mono ?_; rintro e w' ⟨rfl, rfl⟩) | (go_at_call 27; refine (abs_any _ (by first | exact HA.out | exact HB.out) _).mono ?_; rintro e w' ⟨rfl, rfl⟩))
              go_ret
              exact ⟨rfl, below_drawn _ B1.out⟩
            · clear ca HBT
              go_enter Try.func9, Try.ntmps9
              go_wp2_with (first | (go_at_call 10; refine (live_any _).mono ?_; rintro e w1 ⟨rfl, hb1⟩; have B1 := hide hb1; clear hb1))
              refine (mid_any a b _).mono ?_; rintro e w' ⟨r, nq, rfl, rfl, hr, hm1, hm2⟩; have HR := hide hr; have HM1 := hide hm1; have HM2 := hide hm2; clear hr hm1 hm2
              go_wp2_with fail
              refine (mid_any b a _).mono ?_; rintro e w' ⟨s, np, rfl, rfl, hr, hm1, hm2⟩; have HS := hide hr; have tq := mids_keys HM1.out HM2.out hm1 hm2; clear hr hm1 hm2
              go_wp2_with (first | (go_at_call 16; refine (same_any _ _ HR.out HS.out _).mono ?_; rintro e w' ⟨rfl, rfl⟩) | (go_at_call 26; refine (isInf_any _ (by first | exact HA.out | exact HB.out) _).mono ?_; rintro e w' ⟨rfl, rfl⟩) | (go_at_call 27; refine (abs_any _ (by first | exact HA.out | exact HB.out) _).mono ?_; rintro e w' ⟨rfl, rfl⟩))
              go_ret
              exact ⟨rfl, below_drawn _ B1.out⟩
            · have HQ := hide (HBT.out (.inl ca) (.inr cb))
              clear ca cb HBT
              go_enter Try.func9, Try.ntmps9
              go_wp2_with (first | (go_at_call 10; refine (live_any _).mono ?_; rintro e w1 ⟨rfl, hb1⟩; have B1 := hide hb1; clear hb1))
              refine (mid_any a b _).mono ?_; rintro e w' ⟨r, nq, rfl, rfl, hr, hm1, hm2⟩; have HR := hide hr; obtain ⟨hbt1, hbt2⟩ := HQ.out r hm1; have HM1 := hide hm1; have HM2 := hide hm2; clear hr hm1 hm2
              go_wp2_with fail
              refine (mid_any b a _).mono ?_; rintro e w' ⟨s, np, rfl, rfl, hr, hm1, hm2⟩; have HS := hide hr; have tq := mids_keys HM1.out HM2.out hm1 hm2; clear hr hm1 hm2
              go_wp2_with (first | (go_at_call 16; refine (same_any _ _ HR.out HS.out _).mono ?_; rintro e w' ⟨rfl, rfl⟩) | (go_at_call 26; refine (isInf_any _ (by first | exact HA.out | exact HB.out) _).mono ?_; rintro e w' ⟨rfl, rfl⟩) | (go_at_call 27; refine (abs_any _ (by first | exact HA.out | exact HB.out) _).mono ?_; rintro e w' ⟨rfl, rfl⟩))
              go_ret
              exact ⟨rfl, below_drawn _ B1.out⟩
          · clear sb HBT
            go_enter Try.func9, Try.ntmps9
            go_wp2_with (first | (go_at_call 10; refine (live_any _).mono ?_; rintro e w1 ⟨rfl, hb1⟩; have B1 := hide hb1; clear hb1))
            refine (mid_any a b _).mono ?_; rintro e w' ⟨r, nq, rfl, rfl, hr, hm1, hm2⟩; have HR := hide hr; have HM1 := hide hm1; have HM2 := hide hm2; clear hr hm1 hm2
            go_wp2_with fail
            refine (mid_any b a _).mono ?_; rintro e w' ⟨s, np, rfl, rfl, hr, hm1, hm2⟩; have HS := hide hr; have tq := mids_keys HM1.out HM2.out hm1 hm2; clear hr hm1 hm2
            go_wp2_with (first | (go_at_call 16; refine (same_any _ _ HR.out HS.out _).mono ?_; rintro e w' ⟨rfl, rfl⟩) | (go_at_call 26; refine (isInf_any _ (by first | exact HA.out | exact HB.out) _).mono ?_; rintro e w' ⟨rfl, rfl⟩) | (go_at_call 27; refine (abs_any _ (by first | exact HA.out | exact HB.out) _).mono ?_; rintro e w' ⟨rfl, rfl⟩))
            go_ret
            exact ⟨rfl, below_drawn _ B1.out⟩
          · rcases sb with ⟨sb1, cb⟩ | ⟨sb1, sb2⟩ | ⟨sb1, sb2, cb⟩
            · have HQ := hide (HBT.out (.inr ca) (.inl cb))
              clear ca cb HBT
              go_enter Try.func9, Try.ntmps9
              go_wp2_with (first | (go_at_call 10; refine (live_any _).mono ?_; rintro e w1 ⟨rfl, hb1⟩; have B1 := hide hb1; clear hb1))
              refine (mid_any a b _).mono ?_; rintro e w' ⟨r, nq, rfl, rfl, hr, hm1, hm2⟩; have HR := hide hr; obtain ⟨hbt1, hbt2⟩ := HQ.out r hm1; have HM1 := hide hm1; have HM2 := hide hm2; clear hr hm1 hm2
              go_wp2_with fail
              refine (mid_any b a _).mono ?_; rintro e w' ⟨s, np, rfl, rfl, hr, hm1, hm2⟩; have HS := hide hr; have tq := mids_keys HM1.out HM2.out hm1 hm2; clear hr hm1 hm2
              go_wp2_with (first | (go_at_call 16; refine (same_any _ _ HR.out HS.out _).mono ?_; rintro e w' ⟨rfl, rfl⟩) | (go_at_call 26; refine (isInf_any _ (by first | exact HA.out | exact HB.out) _).mono ?_; rintro e w' ⟨rfl, rfl⟩) | (go_at_call 27; refine (abs_any _ (by first | exact HA.out | exact HB.out) _).mono ?_; rintro e w' ⟨rfl, rfl⟩))
              go_ret
              exact ⟨rfl, below_drawn _ B1.out⟩
            · clear ca HBT
              go_enter Try.func9, Try.ntmps9
              go_wp2_with (first | (go_at_call 10; refine (live_any _).mono ?_; rintro e w1 ⟨rfl, hb1⟩; have B1 := hide hb1; clear hb1))
              refine (mid_any a b _).mono ?_; rintro e w' ⟨r, nq, rfl, rfl, hr, hm1, hm2⟩; have HR := hide hr; have HM1 := hide hm1; have HM2 := hide hm2; clear hr hm1 hm2
              go_wp2_with fail
              refine (mid_any b a _).mono ?_; rintro e w' ⟨s, np, rfl, rfl, hr, hm1, hm2⟩; have HS := hide hr; have tq := mids_keys HM1.out HM2.out hm1 hm2; clear hr hm1 hm2
              go_wp2_with (first | (go_at_call 16; refine (same_any _ _ HR.out HS.out _).mono ?_; rintro e w' ⟨rfl, rfl⟩) | (go_at_call 26; refine (isInf_any _ (by first | exact HA.out | exact HB.out) _).mono ?_; rintro e w' ⟨rfl, rfl⟩) | (go_at_call 27; refine (abs_any _ (by first | exact HA.out | exact HB.out) _).mono ?_; rintro e w' ⟨rfl, rfl⟩))
              go_ret
              exact ⟨rfl, below_drawn _ B1.out⟩
            · have HQ := hide (HBT.out (.inr ca) (.inr cb))
              clear ca cb HBT
              go_enter Try.func9, Try.ntmps9
              go_wp2_with (first | (go_at_call 10; refine (live_any _).mono ?_; rintro e w1 ⟨rfl, hb1⟩; have B1 := hide hb1; clear hb1))
              refine (mid_any a b _).mono ?_; rintro e w' ⟨r, nq, rfl, rfl, hr, hm1, hm2⟩; have HR := hide hr; obtain ⟨hbt1, hbt2⟩ := HQ.out r hm1; have HM1 := hide hm1; have HM2 := hide hm2; clear hr hm1 hm2
              go_wp2_with fail
              refine (mid_any b a _).mono ?_; rintro e w' ⟨s, np, rfl, rfl, hr, hm1, hm2⟩; have HS := hide hr; have tq := mids_keys HM1.out HM2.out hm1 hm2; clear hr hm1 hm2
              go_wp2_with (first | (go_at_call 16; refine (same_any _ _ HR.out HS.out _).mono ?_; rintro e w' ⟨rfl, rfl⟩) | (go_at_call 26; refine (isInf_any _ (by first | exact HA.out | exact HB.out) _).mono ?_; rintro e w' ⟨rfl, rfl⟩) | (go_at_call 27; refine (abs_any _ (by first | exact HA.out | exact HB.out) _).mono ?_; rintro e w' ⟨rfl, rfl⟩))
              go_ret
              exact ⟨rfl, below_drawn _ B1.out⟩
end Go.Proofs.Ytfopmdnpjokjcaa
