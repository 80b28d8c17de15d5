import Derived.Test.YtfopmdnpjokjcaaMrg
import Derived.Deep.DeepCutAuto
namespace Go.Proofs.Ytfopmdnpjokjcaa
open Go.RowKit Plain

/-- slices.symMergeCmpFunc, at stretches of at most N. -/
def SymSaid (N : Nat) : Prop := ∀ (w0 w : World) (g cap : Nat) (x y z : Int) (a m b L : Nat) (xs : List Nat), b - a ≤ N → x = a → y = m → z = b → L = xs.length → SRow w0 w g xs → Words xs →
  a < m → m < b → b ≤ xs.length → xs.length ≤ 1000 → Up a m xs → Up m b xs →
  Calls Try.prog 41 #[.slice (some ⟨g, 0, none⟩) L cap, .int .i64 x, .int .i64 y, .int .i64 z, .func (.func 15) #[] #[]] w (InsPost w0 g a b xs)

theorem rotate_at (w0 w : World) (g cap : Nat) (x y z : Int) (a m b L : Nat) (xs : List Nat) (f : Value) (ex : x = a) (ey : y = m) (ez : z = b) (eL : L = xs.length) (hr : SRow w0 w g xs) (ham : a < m) (hmb : m < b) (hb : b ≤ xs.length) (hl : xs.length ≤ 1000) :
    Calls Try.prog 42 #[.slice (some ⟨g, 0, none⟩) L cap, .int .i64 x, .int .i64 y, .int .i64 z, f] w (RotPost w0 g a m b xs) := by
  subst ex ey ez eL
  exact rotate_any w0 w g cap a m b xs f hr ham hmb hb hl

attribute [local go_sem] run_store_fl

set_option maxRecDepth 100000 in
set_option maxHeartbeats 8000000 in
theorem symG_any (N : Nat) (ih : SymSaid N) (w0 w : World) (g cap a m b : Nat) (xs : List Nat) (hN : b - a ≤ N + 1) (hr : SRow w0 w g xs) (hw : Words xs) (ham : a < m) (hmb : m < b) (hb : b ≤ xs.length) (hl : xs.length ≤ 1000)
    (hu1 : Up a m xs) (hu2 : Up m b xs) (n1 : m ≠ a + 1) (n2 : b ≠ m + 1) :
    Calls Try.prog 41 #[.slice (some ⟨g, 0, none⟩) xs.length cap, .int .i64 a, .int .i64 m, .int .i64 b, .func (.func 15) #[] #[]] w (InsPost w0 g a b xs) := by
  have HR := hide hr
  have HW := hide hw
  have HU1 := hide hu1
  have HU2 := hide hu2
  have IH := hide ih
  clear hr hw hu1 hu2 ih
  have t1 : (((m : Int) - (a : Int)) == 1) = false := beq_eq_false_iff_ne.2 (by omega)
  have t2 : (((b : Int) - (m : Int)) == 1) = false := beq_eq_false_iff_ne.2 (by omega)
  obtain ⟨lo, hi, hlim⟩ : ∃ lo hi, Lim a m b ((a + b) / 2) lo hi := by
    by_cases h : (a + b) / 2 < m
    · exact ⟨(a + b) / 2 + m - b, (a + b) / 2, .inl ⟨h, by omega, rfl⟩⟩
    · exact ⟨a, m, .inr ⟨by omega, rfl, rfl⟩⟩
  have hlo : a ≤ lo := by rcases hlim with ⟨c1, c2, c3⟩ | ⟨c1, c2, c3⟩ <;> omega
  have hhi : hi ≤ m := by rcases hlim with ⟨c1, c2, c3⟩ | ⟨c1, c2, c3⟩ <;> omega
  have hlh : lo ≤ hi := by rcases hlim with ⟨c1, c2, c3⟩ | ⟨c1, c2, c3⟩ <;> omega
  have hnl : (a + b) / 2 + m - 1 - lo < b := by rcases hlim with ⟨c1, c2, c3⟩ | ⟨c1, c2, c3⟩ <;> omega
  have hnh : ∀ q, q < hi → m ≤ (a + b) / 2 + m - 1 - q := by rcases hlim with ⟨c1, c2, c3⟩ | ⟨c1, c2, c3⟩ <;> omega
  have HNH := hide hnh
  clear hnh n1 n2
  have HL := hide hlim
  clear hlim
  go_enter Try.func41, Try.ntmps41
  go_upto_if 140 with (fail)
  go_cut [20, 21] from 138 to 146 (fun v u wx => v = .int .i64 lo ∧ u = .int .i64 hi ∧ w = wx)
  case first =>
    by_cases c1 : ((a : Int) + (b : Int)) / 2 < (m : Int)
    · have C2 : Hid ((lo : Int) = ((a : Int) + (b : Int)) / 2 + (m : Int) - (b : Int)) := by
        show _ = _; rcases HL.out with ⟨d1, d2, d3⟩ | ⟨d1, d2, d3⟩ <;> omega
      have C3 : Hid ((hi : Int) = ((a : Int) + (b : Int)) / 2) := by
        show _ = _; rcases HL.out with ⟨d1, d2, d3⟩ | ⟨d1, d2, d3⟩ <;> omega
      go_wp2_with fail
      go_meet
      case rel => exact ⟨by rw [C2.out], by rw [C3.out], rfl⟩
    · have C2 : Hid ((lo : Int) = (a : Int)) := by
        show _ = _; rcases HL.out with ⟨d1, d2, d3⟩ | ⟨d1, d2, d3⟩ <;> omega
      have C3 : Hid ((hi : Int) = (m : Int)) := by
        show _ = _; rcases HL.out with ⟨d1, d2, d3⟩ | ⟨d1, d2, d3⟩ <;> omega
      go_wp2_with fail
      go_meet
      case rel => exact ⟨by rw [C2.out], by rw [C3.out], rfl⟩
  case rest =>
  obtain ⟨rfl, rfl, rfl⟩ := hcut
  go_wp2_with fail
  go_loopw [20, 21] (fun v u wr => ∃ (s r : Nat), v = .int .i64 s ∧ u = .int .i64 r ∧ lo ≤ s ∧ s ≤ r ∧ r ≤ hi ∧ Hid (SRow w0 wr g xs) ∧ Hid (BsG lo s r hi ((a + b) / 2 + m) xs)) (fun v u _ => (intOf u - intOf v).toNat)
  case atStart => exact ⟨lo, hi, rfl, rfl, Nat.le_refl _, hlh, Nat.le_refl _, HR, hide ⟨fun q _ _ => by omega, fun q _ _ => by omega⟩⟩
  case round =>
    obtain ⟨s, r, rfl, rfl, hls, hsr, hrh, HZ, HB⟩ := hrel
    by_cases hlt : s < r
    · have hltz : (s : Int) < (r : Int) := by omega
      have hc1 : s ≤ (s + r) / 2 := by omega
      have hc2 : (s + r) / 2 < r := by omega
      have hc3 : m ≤ (a + b) / 2 + m - 1 - (s + r) / 2 := HNH.out _ (by omega)
      have hc4 : (a + b) / 2 + m - 1 - (s + r) / 2 < b := by omega
      have hz1 : ((s : Int) + (r : Int)) / 2 < (xs.length : Int) := by omega
      have hz0 : (0 : Int) ≤ ((s : Int) + (r : Int)) / 2 := by omega
      have hy1 : ((a : Int) + (b : Int)) / 2 + (m : Int) - 1 - ((s : Int) + (r : Int)) / 2 < (xs.length : Int) := by omega
      have hy0 : (0 : Int) ≤ ((a : Int) + (b : Int)) / 2 + (m : Int) - 1 - ((s : Int) + (r : Int)) / 2 := by omega
      have ca := HZ.out.cell ((s + r) / 2) (by omega)
      have cb := HZ.out.cell ((a + b) / 2 + m - 1 - (s + r) / 2) (by omega)
      have wx := hide (HW.out.nth ((s + r) / 2))
      have wy := hide (HW.out.nth ((a + b) / 2 + m - 1 - (s + r) / 2))
      obtain ⟨x, hx⟩ : ∃ x, x = nth xs ((s + r) / 2) := ⟨_, rfl⟩
      obtain ⟨y, hy⟩ : ∃ y, y = nth xs ((a + b) / 2 + m - 1 - (s + r) / 2) := ⟨_, rfl⟩
      rw [← hx] at ca wx
      rw [← hy] at cb wy
      unfold fl at ca cb
      have HX := hide hx
      have HYY := hide hy
      clear hx hy
      by_cases hk : keyN y < keyN x
      · have hd := cmp_lt hk
        go_wp2_with fail
        go_quiet ((go_at_call 15; exact quiet_left (cmp_any y x wy.out wx.out _)))
        go_wp2_with fail
        go_roundw
        case rel =>
          have hxy : K xs ((a + b) / 2 + m - 1 - (s + r) / 2) < K xs ((s + r) / 2) := by unfold K; rw [← HX.out, ← HYY.out]; exact hk
          exact ⟨s, (s + r) / 2, rfl, by go_num, by omega, by omega, by omega, HZ.out.drewN nq, hide (HB.out.down HU1.out HU2.out (by omega) hc2 hhi HNH.out hc4 hxy)⟩
        case measure => simp [intOf]; omega
      · have hd := cmp_ge hk
        go_wp2_with fail
        go_quiet ((go_at_call 15; exact quiet_left (cmp_any y x wy.out wx.out _)))
        go_wp2_with fail
        go_roundw
        case rel =>
          have hxy : K xs ((s + r) / 2) ≤ K xs ((a + b) / 2 + m - 1 - (s + r) / 2) := by unfold K; rw [← HX.out, ← HYY.out]; omega
          exact ⟨(s + r) / 2 + 1, r, by go_num, rfl, by omega, by omega, by omega, HZ.out.drewN nq, hide (HB.out.up HU1.out HU2.out hlo hc1 (by omega) hnl hc3 hxy)⟩
        case measure => simp [intOf]; omega
    · have hltz : ¬ (s : Int) < (r : Int) := by omega
      obtain rfl : r = s := by omega
      clear hlt hsr
      obtain ⟨e, he⟩ : ∃ e : Nat, e + r = (a + b) / 2 + m := ⟨(a + b) / 2 + m - r, by have := HNH.out; rcases HL.out with ⟨d1, d2, d3⟩ | ⟨d1, d2, d3⟩ <;> omega⟩
      have HE := hide he
      have ez : ((a : Int) + (b : Int)) / 2 + (m : Int) - (r : Int) = (e : Int) := by omega
      clear he
      have MM := hide (fun zs hz => merge_mid (zs := zs) HL.out ham hmb rfl hls hrh HE.out HB.out HU1.out HU2.out hz)
      obtain ⟨b1, b2, b3, b4, b5, b6⟩ : a ≤ r ∧ r ≤ m ∧ m ≤ e ∧ e ≤ b ∧ r ≤ (a + b) / 2 ∧ (a + b) / 2 ≤ e := by
        have := HE.out; rcases HL.out with ⟨d1, d2, d3⟩ | ⟨d1, d2, d3⟩ <;> omega
      clear hlo hhi hlh hnl hls hrh
      obtain ⟨d1, hd1⟩ : ∃ d, d = decide (r < m ∧ m < e) := ⟨_, rfl⟩
      obtain ⟨d2, hd2⟩ : ∃ d, d = decide (a < r ∧ r < (a + b) / 2) := ⟨_, rfl⟩
      obtain ⟨d3, hd3⟩ : ∃ d, d = decide ((a + b) / 2 < e ∧ e < b) := ⟨_, rfl⟩
      have D1 := hide hd1
      have D2 := hide hd2
      have D3 := hide hd3
      clear hd1 hd2 hd3
      go_upto_region 39 with (fail)
      go_cut [185] from 178 to 185 (fun v wx => v = .bool d1 ∧ wr = wx)
      case first =>
        by_cases q1 : (r : Int) < (m : Int)
        · by_cases q2 : (m : Int) < (e : Int)
          · have hf : Hid (true = d1) := by show _ = _; rw [D1.out]; exact (decide_eq_true (by omega)).symm
            go_wp2_with fail
            go_meet
            case rel => exact ⟨by rw [hf.out], rfl⟩
          · have hf : Hid (false = d1) := by show _ = _; rw [D1.out]; exact (decide_eq_false (by omega)).symm
            go_wp2_with fail
            go_meet
            case rel => exact ⟨by rw [hf.out], rfl⟩
        · have hf : Hid (false = d1) := by show _ = _; rw [D1.out]; exact (decide_eq_false (by omega)).symm
          go_wp2_with fail
          go_meet
          case rel => exact ⟨by rw [hf.out], rfl⟩
      case rest =>
      obtain ⟨rfl, rfl⟩ := hcut
      go_upto_if 185 with (fail)
      go_cut [] from 186 to 191 (fun wx => ∃ zs, Hid (SRow w0 wx g zs) ∧ Hid (zs.length = xs.length) ∧ Hid (zs.Perm xs) ∧ Hid (∀ q, nth zs q = rotF xs r m e q))
      case first =>
        cases d1 with
        | true =>
          have hq := of_decide_eq_true D1.out.symm
          obtain ⟨k1a, k1b⟩ := hq
          go_wp2_with fail
          refine (rotate_at w0 _ g cap _ _ _ r m e _ xs _ rfl rfl (by omega) rfl HZ.out k1a k1b (by omega) hl).mono ?_
          rintro e1 w1 ⟨rfl, zs, h1, h2, h3, h4⟩
          have HZ1 := hide h1
          have L1 := hide h2
          have P1 := hide h3
          have F1 := hide h4
          clear h1 h2 h3 h4
          go_wp2_with fail
          go_meet
          case rel => exact ⟨zs, HZ1, L1, P1, F1⟩
        | false =>
          go_wp2_with fail
          go_meet
          case rel => exact ⟨xs, HZ, rfl, List.Perm.refl _, rot_none xs b2 b3 (of_decide_eq_false D1.out.symm)⟩
      case rest =>
      obtain ⟨zs, HZ1, L1, P1, F1⟩ := hcut
      clear HZ D1 HR
      obtain ⟨_, U1, U2, U3, U4, CR⟩ := MM.out zs F1.out
      have IR := hide (rot_in (a := a) (b := b) F1.out L1.out P1.out b1 b4)
      have WZ := hide (HW.out.perm P1.out)
      have U1 := hide U1; have U2 := hide U2; have U3 := hide U3; have U4 := hide U4; have CR := hide CR
      clear MM F1
      go_upto_region 41 with (fail)
      go_cut [199] from 192 to 199 (fun v wx => v = .bool d2 ∧ wc = wx)
      case first =>
        by_cases q1 : (a : Int) < (r : Int)
        · by_cases q2 : (r : Int) < ((a : Int) + (b : Int)) / 2
          · have hf : Hid (true = d2) := by show _ = _; rw [D2.out]; exact (decide_eq_true (by omega)).symm
            go_wp2_with fail
            go_meet
            case rel => exact ⟨by rw [hf.out], rfl⟩
          · have hf : Hid (false = d2) := by show _ = _; rw [D2.out]; exact (decide_eq_false (by omega)).symm
            go_wp2_with fail
            go_meet
            case rel => exact ⟨by rw [hf.out], rfl⟩
        · have hf : Hid (false = d2) := by show _ = _; rw [D2.out]; exact (decide_eq_false (by omega)).symm
          go_wp2_with fail
          go_meet
          case rel => exact ⟨by rw [hf.out], rfl⟩
      case rest =>
      obtain ⟨rfl, rfl⟩ := hcut
      go_upto_if 199 with (fail)
      go_cut [] from 200 to 205 (fun wx => ∃ z2, Hid (SRow w0 wx g z2) ∧ Hid (InR a ((a + b) / 2) zs z2) ∧ Hid (Up a ((a + b) / 2) z2))
      case first =>
        cases d2 with
        | true =>
          have hq := of_decide_eq_true D2.out.symm
          obtain ⟨k2a, k2b⟩ := hq
          go_wp2_with fail
          refine (IH.out w0 _ g cap _ _ _ a r ((a + b) / 2) _ zs (by omega) rfl rfl (by omega) L1.out.symm HZ1.out WZ.out k2a k2b (by rw [L1.out]; omega) (by rw [L1.out]; omega) U1.out U2.out).mono ?_
          rintro e2 w2 ⟨rfl, z2, j1, j2, j3⟩
          have HZ2 := hide j1
          have I2 := hide j2
          have UL := hide j3
          clear j1 j2 j3
          go_wp2_with fail
          go_meet
          case rel => exact ⟨z2, HZ2, I2, UL⟩
        | false =>
          have k2 := of_decide_eq_false D2.out.symm
          have UL : Hid (Up a ((a + b) / 2) zs) := by
            by_cases q1 : a < r
            · have : r = (a + b) / 2 := by omega
              exact this ▸ U1.out
            · have : r = a := by omega
              exact this ▸ U2.out
          clear k2
          go_wp2_with fail
          go_meet
          case rel => exact ⟨zs, HZ1, InR.refl _ _ _, UL⟩
      case rest =>
      obtain ⟨z2, HZ2, I2, UL⟩ := hcut
      clear HZ1 D2 U1 U2
      have WZ2 := hide (WZ.out.perm I2.out.2.1)
      have L2 : Hid (z2.length = xs.length) := I2.out.1.trans L1.out
      have V3 : Hid (Up ((a + b) / 2) e z2) := U3.out.same fun q hq _ => I2.out.2.2 q (by omega)
      have V4 : Hid (Up e b z2) := U4.out.same fun q hq _ => I2.out.2.2 q (by omega)
      clear U3 U4 WZ
      go_upto_region 43 with (fail)
      go_cut [213] from 206 to 213 (fun v wx => v = .bool d3 ∧ wc = wx)
      case first =>
        by_cases q1 : ((a : Int) + (b : Int)) / 2 < (e : Int)
        · by_cases q2 : (e : Int) < (b : Int)
          · have hf : Hid (true = d3) := by show _ = _; rw [D3.out]; exact (decide_eq_true (by omega)).symm
            go_wp2_with fail
            go_meet
            case rel => exact ⟨by rw [hf.out], rfl⟩
          · have hf : Hid (false = d3) := by show _ = _; rw [D3.out]; exact (decide_eq_false (by omega)).symm
            go_wp2_with fail
            go_meet
            case rel => exact ⟨by rw [hf.out], rfl⟩
        · have hf : Hid (false = d3) := by show _ = _; rw [D3.out]; exact (decide_eq_false (by omega)).symm
          go_wp2_with fail
          go_meet
          case rel => exact ⟨by rw [hf.out], rfl⟩
      case rest =>
      obtain ⟨rfl, rfl⟩ := hcut
      cases d3 with
      | true =>
        have hq := of_decide_eq_true D3.out.symm
        obtain ⟨k3a, k3b⟩ := hq
        go_wp2_with fail
        refine (IH.out w0 _ g cap _ _ _ ((a + b) / 2) e b _ z2 (by omega) (by omega) (by omega) rfl L2.out.symm HZ2.out WZ2.out k3a k3b (by rw [L2.out]; omega) (by rw [L2.out]; omega) V3.out V4.out).mono ?_
        rintro e3 w3 ⟨rfl, z3, l1, l2, l3⟩
        have HZ3 := hide l1
        have I3 := hide l2
        have UR := hide l3
        clear l1 l2 l3
        go_wp2_with fail
        go_end0
        obtain ⟨q1, q2⟩ := merge_end CR.out (by omega) (by omega) (by rw [L1.out]; omega) I2.out UL.out I3.out UR.out
        exact ⟨rfl, z3, HZ3.out, IR.out.trans q1, q2⟩
      | false =>
        have k3 := of_decide_eq_false D3.out.symm
        have UR : Hid (Up ((a + b) / 2) b z2) := by
          by_cases q1 : (a + b) / 2 < e
          · have : e = b := by omega
            exact this ▸ V3.out
          · have : e = (a + b) / 2 := by omega
            exact this ▸ V4.out
        clear k3
        go_wp2_with fail
        go_end0
        obtain ⟨q1, q2⟩ := merge_end CR.out (by omega) (by omega) (by rw [L1.out]; omega) I2.out UL.out (InR.refl _ _ _) UR.out
        exact ⟨rfl, z2, HZ2.out, IR.out.trans q1, q2⟩
end Go.Proofs.Ytfopmdnpjokjcaa
