/- The reference's reading of a root. -/
import Derived.Test.YthhemdjggdgaaaaDoorRroct
import Derived.Deep.RegionHeld3
namespace Go.Proofs.YthhemdjggdgaaaaDoor
open Go.RowKit
set_option linter.unusedVariables false

theorem strip_next {b : Bs} (h : b.length = 32) {j : Nat} (hj : j < 8) : strip b j ++ [b.getD (4 * j + 1) 0, b.getD (4 * j + 2) 0, b.getD (4 * j + 3) 0] = strip b (j + 1) := by
  rw [strip, take3 (by omega)]
theorem cut_at {base c g : Nat} {w : World} {bs : Bs} (h : OB base w (some ⟨g, 0, none⟩) 24 c bs) (k m : Nat) (hk : k + m ≤ 24) : BR w (some ⟨g, k, none⟩) m ((bs.drop k).take m) :=
  BR.part h.reads k m hk _ (fun _ ad e => by injection e with e; subst e; simp [Addr.add])
set_option maxRecDepth 100000 in
set_option maxHeartbeats 8000000 in
theorem rrof_any (w : World) (A : Option Addr) (n c : Nat) (b : Bs) (hr : BR w A n b) (hn : n ≤ 300000) (hc : n ≤ c) : Calls Tryd.prog 14 #[.slice A n c] w (RtPost w (ofS b).1 (ofS b).2) := by
  obtain ⟨i0, hi0, hz0, hz1, hz2⟩ := info_parts u8_info
  have hX := RB.made w (.int .u64 0) (.int .i64 0) (.int .i64 0) (.int .i64 0) (.int .u32 0) (.int .u64 0)
  have HX := hide hX
  have HB0 := hide (below_alloc w (.cells #[.int .u64 0, .int .i64 0, .int .i64 0, .int .i64 0, .int .u32 0, .int .u64 0] 27))
  clear hX
  by_cases h32 : n = 32
  · subst h32
    have HL := hide hr.len
    obtain ⟨ad, rfl, _⟩ := hr.cell 0 (by omega)
    obtain ⟨W0, hW0⟩ : ∃ W0, W0 = w.alloc (.cells #[.int .u64 0, .int .i64 0, .int .i64 0, .int .i64 0, .int .u32 0, .int .u64 0] 27) := ⟨_, rfl⟩
    have HBR : Hid (BR W0 (some ad) 32 b) := by rw [hW0]; exact hr.below (below_alloc w _)
    have HSZ : Hid (w.heap.size < W0.heap.size) := by show _ < _; rw [hW0]; simp
    have HX0 := HX
    have HBB := HB0
    rw [← hW0] at HX0 HBB
    go_enter Tryd.func14, Tryd.ntmps14
    go_wp2_with fail
    rw [← hW0]
    clear hW0 hr HX HB0
    go_loopw [4, 13] (fun u v wk => ∃ (j : Nat) (T : Option Addr) (nt ct : Nat), u = .slice T nt ct ∧ v = .int .i64 j ∧ j ≤ 8 ∧ nt = 3 * j ∧ Hid (OB W0.heap.size wk T nt ct (strip b j)) ∧ Hid (Below W0.heap.size W0 wk)) (fun _ v _ => 8 - (intOf v).toNat)
    case atStart => exact ⟨0, none, 0, 0, rfl, rfl, by omega, rfl, OB.nil _ _, Below.refl _ _⟩
    case round =>
      obtain ⟨j, T, nt, ct, rfl, rfl, hj, rfl, HT, HB⟩ := hrel
      by_cases hj8 : j < 8
      · have hz : (j : Int) < 8 := by omega
        have b10 : (0 : Int) ≤ 4 * (j : Int) + 1 := by omega
        have b11 : 4 * (j : Int) + 1 < 32 := by omega
        have b12 : IntKind.i64.wrap (4 * (j : Int) + 1) = 4 * (j : Int) + 1 := IntWalk.i64_in _ (by omega)
        have b13 : (4 * (j : Int) + 1).toNat = 4 * j + 1 := by omega
        obtain ⟨ad1, ea1, q1⟩ := (HBR.out.below HB.out).cell (4 * j + 1) (by omega)
        obtain rfl : ad = ad1 := Option.some.inj ea1
        have q1 : wr.cell? ⟨ad.block, ad.off + (4 * j + 1), none⟩ = some (.int .u8 (b.getD (4 * j + 1) 0).toNat) := by simpa [Addr.add] using q1
        have b20 : (0 : Int) ≤ 4 * (j : Int) + 2 := by omega
        have b21 : 4 * (j : Int) + 2 < 32 := by omega
        have b22 : IntKind.i64.wrap (4 * (j : Int) + 2) = 4 * (j : Int) + 2 := IntWalk.i64_in _ (by omega)
        have b23 : (4 * (j : Int) + 2).toNat = 4 * j + 2 := by omega
        obtain ⟨ad2, ea2, q2⟩ := (HBR.out.below HB.out).cell (4 * j + 2) (by omega)
        obtain rfl : ad = ad2 := Option.some.inj ea2
        have q2 : wr.cell? ⟨ad.block, ad.off + (4 * j + 1 + 1), none⟩ = some (.int .u8 (b.getD (4 * j + 2) 0).toNat) := by simpa [Addr.add] using q2
        have b30 : (0 : Int) ≤ 4 * (j : Int) + 3 := by omega
        have b31 : 4 * (j : Int) + 3 < 32 := by omega
        have b32 : IntKind.i64.wrap (4 * (j : Int) + 3) = 4 * (j : Int) + 3 := IntWalk.i64_in _ (by omega)
        have b33 : (4 * (j : Int) + 3).toNat = 4 * j + 3 := by omega
        obtain ⟨ad3, ea3, q3⟩ := (HBR.out.below HB.out).cell (4 * j + 3) (by omega)
        obtain rfl : ad = ad3 := Option.some.inj ea3
        have q3 : wr.cell? ⟨ad.block, ad.off + (4 * j + 2 + 1), none⟩ = some (.int .u8 (b.getD (4 * j + 3) 0).toNat) := by simpa [Addr.add] using q3
        have b4 : IntKind.i64.wrap (4 * (j : Int)) = 4 * (j : Int) := IntWalk.i64_in _ (by omega)
        have HNX := hide (strip_next HL.out hj8)
        generalize hv0 : b.getD (4 * j + 1) 0 = v0 at q1 HNX
        generalize hv1 : b.getD (4 * j + 2) 0 = v1 at q2 HNX
        generalize hv2 : b.getD (4 * j + 3) 0 = v2 at q3 HNX
        clear hv0 hv1 hv2 ea1 ea2 ea3
        obtain ⟨W1, hW1⟩ : ∃ W1, W1 = (wr.alloc (.cells #[.int .u8 (v0.toNat : Int), .int .u8 (v1.toNat : Int), .int .u8 (v2.toNat : Int)] 5)).drew := ⟨_, rfl⟩
        have hbw : Below wr.heap.size wr W1 := by rw [hW1]; exact (below_alloc wr _).drew
        have HT1 : Hid (OB W0.heap.size W1 T (3 * j) ct (strip b j)) := HT.out.below hbw
        have HR1 : Hid (BR W1 (some ⟨wr.heap.size, 0, none⟩) 3 [v0, v1, v2]) := by rw [hW1]; exact (octv wr _ _ 3 rfl rfl).below (Below.refl _ _).drew
        have HB1 : Hid (Below W0.heap.size W0 W1) := Below.then_ HB.out hbw HB.out.size
        rw [hW1] at HT1 HR1 HB1
        clear hW1 hbw
        go_upto_region 7 with fail
        go_region_law (first
          | (refine (step_append_any _ ?h1 (.tmp 16) (.tmp 35) 28 ?h2 W0.heap.size 5 i0 _ 1 1 ?h3 hi0 hz0 hz1 hz2 ?h4 ?h5 (.slice T (3 * j) ct) (3 * j) (byt (strip b j)) ?h6 HT1.out _ (some ⟨wr.heap.size, 0, none⟩) 3 3 (byt [v0, v1, v2]) ?h7 HR1.out ?h8 ?h9 ?h10 ?h11 ?_); (case h1 => rfl); (case h2 => rfl); (case h3 => exact Tryd.underlying28); (case h4 => rfl); (case h5 => omega); (case h6 => rfl); (case h7 => rfl); (case h8 => exact byt_one _); (case h9 => simp only [maxLen]; omega); (case h10 => omega); (case h11 => exact HB1.out.size); intro v1 w2 hown1 hg1 hat1; obtain ⟨A1, c1, rfl⟩ := row_slice hown1; rw [← byt_append, HNX.out] at hown1; have HT2 := hide hown1; have HB2 := hide (HB1.out.grown hg1 HB1.out.size (fun q hq => (World.ownsRow.lt HT1.out q hq).1)); clear hown1 hg1 hat1))
        all_goals
          go_wp2_with fail
          go_roundw
          case rel => exact ⟨j + 1, A1, 3 * j + 3, c1, rfl, by go_num, by omega, by omega, HT2, HB2⟩
          case measure => simp [intOf]; omega
      · have hz : ¬ (j : Int) < 8 := by omega
        obtain rfl : j = 8 := by omega
        rw [show 3 * 8 = 24 from rfl] at HT ⊢
        obtain ⟨g, rfl⟩ := row_addr HT.out (by omega)
        have hcap := (row_cap HT.out).1
        obtain ⟨t, ht⟩ : ∃ t, t = strip b 8 := ⟨_, rfl⟩
        have HTT := hide ht
        have htl : t.length = 24 := by rw [ht]; exact HT.out.len
        have HTL := hide htl
        rw [← ht] at HT
        clear ht htl
        have u0 : (6 : Int) ≤ (ct : Int) := by omega
        have y0 : 6 ≤ ct := by omega
        obtain ⟨n0, hn0⟩ : ∃ n0, leU t 6 = n0 := ⟨_, rfl⟩
        have l0 : n0 < 2 ^ 48 := by rw [← hn0]; exact leU_lt (k := 6) (by rw [HTL.out]; omega)
        have tk0 : ∀ w : World, OB W0.heap.size w (some ⟨g, 0, none⟩) 24 ct t → Calls Tryd.prog 29 #[.slice (some ⟨g, 0, none⟩) 6 ct] w fun e w' => e = .returned (.int .u64 n0) ∧ w = w' := by
          intro w h
          have h1 := rtake_any w _ 6 ct _ (cut_at h 0 6 (by omega)) (by omega)
          rw [show le ((t.drop 0).take 6) = n0 from hn0] at h1
          exact h1
        have u1 : (8 : Int) ≤ (ct : Int) := by omega
        have y1 : 8 ≤ ct := by omega
        have z1 : ¬ ct = 6 := by omega
        obtain ⟨n1, hn1⟩ : ∃ n1, leU (t.drop 6) 2 = n1 := ⟨_, rfl⟩
        have l1 : n1 < 2 ^ 16 := by rw [← hn1]; exact leU_lt (k := 2) (by rw [List.length_drop, HTL.out]; omega)
        have tk1 : ∀ w : World, OB W0.heap.size w (some ⟨g, 0, none⟩) 24 ct t → Calls Tryd.prog 29 #[.slice (some ⟨g, 6, none⟩) 2 (ct - 6)] w fun e w' => e = .returned (.int .u64 n1) ∧ w = w' := by
          intro w h
          have h1 := rtake_any w _ 2 (ct - 6) _ (cut_at h 6 2 (by omega)) (by omega)
          rw [show le ((t.drop 6).take 2) = n1 from hn1] at h1
          exact h1
        have u2 : (10 : Int) ≤ (ct : Int) := by omega
        have y2 : 10 ≤ ct := by omega
        have z2 : ¬ ct = 8 := by omega
        obtain ⟨n2, hn2⟩ : ∃ n2, leU (t.drop 8) 2 = n2 := ⟨_, rfl⟩
        have l2 : n2 < 2 ^ 16 := by rw [← hn2]; exact leU_lt (k := 2) (by rw [List.length_drop, HTL.out]; omega)
        have tk2 : ∀ w : World, OB W0.heap.size w (some ⟨g, 0, none⟩) 24 ct t → Calls Tryd.prog 29 #[.slice (some ⟨g, 8, none⟩) 2 (ct - 8)] w fun e w' => e = .returned (.int .u64 n2) ∧ w = w' := by
          intro w h
          have h1 := rtake_any w _ 2 (ct - 8) _ (cut_at h 8 2 (by omega)) (by omega)
          rw [show le ((t.drop 8).take 2) = n2 from hn2] at h1
          exact h1
        have u3 : (13 : Int) ≤ (ct : Int) := by omega
        have y3 : 13 ≤ ct := by omega
        have z3 : ¬ ct = 10 := by omega
        obtain ⟨n3, hn3⟩ : ∃ n3, leU (t.drop 10) 3 = n3 := ⟨_, rfl⟩
        have l3 : n3 < 2 ^ 24 := by rw [← hn3]; exact leU_lt (k := 3) (by rw [List.length_drop, HTL.out]; omega)
        have tk3 : ∀ w : World, OB W0.heap.size w (some ⟨g, 0, none⟩) 24 ct t → Calls Tryd.prog 29 #[.slice (some ⟨g, 10, none⟩) 3 (ct - 10)] w fun e w' => e = .returned (.int .u64 n3) ∧ w = w' := by
          intro w h
          have h1 := rtake_any w _ 3 (ct - 10) _ (cut_at h 10 3 (by omega)) (by omega)
          rw [show le ((t.drop 10).take 3) = n3 from hn3] at h1
          exact h1
        have u4 : (17 : Int) ≤ (ct : Int) := by omega
        have y4 : 17 ≤ ct := by omega
        have z4 : ¬ ct = 13 := by omega
        obtain ⟨n4, hn4⟩ : ∃ n4, leU (t.drop 13) 4 = n4 := ⟨_, rfl⟩
        have l4 : n4 < 2 ^ 32 := by rw [← hn4]; exact leU_lt (k := 4) (by rw [List.length_drop, HTL.out]; omega)
        have tk4 : ∀ w : World, OB W0.heap.size w (some ⟨g, 0, none⟩) 24 ct t → Calls Tryd.prog 29 #[.slice (some ⟨g, 13, none⟩) 4 (ct - 13)] w fun e w' => e = .returned (.int .u64 n4) ∧ w = w' := by
          intro w h
          have h1 := rtake_any w _ 4 (ct - 13) _ (cut_at h 13 4 (by omega)) (by omega)
          rw [show le ((t.drop 13).take 4) = n4 from hn4] at h1
          exact h1
        have u5 : (23 : Int) ≤ (ct : Int) := by omega
        have y5 : 23 ≤ ct := by omega
        have z5 : ¬ ct = 17 := by omega
        obtain ⟨n5, hn5⟩ : ∃ n5, leU (t.drop 17) 6 = n5 := ⟨_, rfl⟩
        have l5 : n5 < 2 ^ 48 := by rw [← hn5]; exact leU_lt (k := 6) (by rw [List.length_drop, HTL.out]; omega)
        have tk5 : ∀ w : World, OB W0.heap.size w (some ⟨g, 0, none⟩) 24 ct t → Calls Tryd.prog 29 #[.slice (some ⟨g, 17, none⟩) 6 (ct - 17)] w fun e w' => e = .returned (.int .u64 n5) ∧ w = w' := by
          intro w h
          have h1 := rtake_any w _ 6 (ct - 17) _ (cut_at h 17 6 (by omega)) (by omega)
          rw [show le ((t.drop 17).take 6) = n5 from hn5] at h1
          exact h1
        have HPA : Hid (parse t = ⟨n0, (n1 : Int), (n2 : Int), (n3 : Int), n4, n5⟩) := by show _ = _; unfold parse; rw [hn0, hn1, hn2, hn3, hn4, hn5]
        clear hn0 hn1 hn2 hn3 hn4 hn5
        have v1 : IntKind.i64.wrap (n1 : Int) = n1 := IntWalk.i64_in _ (by omega)
        have v2 : IntKind.i64.wrap (n2 : Int) = n2 := IntWalk.i64_in _ (by omega)
        have v3 : IntKind.i64.wrap (n3 : Int) = n3 := IntWalk.i64_in _ (by omega)
        have v4 : IntKind.u32.wrap (n4 : Int) = n4 := by rw [IntKind.wrap_u32]; omega
        have HTD : Hid (OB W0.heap.size wr.drew (some ⟨g, 0, none⟩) 24 ct t) := HT.out.below (Below.refl _ _).drew
        have HTE : Hid (OB W0.heap.size (wr.alloc (.cells #[.int .u64 0, .int .i64 0, .int .i64 0, .int .i64 0, .int .u32 0, .int .u64 0] 27)).drew (some ⟨g, 0, none⟩) 24 ct t) := HT.out.below ((below_alloc wr _).drew)
        go_upto_region 9 with fail
        go_cut [6] (fun s6 wx => s6 = .pointer (some ⟨wr.heap.size, 0, none⟩) ∧ Hid (wx = (wr.alloc (.cells #[.int .u64 n0, .int .i64 n1, .int .i64 n2, .int .i64 n3, .int .u32 n4, .int .u64 n5] 27)).drew))
        case first =>
          go_region_held3 (fun W => True)
            (trivial)
            (first
              | (go_at_call 29; (with_reducible refine (tk0 _ HTD.out).mono ?_); rintro e w' ⟨rfl, rfl⟩)
              | (go_at_call 29; (with_reducible refine (tk0 _ HTE.out).mono ?_); rintro e w' ⟨rfl, rfl⟩)
              | (go_at_call 29; (with_reducible refine (tk1 _ HTD.out).mono ?_); rintro e w' ⟨rfl, rfl⟩)
              | (go_at_call 29; (with_reducible refine (tk1 _ HTE.out).mono ?_); rintro e w' ⟨rfl, rfl⟩)
              | (go_at_call 29; (with_reducible refine (tk2 _ HTD.out).mono ?_); rintro e w' ⟨rfl, rfl⟩)
              | (go_at_call 29; (with_reducible refine (tk2 _ HTE.out).mono ?_); rintro e w' ⟨rfl, rfl⟩)
              | (go_at_call 29; (with_reducible refine (tk3 _ HTD.out).mono ?_); rintro e w' ⟨rfl, rfl⟩)
              | (go_at_call 29; (with_reducible refine (tk3 _ HTE.out).mono ?_); rintro e w' ⟨rfl, rfl⟩)
              | (go_at_call 29; (with_reducible refine (tk4 _ HTD.out).mono ?_); rintro e w' ⟨rfl, rfl⟩)
              | (go_at_call 29; (with_reducible refine (tk4 _ HTE.out).mono ?_); rintro e w' ⟨rfl, rfl⟩)
              | (go_at_call 29; (with_reducible refine (tk5 _ HTD.out).mono ?_); rintro e w' ⟨rfl, rfl⟩)
              | (go_at_call 29; (with_reducible refine (tk5 _ HTE.out).mono ?_); rintro e w' ⟨rfl, rfl⟩))
          all_goals trace "WAY"
          all_goals go_wp2_with fail
          all_goals go_meet
          all_goals exact ⟨rfl, rfl⟩
        case rest =>
          obtain ⟨rfl, HWC⟩ := hcut
          have HRT : Hid (RB wc wr.heap.size (.int .u64 n0) (.int .i64 n1) (.int .i64 n2) (.int .i64 n3) (.int .u32 n4) (.int .u64 n5)) := by show RB _ _ _ _ _ _ _ _; rw [HWC.out]; exact (RB.made wr _ _ _ _ _ _).below (Below.refl _ _).drew
          have HWB : Hid (Below wr.heap.size wr wc) := by show Below _ _ _; rw [HWC.out]; exact (below_alloc wr _).drew
          have HBC : Hid (Below w.heap.size w wc) := Below.then_ (Below.then_ HBB.out HB.out HBB.out.size) HWB.out (Nat.le_trans HBB.out.size HB.out.size)
          have HXC : Hid (RB wc w.heap.size (.int .u64 0) (.int .i64 0) (.int .i64 0) (.int .i64 0) (.int .u32 0) (.int .u64 0)) := RB.below (RB.below HX0.out HB.out) HWB.out
          have HBRC : Hid (BR wc (some ad) 32 b) := (HBR.out.below HB.out).below HWB.out
          have HRL : Hid (w.heap.size < wr.heap.size) := Nat.lt_of_lt_of_le HSZ.out HB.out.size
          obtain ⟨rb, hrb⟩ : ∃ rb, rb = wr.heap.size := ⟨_, rfl⟩
          rw [← hrb] at HRT HRL ⊢
          clear HWC hrb HWB HTD HTE HB HT HBB HX0 HBR HSZ
          have p0 := HRT.out.c0
          have p1 := HRT.out.c1
          have p2 := HRT.out.c2
          have p3 := HRT.out.c3
          have p4 := HRT.out.c4
          have p5 := HRT.out.c5
          have l4s : n4 < 4294967296 := by omega
          have oc := fun (w : World) => rroct_any w (parse t) (by rw [HPA.out]; exact l4s)
          unfold rtv at oc
          rw [HPA.out] at oc
          simp only at oc
          obtain ⟨ys, x, hys⟩ : ∃ ys x, octS (parse t) = (ys, x) := ⟨_, _, rfl⟩
          have HYS := hide hys
          rw [HPA.out] at hys
          simp only [hys] at oc
          clear hys l0 l1 l2 l3 l4 l5 l4s v1 v2 v3 v4 tk0 tk1 tk2 tk3 tk4 tk5
          by_cases hx : x = 0
          · subst hx
            by_cases hy : ys = b
            · have HS : Hid (ofS b = (⟨n0, (n1 : Int), (n2 : Int), (n3 : Int), n4, n5⟩, 0)) := by
                show _ = _
                rw [← HPA.out, HTT.out]
                exact ofS_ok HL.out (by rw [← HTT.out, HYS.out, hy])
              go_wp2_with (first
                | (go_at_call 12; (with_reducible refine (oc _).mono ?_); rintro e w2 ⟨Ay, ny, cy, rfl, ho, hb⟩; have HY := hide ho; have hs1 := run_str w2 Ay ny cy ys ho.reads; have hs2 := run_str w2 (some ad) 32 c b (HBRC.out.below hb); have R2 := HRT.out.below hb; replace p0 := R2.c0; replace p1 := R2.c1; replace p2 := R2.c2; replace p3 := R2.c3; replace p4 := R2.c4; replace p5 := R2.c5; have X2 := HXC.out.below hb; have x0 := X2.c0; have x1 := X2.c1; have x2 := X2.c2; have x3 := X2.c3; have x4 := X2.c4; have x5 := X2.c5; have f0 := X2.f 0; have f1 := X2.f 1; have f2 := X2.f 2; have f3 := X2.f 3; have f4 := X2.f 4; have f5 := X2.f 5; have HX2 := hide X2; have HB2 := hide (Below.then_ HBC.out hb HBC.out.size); clear X2 R2 hb ho))
              have hF := HX2.out.laid (u0 := .int .u64 n0) (u1 := .int .i64 n1) (u2 := .int .i64 n2) (u3 := .int .i64 n3) (u4 := .int .u32 n4) (u5 := .int .u64 n5)
              have r0 := hF.c0
              have r1 := hF.c1
              have r2 := hF.c2
              have r3 := hF.c3
              have r4 := hF.c4
              have r5 := hF.c5
              unfold laidR at r0 r1 r2 r3 r4 r5
              rw [HS.out]
              exact bodyPost_ret (v := .tuple #[.agg #[.int .u64 n0, .int .i64 n1, .int .i64 n2, .int .i64 n3, .int .u32 n4, .int .u64 n5], .int .i64 0]) (by simp [results, Tryd.results14, go_sem, r0, r1, r2, r3, r4, r5]) rfl ⟨rfl, below_laid HB2.out (Nat.le_refl _)⟩
            · have HS : Hid (ofS b = (Rt.zero, 2)) := ofS_bad (fun h => hy (by have h2 := h.2; rw [← HTT.out, HYS.out] at h2; exact congrArg Prod.fst h2))
              have hye : (ys == b) = false := by rw [beq_eq_false_iff_ne]; exact hy
              go_wp2_with (first
                | (go_at_call 12; (with_reducible refine (oc _).mono ?_); rintro e w2 ⟨Ay, ny, cy, rfl, ho, hb⟩; have HY := hide ho; have hs1 := run_str w2 Ay ny cy ys ho.reads; have hs2 := run_str w2 (some ad) 32 c b (HBRC.out.below hb); have R2 := HRT.out.below hb; replace p0 := R2.c0; replace p1 := R2.c1; replace p2 := R2.c2; replace p3 := R2.c3; replace p4 := R2.c4; replace p5 := R2.c5; have X2 := HXC.out.below hb; have x0 := X2.c0; have x1 := X2.c1; have x2 := X2.c2; have x3 := X2.c3; have x4 := X2.c4; have x5 := X2.c5; have f0 := X2.f 0; have f1 := X2.f 1; have f2 := X2.f 2; have f3 := X2.f 3; have f4 := X2.f 4; have f5 := X2.f 5; have HX2 := hide X2; have HB2 := hide (Below.then_ HBC.out hb HBC.out.size); clear X2 R2 hb ho))
              have hF := HX2.out.laid (u0 := .int .u64 0) (u1 := .int .i64 0) (u2 := .int .i64 0) (u3 := .int .i64 0) (u4 := .int .u32 0) (u5 := .int .u64 0)
              have r0 := hF.c0
              have r1 := hF.c1
              have r2 := hF.c2
              have r3 := hF.c3
              have r4 := hF.c4
              have r5 := hF.c5
              unfold laidR at r0 r1 r2 r3 r4 r5
              rw [HS.out]
              exact bodyPost_ret (v := .tuple #[.agg #[.int .u64 0, .int .i64 0, .int .i64 0, .int .i64 0, .int .u32 0, .int .u64 0], .int .i64 2]) (by simp [results, Tryd.results14, go_sem, r0, r1, r2, r3, r4, r5]) rfl ⟨rfl, below_laid HB2.out (Nat.le_refl _)⟩
          · have HS : Hid (ofS b = (Rt.zero, 2)) := ofS_bad (fun h => hx (by have h2 := h.2; rw [← HTT.out, HYS.out] at h2; exact congrArg Prod.snd h2))
            have hxz : (x != 0) = true := by rw [bne_iff_ne]; exact hx
            clear hx
            go_wp2_with (first
              | (go_at_call 12; (with_reducible refine (oc _).mono ?_); rintro e w2 ⟨Ay, ny, cy, rfl, ho, hb⟩; have HY := hide ho; have hs1 := run_str w2 Ay ny cy ys ho.reads; have hs2 := run_str w2 (some ad) 32 c b (HBRC.out.below hb); have R2 := HRT.out.below hb; replace p0 := R2.c0; replace p1 := R2.c1; replace p2 := R2.c2; replace p3 := R2.c3; replace p4 := R2.c4; replace p5 := R2.c5; have X2 := HXC.out.below hb; have x0 := X2.c0; have x1 := X2.c1; have x2 := X2.c2; have x3 := X2.c3; have x4 := X2.c4; have x5 := X2.c5; have f0 := X2.f 0; have f1 := X2.f 1; have f2 := X2.f 2; have f3 := X2.f 3; have f4 := X2.f 4; have f5 := X2.f 5; have HX2 := hide X2; have HB2 := hide (Below.then_ HBC.out hb HBC.out.size); clear X2 R2 hb ho))
            have hF := HX2.out.laid (u0 := .int .u64 0) (u1 := .int .i64 0) (u2 := .int .i64 0) (u3 := .int .i64 0) (u4 := .int .u32 0) (u5 := .int .u64 0)
            have r0 := hF.c0
            have r1 := hF.c1
            have r2 := hF.c2
            have r3 := hF.c3
            have r4 := hF.c4
            have r5 := hF.c5
            unfold laidR at r0 r1 r2 r3 r4 r5
            rw [HS.out]
            exact bodyPost_ret (v := .tuple #[.agg #[.int .u64 0, .int .i64 0, .int .i64 0, .int .i64 0, .int .u32 0, .int .u64 0], .int .i64 2]) (by simp [results, Tryd.results14, go_sem, r0, r1, r2, r3, r4, r5]) rfl ⟨rfl, below_laid HB2.out (Nat.le_refl _)⟩
  · have HS : Hid (ofS b = (Rt.zero, 2)) := ofS_bad (fun h => h32 (by have := hr.len; omega))
    have h32z : ((n : Int) != 32) = true := by rw [bne_iff_ne]; omega
    go_enter Tryd.func14, Tryd.ntmps14
    go_wp2_with fail
    have r0 := HX.out.c0
    have r1 := HX.out.c1
    have r2 := HX.out.c2
    have r3 := HX.out.c3
    have r4 := HX.out.c4
    have r5 := HX.out.c5
    rw [HS.out]
    exact bodyPost_ret (v := .tuple #[.agg #[.int .u64 0, .int .i64 0, .int .i64 0, .int .i64 0, .int .u32 0, .int .u64 0], .int .i64 2]) (by simp [results, Tryd.results14, go_sem, r0, r1, r2, r3, r4, r5]) rfl ⟨rfl, HB0.out⟩
end Go.Proofs.YthhemdjggdgaaaaDoor
