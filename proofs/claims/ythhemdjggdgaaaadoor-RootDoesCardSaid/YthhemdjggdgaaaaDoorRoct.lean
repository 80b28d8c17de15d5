/- A root's octets: the walk. -/
import Derived.Test.YthhemdjggdgaaaaDoorRoctP
namespace Go.Proofs.YthhemdjggdgaaaaDoor
open Go.RowKit
set_option linter.unusedVariables false

set_option maxRecDepth 100000 in
set_option maxHeartbeats 4000000 in
theorem rtoct_any (w : World) (r : Rt) (hs : r.sum < 4294967296) (hw : Wd w) : Calls Tryd.prog 11 #[rtv r] w (RPost w (octS r).1 (octS r).2) := by
  obtain ⟨i0, hi0, hz0, hz1, hz2⟩ := info_parts u8_info
  have HWd := hide hw
  have hpos := hw.pos
  clear hw
  have ck := fun w => rtcheck_any w r
  by_cases hg : RGood r
  · have HS := hide (octS_ok hg)
    rw [rchk_zero hg] at ck
    obtain ⟨g1, g2, n2, a1, a2, l1, l2, o1, o2⟩ := hg
    obtain ⟨gen, at_, len, long, sum, next⟩ := r
    simp only at g1 g2 n2 a1 a2 l1 l2 o1 o2 hs
    obtain ⟨a, rfl⟩ : ∃ a : Nat, at_ = a := ⟨at_.toNat, by omega⟩
    obtain ⟨l, rfl⟩ : ∃ l : Nat, len = l := ⟨len.toNat, by omega⟩
    obtain ⟨o, rfl⟩ : ∃ o : Nat, long = o := ⟨long.toNat, by omega⟩
    obtain ⟨x, hx⟩ : ∃ x : Nums, x = ⟨gen, a, l, o, sum, next⟩ := ⟨_, rfl⟩
    have HX : Hid (x = ⟨gen, a, l, o, sum, next⟩) := hx
    have HXN : Hid (octs (Rt.nums ⟨gen, a, l, o, sum, next⟩) = octs x) := by show _ = _; rw [hx]; rfl
    clear hx
    unfold rtv at ck ⊢
    simp only at ck ⊢
    have wa : IntKind.u64.wrap (a : Int) = a := by rw [IntKind.wrap_u64]; omega
    have wl : IntKind.u64.wrap (l : Int) = l := by rw [IntKind.wrap_u64]; omega
    have wo : IntKind.u64.wrap (o : Int) = o := by rw [IntKind.wrap_u64]; omega
    have ws : IntKind.u64.wrap (sum : Int) = sum := by rw [IntKind.wrap_u64]; omega
    go_enter Tryd.func11, Tryd.ntmps11
    go_wp2_with (first
      | (go_at_call 21; (with_reducible refine (ck _).mono ?_); rintro e w1 ⟨rfl, hb⟩; have k0 := (hb.cell (p := ⟨w.heap.size, 0, none⟩) (by simp)).trans (box_cell w _ _ 0 _ rfl); have k1 := (hb.cell (p := ⟨w.heap.size, 1, none⟩) (by simp)).trans (box_cell w _ _ 1 _ rfl); have k2 := (hb.cell (p := ⟨w.heap.size, 2, none⟩) (by simp)).trans (box_cell w _ _ 2 _ rfl); have k3 := (hb.cell (p := ⟨w.heap.size, 3, none⟩) (by simp)).trans (box_cell w _ _ 3 _ rfl); have k4 := (hb.cell (p := ⟨w.heap.size, 4, none⟩) (by simp)).trans (box_cell w _ _ 4 _ rfl); have k5 := (hb.cell (p := ⟨w.heap.size, 5, none⟩) (by simp)).trans (box_cell w _ _ 5 _ rfl); have HK0 := hide k0; have HB1 := hide (Below.then (below_alloc w _) hb); have HW1 := hide (HWd.out.below HB1.out hpos); have hsz : w.heap.size < w1.heap.size := Nat.lt_of_lt_of_le (by simp) hb.size; clear hb))
    go_loopw [5, 34] (fun u v wk => ∃ (i : Nat) (A : Option Addr) (n c : Nat), u = .slice A n c ∧ v = .int .i64 i ∧ i ≤ 7 ∧ n ≤ 24 ∧ Hid (OB w1.heap.size wk A n c (bodyU x i)) ∧ Hid (Below w1.heap.size w1 wk)) (fun _ v _ => 7 - (intOf v).toNat)
    case atStart => exact ⟨0, none, 0, 0, rfl, rfl, by omega, by omega, OB.nil _ _, Below.refl _ _⟩
    case round =>
      clear k0 k1 k2 k3 k4 k5
      obtain ⟨i, A, n, c, rfl, rfl, hi, hn, HO, HB⟩ := hrel
      have HWr := hide (HW1.out.below HB.out (by omega))
      have hcases : i = 0 ∨ i = 1 ∨ i = 2 ∨ i = 3 ∨ i = 4 ∨ i = 5 ∨ i = 6 ∨ i = 7 := by omega
      rcases hcases with h | h | h | h | h | h | h | h
      · rw [show (i : Int) = 0 by omega]
        subst h
        have d0 := HWr.out.c0
        have hl0 : n = (bodyU x 0).length := HO.out.len.symm
        have HLN : Hid ((bodyU x 0).length = 0) := by show _ = _; simp [bodyU, body7, body6, body5, body4, body3, body2, body1, putN_len]
        obtain rfl : 0 = n := by have := HLN.out; omega
        have HFN : Hid (x.gen = gen) := by show _ = _; rw [HX.out]
        clear hl0 hn
        have xi : ∀ w : World, (Instr.index 57 (.agg #[.int .u64 gen, .int .u64 a, .int .u64 l, .int .u64 o, .int .u64 sum, .int .u64 next, .int .u64 0]) (.int .i64 0)).run Tryd.prog w = .ok (.int .u64 gen) w := fun _ => by kernel_rfl
        go_wp2_with fail
        go_loopw [5, 41] (fun u v wk => ∃ (k : Nat) (A : Option Addr) (n c : Nat), u = .slice A n c ∧ v = .int .i64 k ∧ k ≤ 6 ∧ n ≤ 0 + k ∧ Hid (OB w1.heap.size wk A n c (bodyU x 0 ++ putN x.gen k)) ∧ Hid (Below w1.heap.size w1 wk)) (fun _ v _ => 6 - (intOf v).toNat)
        case atStart => exact ⟨0, A, 0, c, rfl, rfl, by omega, by omega, by rw [show putN x.gen 0 = [] from rfl, List.append_nil]; exact HO, HB⟩
        case round =>
          clear d0 HO HB
          obtain ⟨k, A, n, c, rfl, rfl, hk, hnk, HO, HB⟩ := hrel
          have hsz2 : w1.heap.size ≤ wr.heap.size := HB.out.size
          by_cases hkw : k < 6
          · have hkz : (k : Int) < 6 := by omega
            have b1 : (0 : Int) ≤ 8 * (k : Int) := by omega
            have b2 : IntKind.i64.wrap (8 * (k : Int)) = 8 * (k : Int) := IntWalk.i64_in _ (by omega)
            have b3 : (8 * (k : Int)).toNat = 8 * k := by omega
            have HV : Hid (((gen : Nat) : Int) / 2 ^ (8 * k) % 256 = ((byteAt x.gen k).toNat : Int)) := by show _ = _; rw [byteAt_val, HFN.out]
            go_wp2_with (first
              | (at_builtin; refine wpList_append_any _ rfl (.tmp 44) (.tmp 50) 28 rfl w1.heap.size 5 i0 _ 1 1 Tryd.underlying28 hi0 hz0 hz1 hz2 rfl (by omega) (.slice A n c) n (byt (bodyU x 0 ++ putN x.gen k)) rfl (HO.out.alloc _) _ (some ⟨wr.heap.size, 0, none⟩) 1 1 (byt [byteAt x.gen k]) rfl (one_octv wr (byteAt x.gen k) _ HV.out) (byt_one _) (by simp only [maxLen]; omega) (by omega) (by simp; omega) ?_; intro v1 w2 hown1 hg1 hat1; obtain ⟨A1, c1, rfl⟩ := row_slice hown1; rw [← byt_append, List.append_assoc, putN_snoc] at hown1; have HO1 : Hid (OB w1.heap.size w2 A1 (n + 1) c1 (bodyU x 0 ++ putN x.gen (k + 1))) := hide hown1; have HB2 := hide ((HB.out.alloc hsz2 (.cells #[.int .u8 (_)] 5)).grown hg1 (by simp; omega) (fun q hq => (World.ownsRow.lt HO.out q hq).1)); clear hown1 hg1 hat1))
            go_roundw
            case rel => exact ⟨k + 1, A1, n + 1, c1, rfl, by go_num, by omega, by omega, HO1, HB2⟩
            case measure => simp [intOf]; omega
          · have hkz : ¬ (k : Int) < 6 := by omega
            obtain rfl : k = 6 := by omega
            go_wp2_with fail
            go_roundw
            case rel => exact ⟨1, A, n, c, rfl, rfl, by omega, by omega, HO, HB⟩
            case measure => simp [intOf]
      · rw [show (i : Int) = 1 by omega]
        subst h
        have d1 := HWr.out.c1
        have hl0 : n = (bodyU x 1).length := HO.out.len.symm
        have HLN : Hid ((bodyU x 1).length = 6) := by show _ = _; simp [bodyU, body7, body6, body5, body4, body3, body2, body1, putN_len]
        obtain rfl : 6 = n := by have := HLN.out; omega
        have HFN : Hid (x.at_ = a) := by show _ = _; rw [HX.out]
        clear hl0 hn
        have xi : ∀ w : World, (Instr.index 57 (.agg #[.int .u64 gen, .int .u64 a, .int .u64 l, .int .u64 o, .int .u64 sum, .int .u64 next, .int .u64 0]) (.int .i64 1)).run Tryd.prog w = .ok (.int .u64 a) w := fun _ => by kernel_rfl
        go_wp2_with fail
        go_loopw [5, 41] (fun u v wk => ∃ (k : Nat) (A : Option Addr) (n c : Nat), u = .slice A n c ∧ v = .int .i64 k ∧ k ≤ 2 ∧ n ≤ 6 + k ∧ Hid (OB w1.heap.size wk A n c (bodyU x 1 ++ putN x.at_ k)) ∧ Hid (Below w1.heap.size w1 wk)) (fun _ v _ => 2 - (intOf v).toNat)
        case atStart => exact ⟨0, A, 6, c, rfl, rfl, by omega, by omega, by rw [show putN x.at_ 0 = [] from rfl, List.append_nil]; exact HO, HB⟩
        case round =>
          clear d1 HO HB
          obtain ⟨k, A, n, c, rfl, rfl, hk, hnk, HO, HB⟩ := hrel
          have hsz2 : w1.heap.size ≤ wr.heap.size := HB.out.size
          by_cases hkw : k < 2
          · have hkz : (k : Int) < 2 := by omega
            have b1 : (0 : Int) ≤ 8 * (k : Int) := by omega
            have b2 : IntKind.i64.wrap (8 * (k : Int)) = 8 * (k : Int) := IntWalk.i64_in _ (by omega)
            have b3 : (8 * (k : Int)).toNat = 8 * k := by omega
            have HV : Hid (((a : Nat) : Int) / 2 ^ (8 * k) % 256 = ((byteAt x.at_ k).toNat : Int)) := by show _ = _; rw [byteAt_val, HFN.out]
            go_wp2_with (first
              | (at_builtin; refine wpList_append_any _ rfl (.tmp 44) (.tmp 50) 28 rfl w1.heap.size 5 i0 _ 1 1 Tryd.underlying28 hi0 hz0 hz1 hz2 rfl (by omega) (.slice A n c) n (byt (bodyU x 1 ++ putN x.at_ k)) rfl (HO.out.alloc _) _ (some ⟨wr.heap.size, 0, none⟩) 1 1 (byt [byteAt x.at_ k]) rfl (one_octv wr (byteAt x.at_ k) _ HV.out) (byt_one _) (by simp only [maxLen]; omega) (by omega) (by simp; omega) ?_; intro v1 w2 hown1 hg1 hat1; obtain ⟨A1, c1, rfl⟩ := row_slice hown1; rw [← byt_append, List.append_assoc, putN_snoc] at hown1; have HO1 : Hid (OB w1.heap.size w2 A1 (n + 1) c1 (bodyU x 1 ++ putN x.at_ (k + 1))) := hide hown1; have HB2 := hide ((HB.out.alloc hsz2 (.cells #[.int .u8 (_)] 5)).grown hg1 (by simp; omega) (fun q hq => (World.ownsRow.lt HO.out q hq).1)); clear hown1 hg1 hat1))
            go_roundw
            case rel => exact ⟨k + 1, A1, n + 1, c1, rfl, by go_num, by omega, by omega, HO1, HB2⟩
            case measure => simp [intOf]; omega
          · have hkz : ¬ (k : Int) < 2 := by omega
            obtain rfl : k = 2 := by omega
            go_wp2_with fail
            go_roundw
            case rel => exact ⟨2, A, n, c, rfl, rfl, by omega, by omega, HO, HB⟩
            case measure => simp [intOf]
      · rw [show (i : Int) = 2 by omega]
        subst h
        have d2 := HWr.out.c2
        have hl0 : n = (bodyU x 2).length := HO.out.len.symm
        have HLN : Hid ((bodyU x 2).length = 8) := by show _ = _; simp [bodyU, body7, body6, body5, body4, body3, body2, body1, putN_len]
        obtain rfl : 8 = n := by have := HLN.out; omega
        have HFN : Hid (x.len = l) := by show _ = _; rw [HX.out]
        clear hl0 hn
        have xi : ∀ w : World, (Instr.index 57 (.agg #[.int .u64 gen, .int .u64 a, .int .u64 l, .int .u64 o, .int .u64 sum, .int .u64 next, .int .u64 0]) (.int .i64 2)).run Tryd.prog w = .ok (.int .u64 l) w := fun _ => by kernel_rfl
        go_wp2_with fail
        go_loopw [5, 41] (fun u v wk => ∃ (k : Nat) (A : Option Addr) (n c : Nat), u = .slice A n c ∧ v = .int .i64 k ∧ k ≤ 2 ∧ n ≤ 8 + k ∧ Hid (OB w1.heap.size wk A n c (bodyU x 2 ++ putN x.len k)) ∧ Hid (Below w1.heap.size w1 wk)) (fun _ v _ => 2 - (intOf v).toNat)
        case atStart => exact ⟨0, A, 8, c, rfl, rfl, by omega, by omega, by rw [show putN x.len 0 = [] from rfl, List.append_nil]; exact HO, HB⟩
        case round =>
          clear d2 HO HB
          obtain ⟨k, A, n, c, rfl, rfl, hk, hnk, HO, HB⟩ := hrel
          have hsz2 : w1.heap.size ≤ wr.heap.size := HB.out.size
          by_cases hkw : k < 2
          · have hkz : (k : Int) < 2 := by omega
            have b1 : (0 : Int) ≤ 8 * (k : Int) := by omega
            have b2 : IntKind.i64.wrap (8 * (k : Int)) = 8 * (k : Int) := IntWalk.i64_in _ (by omega)
            have b3 : (8 * (k : Int)).toNat = 8 * k := by omega
            have HV : Hid (((l : Nat) : Int) / 2 ^ (8 * k) % 256 = ((byteAt x.len k).toNat : Int)) := by show _ = _; rw [byteAt_val, HFN.out]
            go_wp2_with (first
              | (at_builtin; refine wpList_append_any _ rfl (.tmp 44) (.tmp 50) 28 rfl w1.heap.size 5 i0 _ 1 1 Tryd.underlying28 hi0 hz0 hz1 hz2 rfl (by omega) (.slice A n c) n (byt (bodyU x 2 ++ putN x.len k)) rfl (HO.out.alloc _) _ (some ⟨wr.heap.size, 0, none⟩) 1 1 (byt [byteAt x.len k]) rfl (one_octv wr (byteAt x.len k) _ HV.out) (byt_one _) (by simp only [maxLen]; omega) (by omega) (by simp; omega) ?_; intro v1 w2 hown1 hg1 hat1; obtain ⟨A1, c1, rfl⟩ := row_slice hown1; rw [← byt_append, List.append_assoc, putN_snoc] at hown1; have HO1 : Hid (OB w1.heap.size w2 A1 (n + 1) c1 (bodyU x 2 ++ putN x.len (k + 1))) := hide hown1; have HB2 := hide ((HB.out.alloc hsz2 (.cells #[.int .u8 (_)] 5)).grown hg1 (by simp; omega) (fun q hq => (World.ownsRow.lt HO.out q hq).1)); clear hown1 hg1 hat1))
            go_roundw
            case rel => exact ⟨k + 1, A1, n + 1, c1, rfl, by go_num, by omega, by omega, HO1, HB2⟩
            case measure => simp [intOf]; omega
          · have hkz : ¬ (k : Int) < 2 := by omega
            obtain rfl : k = 2 := by omega
            go_wp2_with fail
            go_roundw
            case rel => exact ⟨3, A, n, c, rfl, rfl, by omega, by omega, HO, HB⟩
            case measure => simp [intOf]
      · rw [show (i : Int) = 3 by omega]
        subst h
        have d3 := HWr.out.c3
        have hl0 : n = (bodyU x 3).length := HO.out.len.symm
        have HLN : Hid ((bodyU x 3).length = 10) := by show _ = _; simp [bodyU, body7, body6, body5, body4, body3, body2, body1, putN_len]
        obtain rfl : 10 = n := by have := HLN.out; omega
        have HFN : Hid (x.long = o) := by show _ = _; rw [HX.out]
        clear hl0 hn
        have xi : ∀ w : World, (Instr.index 57 (.agg #[.int .u64 gen, .int .u64 a, .int .u64 l, .int .u64 o, .int .u64 sum, .int .u64 next, .int .u64 0]) (.int .i64 3)).run Tryd.prog w = .ok (.int .u64 o) w := fun _ => by kernel_rfl
        go_wp2_with fail
        go_loopw [5, 41] (fun u v wk => ∃ (k : Nat) (A : Option Addr) (n c : Nat), u = .slice A n c ∧ v = .int .i64 k ∧ k ≤ 3 ∧ n ≤ 10 + k ∧ Hid (OB w1.heap.size wk A n c (bodyU x 3 ++ putN x.long k)) ∧ Hid (Below w1.heap.size w1 wk)) (fun _ v _ => 3 - (intOf v).toNat)
        case atStart => exact ⟨0, A, 10, c, rfl, rfl, by omega, by omega, by rw [show putN x.long 0 = [] from rfl, List.append_nil]; exact HO, HB⟩
        case round =>
          clear d3 HO HB
          obtain ⟨k, A, n, c, rfl, rfl, hk, hnk, HO, HB⟩ := hrel
          have hsz2 : w1.heap.size ≤ wr.heap.size := HB.out.size
          by_cases hkw : k < 3
          · have hkz : (k : Int) < 3 := by omega
            have b1 : (0 : Int) ≤ 8 * (k : Int) := by omega
            have b2 : IntKind.i64.wrap (8 * (k : Int)) = 8 * (k : Int) := IntWalk.i64_in _ (by omega)
            have b3 : (8 * (k : Int)).toNat = 8 * k := by omega
            have HV : Hid (((o : Nat) : Int) / 2 ^ (8 * k) % 256 = ((byteAt x.long k).toNat : Int)) := by show _ = _; rw [byteAt_val, HFN.out]
            go_wp2_with (first
              | (at_builtin; refine wpList_append_any _ rfl (.tmp 44) (.tmp 50) 28 rfl w1.heap.size 5 i0 _ 1 1 Tryd.underlying28 hi0 hz0 hz1 hz2 rfl (by omega) (.slice A n c) n (byt (bodyU x 3 ++ putN x.long k)) rfl (HO.out.alloc _) _ (some ⟨wr.heap.size, 0, none⟩) 1 1 (byt [byteAt x.long k]) rfl (one_octv wr (byteAt x.long k) _ HV.out) (byt_one _) (by simp only [maxLen]; omega) (by omega) (by simp; omega) ?_; intro v1 w2 hown1 hg1 hat1; obtain ⟨A1, c1, rfl⟩ := row_slice hown1; rw [← byt_append, List.append_assoc, putN_snoc] at hown1; have HO1 : Hid (OB w1.heap.size w2 A1 (n + 1) c1 (bodyU x 3 ++ putN x.long (k + 1))) := hide hown1; have HB2 := hide ((HB.out.alloc hsz2 (.cells #[.int .u8 (_)] 5)).grown hg1 (by simp; omega) (fun q hq => (World.ownsRow.lt HO.out q hq).1)); clear hown1 hg1 hat1))
            go_roundw
            case rel => exact ⟨k + 1, A1, n + 1, c1, rfl, by go_num, by omega, by omega, HO1, HB2⟩
            case measure => simp [intOf]; omega
          · have hkz : ¬ (k : Int) < 3 := by omega
            obtain rfl : k = 3 := by omega
            go_wp2_with fail
            go_roundw
            case rel => exact ⟨4, A, n, c, rfl, rfl, by omega, by omega, HO, HB⟩
            case measure => simp [intOf]
      · rw [show (i : Int) = 4 by omega]
        subst h
        have d4 := HWr.out.c4
        have hl0 : n = (bodyU x 4).length := HO.out.len.symm
        have HLN : Hid ((bodyU x 4).length = 13) := by show _ = _; simp [bodyU, body7, body6, body5, body4, body3, body2, body1, putN_len]
        obtain rfl : 13 = n := by have := HLN.out; omega
        have HFN : Hid (x.sum = sum) := by show _ = _; rw [HX.out]
        clear hl0 hn
        have xi : ∀ w : World, (Instr.index 57 (.agg #[.int .u64 gen, .int .u64 a, .int .u64 l, .int .u64 o, .int .u64 sum, .int .u64 next, .int .u64 0]) (.int .i64 4)).run Tryd.prog w = .ok (.int .u64 sum) w := fun _ => by kernel_rfl
        go_wp2_with fail
        go_loopw [5, 41] (fun u v wk => ∃ (k : Nat) (A : Option Addr) (n c : Nat), u = .slice A n c ∧ v = .int .i64 k ∧ k ≤ 4 ∧ n ≤ 13 + k ∧ Hid (OB w1.heap.size wk A n c (bodyU x 4 ++ putN x.sum k)) ∧ Hid (Below w1.heap.size w1 wk)) (fun _ v _ => 4 - (intOf v).toNat)
        case atStart => exact ⟨0, A, 13, c, rfl, rfl, by omega, by omega, by rw [show putN x.sum 0 = [] from rfl, List.append_nil]; exact HO, HB⟩
        case round =>
          clear d4 HO HB
          obtain ⟨k, A, n, c, rfl, rfl, hk, hnk, HO, HB⟩ := hrel
          have hsz2 : w1.heap.size ≤ wr.heap.size := HB.out.size
          by_cases hkw : k < 4
          · have hkz : (k : Int) < 4 := by omega
            have b1 : (0 : Int) ≤ 8 * (k : Int) := by omega
            have b2 : IntKind.i64.wrap (8 * (k : Int)) = 8 * (k : Int) := IntWalk.i64_in _ (by omega)
            have b3 : (8 * (k : Int)).toNat = 8 * k := by omega
            have HV : Hid (((sum : Nat) : Int) / 2 ^ (8 * k) % 256 = ((byteAt x.sum k).toNat : Int)) := by show _ = _; rw [byteAt_val, HFN.out]
            go_wp2_with (first
              | (at_builtin; refine wpList_append_any _ rfl (.tmp 44) (.tmp 50) 28 rfl w1.heap.size 5 i0 _ 1 1 Tryd.underlying28 hi0 hz0 hz1 hz2 rfl (by omega) (.slice A n c) n (byt (bodyU x 4 ++ putN x.sum k)) rfl (HO.out.alloc _) _ (some ⟨wr.heap.size, 0, none⟩) 1 1 (byt [byteAt x.sum k]) rfl (one_octv wr (byteAt x.sum k) _ HV.out) (byt_one _) (by simp only [maxLen]; omega) (by omega) (by simp; omega) ?_; intro v1 w2 hown1 hg1 hat1; obtain ⟨A1, c1, rfl⟩ := row_slice hown1; rw [← byt_append, List.append_assoc, putN_snoc] at hown1; have HO1 : Hid (OB w1.heap.size w2 A1 (n + 1) c1 (bodyU x 4 ++ putN x.sum (k + 1))) := hide hown1; have HB2 := hide ((HB.out.alloc hsz2 (.cells #[.int .u8 (_)] 5)).grown hg1 (by simp; omega) (fun q hq => (World.ownsRow.lt HO.out q hq).1)); clear hown1 hg1 hat1))
            go_roundw
            case rel => exact ⟨k + 1, A1, n + 1, c1, rfl, by go_num, by omega, by omega, HO1, HB2⟩
            case measure => simp [intOf]; omega
          · have hkz : ¬ (k : Int) < 4 := by omega
            obtain rfl : k = 4 := by omega
            go_wp2_with fail
            go_roundw
            case rel => exact ⟨5, A, n, c, rfl, rfl, by omega, by omega, HO, HB⟩
            case measure => simp [intOf]
      · rw [show (i : Int) = 5 by omega]
        subst h
        have d5 := HWr.out.c5
        have hl0 : n = (bodyU x 5).length := HO.out.len.symm
        have HLN : Hid ((bodyU x 5).length = 17) := by show _ = _; simp [bodyU, body7, body6, body5, body4, body3, body2, body1, putN_len]
        obtain rfl : 17 = n := by have := HLN.out; omega
        have HFN : Hid (x.next = next) := by show _ = _; rw [HX.out]
        clear hl0 hn
        have xi : ∀ w : World, (Instr.index 57 (.agg #[.int .u64 gen, .int .u64 a, .int .u64 l, .int .u64 o, .int .u64 sum, .int .u64 next, .int .u64 0]) (.int .i64 5)).run Tryd.prog w = .ok (.int .u64 next) w := fun _ => by kernel_rfl
        go_wp2_with fail
        go_loopw [5, 41] (fun u v wk => ∃ (k : Nat) (A : Option Addr) (n c : Nat), u = .slice A n c ∧ v = .int .i64 k ∧ k ≤ 6 ∧ n ≤ 17 + k ∧ Hid (OB w1.heap.size wk A n c (bodyU x 5 ++ putN x.next k)) ∧ Hid (Below w1.heap.size w1 wk)) (fun _ v _ => 6 - (intOf v).toNat)
        case atStart => exact ⟨0, A, 17, c, rfl, rfl, by omega, by omega, by rw [show putN x.next 0 = [] from rfl, List.append_nil]; exact HO, HB⟩
        case round =>
          clear d5 HO HB
          obtain ⟨k, A, n, c, rfl, rfl, hk, hnk, HO, HB⟩ := hrel
          have hsz2 : w1.heap.size ≤ wr.heap.size := HB.out.size
          by_cases hkw : k < 6
          · have hkz : (k : Int) < 6 := by omega
            have b1 : (0 : Int) ≤ 8 * (k : Int) := by omega
            have b2 : IntKind.i64.wrap (8 * (k : Int)) = 8 * (k : Int) := IntWalk.i64_in _ (by omega)
            have b3 : (8 * (k : Int)).toNat = 8 * k := by omega
            have HV : Hid (((next : Nat) : Int) / 2 ^ (8 * k) % 256 = ((byteAt x.next k).toNat : Int)) := by show _ = _; rw [byteAt_val, HFN.out]
            go_wp2_with (first
              | (at_builtin; refine wpList_append_any _ rfl (.tmp 44) (.tmp 50) 28 rfl w1.heap.size 5 i0 _ 1 1 Tryd.underlying28 hi0 hz0 hz1 hz2 rfl (by omega) (.slice A n c) n (byt (bodyU x 5 ++ putN x.next k)) rfl (HO.out.alloc _) _ (some ⟨wr.heap.size, 0, none⟩) 1 1 (byt [byteAt x.next k]) rfl (one_octv wr (byteAt x.next k) _ HV.out) (byt_one _) (by simp only [maxLen]; omega) (by omega) (by simp; omega) ?_; intro v1 w2 hown1 hg1 hat1; obtain ⟨A1, c1, rfl⟩ := row_slice hown1; rw [← byt_append, List.append_assoc, putN_snoc] at hown1; have HO1 : Hid (OB w1.heap.size w2 A1 (n + 1) c1 (bodyU x 5 ++ putN x.next (k + 1))) := hide hown1; have HB2 := hide ((HB.out.alloc hsz2 (.cells #[.int .u8 (_)] 5)).grown hg1 (by simp; omega) (fun q hq => (World.ownsRow.lt HO.out q hq).1)); clear hown1 hg1 hat1))
            go_roundw
            case rel => exact ⟨k + 1, A1, n + 1, c1, rfl, by go_num, by omega, by omega, HO1, HB2⟩
            case measure => simp [intOf]; omega
          · have hkz : ¬ (k : Int) < 6 := by omega
            obtain rfl : k = 6 := by omega
            go_wp2_with fail
            go_roundw
            case rel => exact ⟨6, A, n, c, rfl, rfl, by omega, by omega, HO, HB⟩
            case measure => simp [intOf]
      · rw [show (i : Int) = 6 by omega]
        subst h
        have d6 := HWr.out.c6
        have hl0 : n = (bodyU x 6).length := HO.out.len.symm
        have HLN : Hid ((bodyU x 6).length = 23) := by show _ = _; simp [bodyU, body7, body6, body5, body4, body3, body2, body1, putN_len]
        obtain rfl : 23 = n := by have := HLN.out; omega
        clear hl0 hn
        have xi : ∀ w : World, (Instr.index 57 (.agg #[.int .u64 gen, .int .u64 a, .int .u64 l, .int .u64 o, .int .u64 sum, .int .u64 next, .int .u64 0]) (.int .i64 6)).run Tryd.prog w = .ok (.int .u64 0) w := fun _ => by kernel_rfl
        go_wp2_with fail
        go_loopw [5, 41] (fun u v wk => ∃ (k : Nat) (A : Option Addr) (n c : Nat), u = .slice A n c ∧ v = .int .i64 k ∧ k ≤ 1 ∧ n ≤ 23 + k ∧ Hid (OB w1.heap.size wk A n c (bodyU x 6 ++ putN 0 k)) ∧ Hid (Below w1.heap.size w1 wk)) (fun _ v _ => 1 - (intOf v).toNat)
        case atStart => exact ⟨0, A, 23, c, rfl, rfl, by omega, by omega, by rw [show putN 0 0 = [] from rfl, List.append_nil]; exact HO, HB⟩
        case round =>
          clear d6 HO HB
          obtain ⟨k, A, n, c, rfl, rfl, hk, hnk, HO, HB⟩ := hrel
          have hsz2 : w1.heap.size ≤ wr.heap.size := HB.out.size
          by_cases hkw : k < 1
          · have hkz : (k : Int) < 1 := by omega
            have b1 : (0 : Int) ≤ 8 * (k : Int) := by omega
            have b2 : IntKind.i64.wrap (8 * (k : Int)) = 8 * (k : Int) := IntWalk.i64_in _ (by omega)
            have b3 : (8 * (k : Int)).toNat = 8 * k := by omega
            have HV : Hid ((0 : Int) = ((byteAt 0 k).toNat : Int)) := by show _ = _; rw [byteAt_val]; simp
            go_wp2_with (first
              | (at_builtin; refine wpList_append_any _ rfl (.tmp 44) (.tmp 50) 28 rfl w1.heap.size 5 i0 _ 1 1 Tryd.underlying28 hi0 hz0 hz1 hz2 rfl (by omega) (.slice A n c) n (byt (bodyU x 6 ++ putN 0 k)) rfl (HO.out.alloc _) _ (some ⟨wr.heap.size, 0, none⟩) 1 1 (byt [byteAt 0 k]) rfl (one_octv wr (byteAt 0 k) _ HV.out) (byt_one _) (by simp only [maxLen]; omega) (by omega) (by simp; omega) ?_; intro v1 w2 hown1 hg1 hat1; obtain ⟨A1, c1, rfl⟩ := row_slice hown1; rw [← byt_append, List.append_assoc, putN_snoc] at hown1; have HO1 : Hid (OB w1.heap.size w2 A1 (n + 1) c1 (bodyU x 6 ++ putN 0 (k + 1))) := hide hown1; have HB2 := hide ((HB.out.alloc hsz2 (.cells #[.int .u8 (_)] 5)).grown hg1 (by simp; omega) (fun q hq => (World.ownsRow.lt HO.out q hq).1)); clear hown1 hg1 hat1))
            go_roundw
            case rel => exact ⟨k + 1, A1, n + 1, c1, rfl, by go_num, by omega, by omega, HO1, HB2⟩
            case measure => simp [intOf]; omega
          · have hkz : ¬ (k : Int) < 1 := by omega
            obtain rfl : k = 1 := by omega
            go_wp2_with fail
            go_roundw
            case rel => exact ⟨7, A, n, c, rfl, rfl, by omega, by omega, HO, HB⟩
            case measure => simp [intOf]
      · rw [show (i : Int) = 7 by omega]
        subst h
        have hl0 : (bodyU x 7).length = n := HO.out.len
        obtain rfl : 24 = n := by rw [show bodyU x 7 = body7 x from rfl, body7_len] at hl0; exact hl0
        obtain ⟨g, rfl⟩ := row_addr HO.out (by omega)
        have hgw := (World.ownsRow.lt HO.out g rfl).2
        have hsz2 : w1.heap.size ≤ wr.heap.size := HB.out.size
        have hcap := (row_cap HO.out).1
        clear hl0 hn hi
        go_wp2_with (first
          | (at_make; refine wpList_make_own _ rfl (.const (.int .i64 0)) (.const (.int .i64 32)) 28 rfl w1.heap.size 5 i0 _ 1 Tryd.underlying28 hi0 hz0 hz1 .i64 .i64 32 32 rfl rfl rfl (by rw [hz2]; omega) (by simp only [maxLen]; omega) hsz2 ?_; intro w2 ho hg; have hb2 : Below wr.heap.size wr w2 := (Below.refl _ _).grown hg (Nat.le_refl _) (fun q hq => by cases hq); have HT2 := hide (HO.out.below hb2); have HU2 : Hid (OB w1.heap.size w2 (some ⟨wr.heap.size, 0, none⟩) 0 32 []) := hide ho; have HB2 := hide (HB.out.trans (hb2.mono hsz2)); clear ho hg hb2))
        go_loopw [5, 9] (fun u v wk => ∃ (j : Nat) (T : Option Addr) (nt ct : Nat) (Ao : Option Addr) (no co : Nat), u = .slice T nt ct ∧ v = .slice Ao no co ∧ j ≤ 8 ∧ Hid (nt = 24 - 3 * j) ∧ Hid (no = 4 * j) ∧ (j < 8 → T = some ⟨g, 3 * j, none⟩ ∧ ct = c - 3 * j) ∧ Hid (OB w1.heap.size wk (some ⟨g, 0, none⟩) 24 c (body7 x)) ∧ Hid (OB w1.heap.size wk Ao no co (octsU x j)) ∧ Hid (∀ q, (Value.slice Ao no co).ownBlock = some q → q ≠ g) ∧ Hid (Below w1.heap.size w1 wk)) (fun u _ _ => match u with | .slice _ n _ => n | _ => 0)
        case atStart => exact ⟨0, _, 24, c, _, 0, 32, rfl, rfl, by omega, rfl, rfl, fun _ => ⟨rfl, by omega⟩, HT2, HU2, fun q hq => by simp [Value.ownBlock] at hq; omega, HB2⟩
        case round =>
          clear HO HB HT2 HU2 HB2 HWr
          obtain ⟨j, T, nt, ct, Ao, no, co, rfl, rfl, hj, HNT, HNO, hT, HT, HU, HNE, HB⟩ := hrel
          have hno32 : no ≤ 32 := by have := HNO.out; omega
          by_cases hj8 : j < 8
          · obtain ⟨rfl, hct⟩ := hT hj8
            have hnt3 : 3 ≤ nt := by have := HNT.out; omega
            have hct3 : 3 ≤ ct := by omega
            have HCT := hide hct
            clear hct hT
            have hz : (0 : Int) < (nt : Int) := by omega
            have b1 : (3 : Int) ≤ (ct : Int) := by omega
            have b2 : (3 : Int) ≤ (nt : Int) := by omega
            have b3 : 3 ≤ nt := by omega
            have b4 : 3 ≤ ct := by omega
            have k0 := (HB.out.cell (p := ⟨w.heap.size, 0, none⟩) hsz).trans HK0.out
            obtain ⟨W1, hW1⟩ : ∃ W1, W1 = (wr.alloc (.cells #[.int .u8 (IntKind.u8.wrap (gen : Int))] 5)).drew := ⟨_, rfl⟩
            have hbw : Below wr.heap.size wr W1 := by rw [hW1]; exact (below_alloc wr _).drew
            have hs1 : W1.heap.size = wr.heap.size + 1 := by rw [hW1]; simp
            have HT1 : Hid (OB w1.heap.size W1 (some ⟨g, 0, none⟩) 24 c (body7 x)) := HT.out.below hbw
            have HU1 : Hid (OB w1.heap.size W1 Ao no co (octsU x j)) := HU.out.below hbw
            have HV : Hid (IntKind.u8.wrap (gen : Int) = ((byteAt x.gen 0).toNat : Int)) := by show _ = _; rw [byteAt_val, HX.out, IntKind.wrap_u8]; simp
            have HR1 : Hid (BR W1 (some ⟨wr.heap.size, 0, none⟩) 1 [byteAt x.gen 0]) := by rw [hW1]; exact (one_octv wr (byteAt x.gen 0) _ HV.out).below (Below.refl _ _).drew
            have HB1 : Hid (Below w1.heap.size w1 W1) := Below.then_ HB.out hbw HB.out.size
            have HSW : Hid (w1.heap.size ≤ wr.heap.size) := HB.out.size
            rw [hW1] at HT1 HU1 HR1 HB1
            clear hW1 hbw hs1
            go_upto_region 17 with fail
            go_region_law (first
              | (refine (step_append_any _ ?h1 (.tmp 60) (.tmp 64) 28 ?h2 w1.heap.size 5 i0 _ 1 1 ?h3 hi0 hz0 hz1 hz2 ?h4 ?h5 (.slice Ao no co) no (byt (octsU x j)) ?h6 HU1.out _ (some ⟨wr.heap.size, 0, none⟩) 1 1 (byt [byteAt x.gen 0]) ?h7 HR1.out ?h8 ?h9 ?h10 ?h11 ?_); (case h1 => rfl); (case h2 => rfl); (case h3 => exact Tryd.underlying28); (case h4 => rfl); (case h5 => omega); (case h6 => rfl); (case h7 => rfl); (case h8 => exact byt_one _); (case h9 => simp only [maxLen]; omega); (case h10 => omega); (case h11 => exact HB1.out.size); intro v1 w2 hown1 hg1 hat1; obtain ⟨A1, c1, rfl⟩ := row_slice hown1; rw [← byt_append] at hown1; have HU2 := hide hown1; have HT2 : Hid (OB w1.heap.size w2 (some ⟨g, 0, none⟩) 24 c (body7 x)) := hide (row_other2 HT1.out hg1 HNE.out); have HNE2 : Hid (∀ q, (Value.slice A1 (no + 1) c1).ownBlock = some q → q ≠ g) := hide (ne_grown HT1.out hat1 HNE.out); have HB2 := hide (HB1.out.grown hg1 HB1.out.size (fun q hq => (World.ownsRow.lt HU1.out q hq).1)); clear hown1 hg1 hat1)
              | (refine (step_append_any _ ?h1 (.tmp 65) (.tmp 67) 28 ?h2 w1.heap.size 5 i0 _ 1 1 ?h3 hi0 hz0 hz1 hz2 ?h4 ?h5 (.slice A1 (no + 1) c1) (no + 1) (byt (octsU x j ++ [byteAt x.gen 0])) ?h6 HU2.out _ (some ⟨g, 3 * j, none⟩) 3 ct (byt (((body7 x).drop (3 * j)).take 3)) ?h7 (part3 HT2.out hj8) ?h8 ?h9 ?h10 ?h11 ?_); (case h1 => rfl); (case h2 => rfl); (case h3 => exact Tryd.underlying28); (case h4 => rfl); (case h5 => omega); (case h6 => rfl); (case h7 => rfl); (case h8 => exact byt_one _); (case h9 => simp only [maxLen]; omega); (case h10 => omega); (case h11 => exact HB2.out.size); intro v2 w3 hown2 hg2 hat2; obtain ⟨A3, c3, rfl⟩ := row_slice hown2; rw [← byt_append] at hown2; have HU3 := hide hown2; have HT3 : Hid (OB w1.heap.size w3 (some ⟨g, 0, none⟩) 24 c (body7 x)) := hide (row_other2 HT2.out hg2 HNE2.out); have HNE3 : Hid (∀ q, (Value.slice A3 (no + 1 + 3) c3).ownBlock = some q → q ≠ g) := hide (ne_grown HT2.out hat2 HNE2.out); have HB3 := hide (HB2.out.grown hg2 HB2.out.size (fun q hq => (World.ownsRow.lt HU2.out q hq).1)); clear hown2 hg2 hat2))
            clear k0
            all_goals
              by_cases h3 : ct = 3
              · subst h3
                go_wp2_with fail
                go_roundw
                case rel => exact ⟨j + 1, _, _, _, A3, no + 1 + 3, c3, rfl, rfl, by omega, hide (by have := HNT.out; omega), hide (by have := HNO.out; omega), fun h => by have := HCT.out; omega, HT3, HU3, HNE3, HB3⟩
                case measure => simp; omega
              · go_wp2_with fail
                go_roundw
                case rel => exact ⟨j + 1, _, _, _, A3, no + 1 + 3, c3, rfl, rfl, by omega, hide (by have := HNT.out; omega), hide (by have := HNO.out; omega), fun h => ⟨rfl, by have := HCT.out; omega⟩, HT3, HU3, HNE3, HB3⟩
                case measure => simp; omega
          · have hj8' : j = 8 := by omega
            subst hj8'
            obtain rfl : 0 = nt := by have := HNT.out; omega
            have hbF := hide (Below.trans HB1.out (HB.out.mono (Nat.le_of_lt hsz)))
            go_wp2_with fail
            go_ret2
            rw [HS.out]
            exact ⟨Ao, no, co, rfl, by have h := HU.out.mono (Nat.le_of_lt hsz); rw [HXN.out]; exact h, hbF.out⟩
  · have HS := hide (octS_bad hg)
    rw [rchk_one hg] at ck
    clear hg
    unfold rtv at ck ⊢
    go_enter Tryd.func11, Tryd.ntmps11
    go_wp2_with (first
      | (go_at_call 21; (with_reducible refine (ck _).mono ?_); rintro e w1 ⟨rfl, hb⟩; have HB1 := hide (Below.then (below_alloc w _) hb); clear hb))
    go_ret2
    rw [HS.out]
    exact ⟨none, 0, 0, rfl, OB.nil _ _, HB1.out⟩
end Go.Proofs.YthhemdjggdgaaaaDoor
