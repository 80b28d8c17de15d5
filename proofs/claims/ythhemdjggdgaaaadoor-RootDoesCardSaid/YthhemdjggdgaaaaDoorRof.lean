/- A root read: the walk. -/
import Derived.Test.YthhemdjggdgaaaaDoorRofP
namespace Go.Proofs.YthhemdjggdgaaaaDoor
open Go.RowKit
set_option linter.unusedVariables false

def RtPost (w : World) (r : Rt) (x : Int) (e : Ending) (w' : World) : Prop := e = .returned (.tuple #[rtv r, .int .i64 x]) ∧ Below w.heap.size w w'
def offs : Nat → Nat
  | 0 => 0
  | 1 => 6
  | 2 => 8
  | 3 => 10
  | 4 => 13
  | 5 => 17
  | 6 => 23
  | _ => 24
/-- The numbers that have been read. -/
def got (t : Bs) (i p : Nat) : Nat := if p < i then (match p with | 0 => leU t 6 | 1 => leU (t.drop 6) 2 | 2 => leU (t.drop 8) 2 | 3 => leU (t.drop 10) 3 | 4 => leU (t.drop 13) 4 | 5 => leU (t.drop 17) 6 | _ => leU (t.drop 23) 1) else 0
theorem drop_getD (bs : Bs) (o k : Nat) : (bs.drop o).getD k 0 = bs.getD (o + k) 0 := by rw [List.getD_eq_getElem?_getD, List.getD_eq_getElem?_getD, List.getElem?_drop]
theorem OB.set_ne {base n c g b i : Nat} {w : World} {bs : Bs} {v : Value} (h : OB base w (some ⟨g, 0, none⟩) n c bs) (hne : g ≠ b) : OB base (w.setCell ⟨b, i, none⟩ v) (some ⟨g, 0, none⟩) n c bs :=
  ownsRow_setCell_other h (fun q => hne (by simpa [Value.ownBlock] using q)) v

set_option maxRecDepth 100000 in
set_option maxHeartbeats 4000000 in
theorem rtof_any (w : World) (A : Option Addr) (n c : Nat) (b : Bs) (hr : BR w A n b) (hn : n ≤ 300000) (hc : n ≤ c) (hw : Wd w) : Calls Tryd.prog 13 #[.slice A n c] w (RtPost w (ofS b).1 (ofS b).2) := by
  obtain ⟨i0, hi0, hz0, hz1, hz2⟩ := info_parts u8_info
  have HWd := hide hw
  have hpos := hw.pos
  have HBR := hide hr
  have hl := hr.len
  clear hw hr
  by_cases h32 : n = 32
  · subst h32
    have HL := hide hl
    clear hl
    obtain ⟨ad, rfl⟩ : ∃ ad, A = some ad := by obtain ⟨ad, e, _⟩ := HBR.out.2 (by omega); exact ⟨ad, e⟩
    go_enter Tryd.func13, Tryd.ntmps13
    go_wp2_with fail
    generalize hW0 : w.alloc (.cells #[.int .u64 0, .int .i64 0, .int .i64 0, .int .i64 0, .int .u32 0, .int .u64 0] 27) = W0
    have hb0 : Below w.heap.size w W0 := by rw [← hW0]; exact below_alloc w _
    have HB0 := hide hb0
    have HR0 := hide (HBR.out.below hb0)
    have HW0 := hide (HWd.out.below hb0 hpos)
    have HX0 : Hid (W0.heap[w.heap.size]? = some (.cells #[.int .u64 0, .int .i64 0, .int .i64 0, .int .i64 0, .int .u32 0, .int .u64 0] 27 (0, 0))) := by show _ = _; rw [← hW0]; exact heap_alloc_new w _
    have hsz : w.heap.size < W0.heap.size := by rw [← hW0]; simp
    clear hb0 hW0
    go_loopw [4, 5] (fun u v wk => ∃ (i : Nat) (T : Option Addr) (nt ct : Nat), u = .slice T nt ct ∧ v = .int .i64 (4 * (i : Int)) ∧ i ≤ 8 ∧ nt ≤ 24 ∧ Hid (OB W0.heap.size wk T nt ct (strip b i)) ∧ Hid (Below W0.heap.size W0 wk)) (fun _ v _ => 32 - (intOf v).toNat)
    case atStart => exact ⟨0, none, 0, 0, rfl, rfl, by omega, by omega, OB.nil _ _, Below.refl _ _⟩
    case round =>
      obtain ⟨i, T, nt, ct, rfl, rfl, hi, hnt, HO, HB⟩ := hrel
      have hszr : W0.heap.size ≤ wr.heap.size := HB.out.size
      by_cases hi8 : i < 8
      · have z0 : 4 * (i : Int) < 32 := by omega
        have b1 : (0 : Int) ≤ 4 * (i : Int) + 1 := by omega
        have b2 : 4 * (i : Int) + 1 ≤ 4 * (i : Int) + 4 := by omega
        have b3 : 4 * (i : Int) + 4 ≤ (c : Int) := by omega
        have b4 : (4 * (i : Int) + 1).toNat = 4 * i + 1 := by omega
        have b5 : (4 * (i : Int) + 4).toNat = 4 * i + 4 := by omega
        have b6 : ¬ c = 4 * i + 1 := by omega
        have w1 : IntKind.i64.wrap (4 * (i : Int) + 1) = 4 * (i : Int) + 1 := IntWalk.i64_in _ (by omega)
        have w2 : IntKind.i64.wrap (4 * (i : Int) + 4) = 4 * (i : Int) + 4 := IntWalk.i64_in _ (by omega)
        have HN : Hid (nt + 3 ≤ 24) := by have h1 : (strip b i).length = nt := HO.out.len; have h2 := strip_len HL.out i hi; show _ ≤ _; omega
        have HP : Hid (BR wr (some (ad.add (4 * i + 1))) 3 ((b.drop (4 * i + 1)).take 3)) := BR.part (HR0.out.below HB.out) (4 * i + 1) 3 (by omega) _ (fun _ ad' e => by injection e with e; subst e; rfl)
        go_wp2_with (first
          | (at_builtin; refine wpList_append_any _ rfl (.tmp 23) (.tmp 29) 28 rfl W0.heap.size 5 i0 _ 1 1 Tryd.underlying28 hi0 hz0 hz1 hz2 rfl (by omega) (.slice T nt ct) nt (byt (strip b i)) rfl HO.out _ (some (ad.add (4 * i + 1))) 3 (c - (4 * i + 1)) (byt ((b.drop (4 * i + 1)).take 3)) rfl HP.out (byt_one _) (by simp only [maxLen]; omega) (by omega) hszr ?_; intro v1 w3 hown1 hg1 hat1; obtain ⟨A1, c1, rfl⟩ := row_slice hown1; rw [← byt_append] at hown1; have HO1 : Hid (OB W0.heap.size w3 A1 (nt + 3) c1 (strip b (i + 1))) := hide hown1; have HB1 := hide (HB.out.grown hg1 hszr (fun q hq => (World.ownsRow.lt HO.out q hq).1)); clear hown1 hg1 hat1))
        go_roundw
        case rel => exact ⟨i + 1, A1, nt + 3, c1, rfl, by go_num, by omega, HN.out, HO1, HB1⟩
        case measure => simp [intOf]; omega
      · have hi' : i = 8 := by omega
        subst hi'
        have z0 : ¬ 4 * ((8 : Nat) : Int) < 32 := by omega
        have hl0 := strip_len HL.out 8 (Nat.le_refl _)
        obtain rfl : 24 = nt := by have h1 : (strip b 8).length = nt := HO.out.len; omega
        obtain ⟨g, rfl⟩ := row_addr HO.out (by omega)
        have HGN : Hid (g < wr.heap.size) := (World.ownsRow.lt HO.out g rfl).2
        have hcap := (row_cap HO.out).1
        have HWr := hide ((HW0.out.below HB.out (by omega)).below (below_alloc wr (.cells #[.int .u64 0, .int .u64 0, .int .u64 0, .int .u64 0, .int .u64 0, .int .u64 0, .int .u64 0] 57)) (by omega))
        have d0 := HWr.out.c0
        have d1 := HWr.out.c1
        have d2 := HWr.out.c2
        have d3 := HWr.out.c3
        have d4 := HWr.out.c4
        have d5 := HWr.out.c5
        have d6 := HWr.out.c6
        go_wp2_with fail
        clear d0 d1 d2 d3 d4 d5 d6
        generalize hnb : wr.heap.size = nb at HGN ⊢
        have HN0 : Hid (NB (wr.alloc (.cells #[.int .u64 0, .int .u64 0, .int .u64 0, .int .u64 0, .int .u64 0, .int .u64 0, .int .u64 0] 57)) nb 0 0 0 0 0 0 0) := by rw [← hnb]; exact NB.made wr
        have HB1 := hide (HB.out.alloc hszr (.cells #[.int .u64 0, .int .u64 0, .int .u64 0, .int .u64 0, .int .u64 0, .int .u64 0, .int .u64 0] 57))
        have HO1 := hide (HO.out.alloc (.cells #[.int .u64 0, .int .u64 0, .int .u64 0, .int .u64 0, .int .u64 0, .int .u64 0, .int .u64 0] 57))
        have hnbS : W0.heap.size ≤ nb := by omega
        generalize hW1 : wr.alloc (.cells #[.int .u64 0, .int .u64 0, .int .u64 0, .int .u64 0, .int .u64 0, .int .u64 0, .int .u64 0] 57) = W1 at HN0 HB1 HO1 HWr ⊢
        obtain ⟨t, ht⟩ : ∃ t, t = strip b 8 := ⟨_, rfl⟩
        have HT := hide ht
        have htl : t.length = 24 := by rw [ht]; exact hl0
        rw [← ht] at HO1
        have HTL := hide htl
        obtain ⟨cq, hcq⟩ : ∃ cq, cq = ct := ⟨_, rfl⟩
        rw [← hcq] at HO1 ⊢
        clear hW1 hnb HO HB ht hl0 htl z0
        go_loopw [4, 32] (fun u v wk => ∃ (i : Nat) (T : Option Addr) (nt ct : Nat), u = .slice T nt ct ∧ v = .int .i64 i ∧ i ≤ 7 ∧ Hid (nt = 24 - offs i) ∧ (i < 7 → T = some ⟨g, offs i, none⟩ ∧ ct = cq - offs i) ∧ Hid (OB W0.heap.size wk (some ⟨g, 0, none⟩) 24 cq t) ∧ Hid (NB wk nb (got t i 0) (got t i 1) (got t i 2) (got t i 3) (got t i 4) (got t i 5) (got t i 6)) ∧ Hid (Below W0.heap.size W0 wk)) (fun _ v _ => 7 - (intOf v).toNat)
        case atStart => exact ⟨0, _, 24, cq, rfl, rfl, by omega, rfl, fun _ => ⟨rfl, rfl⟩, HO1, HN0, HB1⟩
        case round =>
          have hcq24 : 24 ≤ cq := by omega
          clear HN0 HB1 HO1 hcq hcap
          obtain ⟨i, T, nt, ct, rfl, rfl, hi, HNT, hT, HO, HNB, HB⟩ := hrel
          have hcases : i = 0 ∨ i = 1 ∨ i = 2 ∨ i = 3 ∨ i = 4 ∨ i = 5 ∨ i = 6 ∨ i = 7 := by omega
          rcases hcases with h | h | h | h | h | h | h | h
          · rw [show (i : Int) = 0 by omega]
            subst h
            obtain ⟨rfl, hct⟩ := hT (by omega)
            clear hT
            obtain rfl : 24 = nt := by have := HNT.out; simp [offs] at this; omega
            have HCT : Hid (ct = cq - 0) := by show _ = _; simpa [offs] using hct
            have hct2 : 24 ≤ ct := by have := HCT.out; omega
            rw [show offs 0 = 0 from rfl]
            clear hct hi
            have HNB0 : Hid (NB wr nb (leU t 0) (got t 0 1) (got t 0 2) (got t 0 3) (got t 0 4) (got t 0 5) (got t 0 6)) := HNB.out
            have xi : ∀ w : World, (Instr.index 58 (.agg #[.int .i64 6, .int .i64 2, .int .i64 2, .int .i64 3, .int .i64 4, .int .i64 6, .int .i64 1]) (.int .i64 0)).run Tryd.prog w = .ok (.int .i64 6) w := fun _ => by kernel_rfl
            have e1 : (6 : Int) ≤ (ct : Int) := by omega
            have e2 : 6 ≤ ct := by omega
            go_wp2_with fail
            go_loopw [40] (fun v wk => ∃ k : Nat, v = .int .i64 k ∧ k ≤ 6 ∧ Hid (OB W0.heap.size wk (some ⟨g, 0, none⟩) 24 cq t) ∧ Hid (NB wk nb (leU t k) (got t 0 1) (got t 0 2) (got t 0 3) (got t 0 4) (got t 0 5) (got t 0 6)) ∧ Hid (Below W0.heap.size W0 wk)) (fun v _ => 6 - (intOf v).toNat)
            case atStart => exact ⟨0, rfl, by omega, HO, HNB0, HB⟩
            case round =>
              clear HO HNB HNB0 HB
              obtain ⟨k, rfl, hk, HO, HNB, HB⟩ := hrel
              by_cases hkw : k < 6
              · have hkz : (k : Int) < 6 := by omega
                have hk6 : k < 6 := by omega
                have hkl : k < t.length := by rw [HTL.out]; omega
                have q0 := HO.out.cellb k (by omega)
                have HST := hide (or_step hkl hk6)
                have HSH := hide (shl_step (t.getD k 0) hk6)
                generalize hcv : t.getD k 0 = cv at q0 HST HSH
                have q1 := HNB.out.c0
                have q2 := HNB.out.f 0
                have b1 : (0 : Int) ≤ 8 * (k : Int) := by omega
                have b2 : IntKind.i64.wrap (8 * (k : Int)) = 8 * (k : Int) := IntWalk.i64_in _ (by omega)
                have b3 : (8 * (k : Int)).toNat = 8 * k := by omega
                have hv : IntKind.u64.wrap (cv.toNat : Int) = (cv.toNat : Int) := by rw [IntKind.wrap_u64]; have := cv.toNat_lt; omega
                have HV := hide hv
                clear hv
                go_upto_region 15 with fail
                go_region_with (fail)
                all_goals
                  go_wp2_with fail
                  go_roundw
                  case rel =>
                    refine ⟨k + 1, by go_num, by omega, hide ((HO.out.set_ne (show g ≠ nb by have := HGN.out; omega)).below (Below.refl _ _).drew), ?_, hide ((HB.out.setCell hnbS _).drew)⟩
                    rw [HV.out, HSH.out, HST.out]
                    exact hide ((HNB.out.s0 _).below (Below.refl _ _).drew)
                  case measure => simp [intOf]; omega
              · have hkz : ¬ (k : Int) < 6 := by omega
                obtain rfl : k = 6 := by omega
                have e3 : ¬ ct = 6 := by omega
                go_wp2_with fail
                go_roundw
                case rel => exact ⟨1, _, _, _, rfl, rfl, by omega, rfl, fun h => ⟨rfl, by have := HCT.out; simp [offs]; omega⟩, HO, HNB, HB⟩
                case measure => simp [intOf]
          · rw [show (i : Int) = 1 by omega]
            subst h
            obtain ⟨rfl, hct⟩ := hT (by omega)
            clear hT
            obtain rfl : 18 = nt := by have := HNT.out; simp [offs] at this; omega
            have HCT : Hid (ct = cq - 6) := by show _ = _; simpa [offs] using hct
            have hct2 : 18 ≤ ct := by have := HCT.out; omega
            rw [show offs 1 = 6 from rfl]
            clear hct hi
            have HNB0 : Hid (NB wr nb (got t 1 0) (leU (t.drop 6) 0) (got t 1 2) (got t 1 3) (got t 1 4) (got t 1 5) (got t 1 6)) := HNB.out
            have xi : ∀ w : World, (Instr.index 58 (.agg #[.int .i64 6, .int .i64 2, .int .i64 2, .int .i64 3, .int .i64 4, .int .i64 6, .int .i64 1]) (.int .i64 1)).run Tryd.prog w = .ok (.int .i64 2) w := fun _ => by kernel_rfl
            have e1 : (2 : Int) ≤ (ct : Int) := by omega
            have e2 : 2 ≤ ct := by omega
            go_wp2_with fail
            go_loopw [40] (fun v wk => ∃ k : Nat, v = .int .i64 k ∧ k ≤ 2 ∧ Hid (OB W0.heap.size wk (some ⟨g, 0, none⟩) 24 cq t) ∧ Hid (NB wk nb (got t 1 0) (leU (t.drop 6) k) (got t 1 2) (got t 1 3) (got t 1 4) (got t 1 5) (got t 1 6)) ∧ Hid (Below W0.heap.size W0 wk)) (fun v _ => 2 - (intOf v).toNat)
            case atStart => exact ⟨0, rfl, by omega, HO, HNB0, HB⟩
            case round =>
              clear HO HNB HNB0 HB
              obtain ⟨k, rfl, hk, HO, HNB, HB⟩ := hrel
              by_cases hkw : k < 2
              · have hkz : (k : Int) < 2 := by omega
                have hk6 : k < 6 := by omega
                have hkl : k < (t.drop 6).length := by rw [List.length_drop, HTL.out]; omega
                have q0 := HO.out.cellb (6 + k) (by omega)
                rw [← drop_getD] at q0
                have HST := hide (or_step hkl hk6)
                have HSH := hide (shl_step ((t.drop 6).getD k 0) hk6)
                generalize hcv : (t.drop 6).getD k 0 = cv at q0 HST HSH
                have q1 := HNB.out.c1
                have q2 := HNB.out.f 1
                have b1 : (0 : Int) ≤ 8 * (k : Int) := by omega
                have b2 : IntKind.i64.wrap (8 * (k : Int)) = 8 * (k : Int) := IntWalk.i64_in _ (by omega)
                have b3 : (8 * (k : Int)).toNat = 8 * k := by omega
                have hv : IntKind.u64.wrap (cv.toNat : Int) = (cv.toNat : Int) := by rw [IntKind.wrap_u64]; have := cv.toNat_lt; omega
                have HV := hide hv
                clear hv
                go_upto_region 15 with fail
                go_region_with (fail)
                all_goals
                  go_wp2_with fail
                  go_roundw
                  case rel =>
                    refine ⟨k + 1, by go_num, by omega, hide ((HO.out.set_ne (show g ≠ nb by have := HGN.out; omega)).below (Below.refl _ _).drew), ?_, hide ((HB.out.setCell hnbS _).drew)⟩
                    rw [HV.out, HSH.out, HST.out]
                    exact hide ((HNB.out.s1 _).below (Below.refl _ _).drew)
                  case measure => simp [intOf]; omega
              · have hkz : ¬ (k : Int) < 2 := by omega
                obtain rfl : k = 2 := by omega
                have e3 : ¬ ct = 2 := by omega
                go_wp2_with fail
                go_roundw
                case rel => exact ⟨2, _, _, _, rfl, rfl, by omega, rfl, fun h => ⟨rfl, by have := HCT.out; simp [offs]; omega⟩, HO, HNB, HB⟩
                case measure => simp [intOf]
          · rw [show (i : Int) = 2 by omega]
            subst h
            obtain ⟨rfl, hct⟩ := hT (by omega)
            clear hT
            obtain rfl : 16 = nt := by have := HNT.out; simp [offs] at this; omega
            have HCT : Hid (ct = cq - 8) := by show _ = _; simpa [offs] using hct
            have hct2 : 16 ≤ ct := by have := HCT.out; omega
            rw [show offs 2 = 8 from rfl]
            clear hct hi
            have HNB0 : Hid (NB wr nb (got t 2 0) (got t 2 1) (leU (t.drop 8) 0) (got t 2 3) (got t 2 4) (got t 2 5) (got t 2 6)) := HNB.out
            have xi : ∀ w : World, (Instr.index 58 (.agg #[.int .i64 6, .int .i64 2, .int .i64 2, .int .i64 3, .int .i64 4, .int .i64 6, .int .i64 1]) (.int .i64 2)).run Tryd.prog w = .ok (.int .i64 2) w := fun _ => by kernel_rfl
            have e1 : (2 : Int) ≤ (ct : Int) := by omega
            have e2 : 2 ≤ ct := by omega
            go_wp2_with fail
            go_loopw [40] (fun v wk => ∃ k : Nat, v = .int .i64 k ∧ k ≤ 2 ∧ Hid (OB W0.heap.size wk (some ⟨g, 0, none⟩) 24 cq t) ∧ Hid (NB wk nb (got t 2 0) (got t 2 1) (leU (t.drop 8) k) (got t 2 3) (got t 2 4) (got t 2 5) (got t 2 6)) ∧ Hid (Below W0.heap.size W0 wk)) (fun v _ => 2 - (intOf v).toNat)
            case atStart => exact ⟨0, rfl, by omega, HO, HNB0, HB⟩
            case round =>
              clear HO HNB HNB0 HB
              obtain ⟨k, rfl, hk, HO, HNB, HB⟩ := hrel
              by_cases hkw : k < 2
              · have hkz : (k : Int) < 2 := by omega
                have hk6 : k < 6 := by omega
                have hkl : k < (t.drop 8).length := by rw [List.length_drop, HTL.out]; omega
                have q0 := HO.out.cellb (8 + k) (by omega)
                rw [← drop_getD] at q0
                have HST := hide (or_step hkl hk6)
                have HSH := hide (shl_step ((t.drop 8).getD k 0) hk6)
                generalize hcv : (t.drop 8).getD k 0 = cv at q0 HST HSH
                have q1 := HNB.out.c2
                have q2 := HNB.out.f 2
                have b1 : (0 : Int) ≤ 8 * (k : Int) := by omega
                have b2 : IntKind.i64.wrap (8 * (k : Int)) = 8 * (k : Int) := IntWalk.i64_in _ (by omega)
                have b3 : (8 * (k : Int)).toNat = 8 * k := by omega
                have hv : IntKind.u64.wrap (cv.toNat : Int) = (cv.toNat : Int) := by rw [IntKind.wrap_u64]; have := cv.toNat_lt; omega
                have HV := hide hv
                clear hv
                go_upto_region 15 with fail
                go_region_with (fail)
                all_goals
                  go_wp2_with fail
                  go_roundw
                  case rel =>
                    refine ⟨k + 1, by go_num, by omega, hide ((HO.out.set_ne (show g ≠ nb by have := HGN.out; omega)).below (Below.refl _ _).drew), ?_, hide ((HB.out.setCell hnbS _).drew)⟩
                    rw [HV.out, HSH.out, HST.out]
                    exact hide ((HNB.out.s2 _).below (Below.refl _ _).drew)
                  case measure => simp [intOf]; omega
              · have hkz : ¬ (k : Int) < 2 := by omega
                obtain rfl : k = 2 := by omega
                have e3 : ¬ ct = 2 := by omega
                go_wp2_with fail
                go_roundw
                case rel => exact ⟨3, _, _, _, rfl, rfl, by omega, rfl, fun h => ⟨rfl, by have := HCT.out; simp [offs]; omega⟩, HO, HNB, HB⟩
                case measure => simp [intOf]
          · rw [show (i : Int) = 3 by omega]
            subst h
            obtain ⟨rfl, hct⟩ := hT (by omega)
            clear hT
            obtain rfl : 14 = nt := by have := HNT.out; simp [offs] at this; omega
            have HCT : Hid (ct = cq - 10) := by show _ = _; simpa [offs] using hct
            have hct2 : 14 ≤ ct := by have := HCT.out; omega
            rw [show offs 3 = 10 from rfl]
            clear hct hi
            have HNB0 : Hid (NB wr nb (got t 3 0) (got t 3 1) (got t 3 2) (leU (t.drop 10) 0) (got t 3 4) (got t 3 5) (got t 3 6)) := HNB.out
            have xi : ∀ w : World, (Instr.index 58 (.agg #[.int .i64 6, .int .i64 2, .int .i64 2, .int .i64 3, .int .i64 4, .int .i64 6, .int .i64 1]) (.int .i64 3)).run Tryd.prog w = .ok (.int .i64 3) w := fun _ => by kernel_rfl
            have e1 : (3 : Int) ≤ (ct : Int) := by omega
            have e2 : 3 ≤ ct := by omega
            go_wp2_with fail
            go_loopw [40] (fun v wk => ∃ k : Nat, v = .int .i64 k ∧ k ≤ 3 ∧ Hid (OB W0.heap.size wk (some ⟨g, 0, none⟩) 24 cq t) ∧ Hid (NB wk nb (got t 3 0) (got t 3 1) (got t 3 2) (leU (t.drop 10) k) (got t 3 4) (got t 3 5) (got t 3 6)) ∧ Hid (Below W0.heap.size W0 wk)) (fun v _ => 3 - (intOf v).toNat)
            case atStart => exact ⟨0, rfl, by omega, HO, HNB0, HB⟩
            case round =>
              clear HO HNB HNB0 HB
              obtain ⟨k, rfl, hk, HO, HNB, HB⟩ := hrel
              by_cases hkw : k < 3
              · have hkz : (k : Int) < 3 := by omega
                have hk6 : k < 6 := by omega
                have hkl : k < (t.drop 10).length := by rw [List.length_drop, HTL.out]; omega
                have q0 := HO.out.cellb (10 + k) (by omega)
                rw [← drop_getD] at q0
                have HST := hide (or_step hkl hk6)
                have HSH := hide (shl_step ((t.drop 10).getD k 0) hk6)
                generalize hcv : (t.drop 10).getD k 0 = cv at q0 HST HSH
                have q1 := HNB.out.c3
                have q2 := HNB.out.f 3
                have b1 : (0 : Int) ≤ 8 * (k : Int) := by omega
                have b2 : IntKind.i64.wrap (8 * (k : Int)) = 8 * (k : Int) := IntWalk.i64_in _ (by omega)
                have b3 : (8 * (k : Int)).toNat = 8 * k := by omega
                have hv : IntKind.u64.wrap (cv.toNat : Int) = (cv.toNat : Int) := by rw [IntKind.wrap_u64]; have := cv.toNat_lt; omega
                have HV := hide hv
                clear hv
                go_upto_region 15 with fail
                go_region_with (fail)
                all_goals
                  go_wp2_with fail
                  go_roundw
                  case rel =>
                    refine ⟨k + 1, by go_num, by omega, hide ((HO.out.set_ne (show g ≠ nb by have := HGN.out; omega)).below (Below.refl _ _).drew), ?_, hide ((HB.out.setCell hnbS _).drew)⟩
                    rw [HV.out, HSH.out, HST.out]
                    exact hide ((HNB.out.s3 _).below (Below.refl _ _).drew)
                  case measure => simp [intOf]; omega
              · have hkz : ¬ (k : Int) < 3 := by omega
                obtain rfl : k = 3 := by omega
                have e3 : ¬ ct = 3 := by omega
                go_wp2_with fail
                go_roundw
                case rel => exact ⟨4, _, _, _, rfl, rfl, by omega, rfl, fun h => ⟨rfl, by have := HCT.out; simp [offs]; omega⟩, HO, HNB, HB⟩
                case measure => simp [intOf]
          · rw [show (i : Int) = 4 by omega]
            subst h
            obtain ⟨rfl, hct⟩ := hT (by omega)
            clear hT
            obtain rfl : 11 = nt := by have := HNT.out; simp [offs] at this; omega
            have HCT : Hid (ct = cq - 13) := by show _ = _; simpa [offs] using hct
            have hct2 : 11 ≤ ct := by have := HCT.out; omega
            rw [show offs 4 = 13 from rfl]
            clear hct hi
            have HNB0 : Hid (NB wr nb (got t 4 0) (got t 4 1) (got t 4 2) (got t 4 3) (leU (t.drop 13) 0) (got t 4 5) (got t 4 6)) := HNB.out
            have xi : ∀ w : World, (Instr.index 58 (.agg #[.int .i64 6, .int .i64 2, .int .i64 2, .int .i64 3, .int .i64 4, .int .i64 6, .int .i64 1]) (.int .i64 4)).run Tryd.prog w = .ok (.int .i64 4) w := fun _ => by kernel_rfl
            have e1 : (4 : Int) ≤ (ct : Int) := by omega
            have e2 : 4 ≤ ct := by omega
            go_wp2_with fail
            go_loopw [40] (fun v wk => ∃ k : Nat, v = .int .i64 k ∧ k ≤ 4 ∧ Hid (OB W0.heap.size wk (some ⟨g, 0, none⟩) 24 cq t) ∧ Hid (NB wk nb (got t 4 0) (got t 4 1) (got t 4 2) (got t 4 3) (leU (t.drop 13) k) (got t 4 5) (got t 4 6)) ∧ Hid (Below W0.heap.size W0 wk)) (fun v _ => 4 - (intOf v).toNat)
            case atStart => exact ⟨0, rfl, by omega, HO, HNB0, HB⟩
            case round =>
              clear HO HNB HNB0 HB
              obtain ⟨k, rfl, hk, HO, HNB, HB⟩ := hrel
              by_cases hkw : k < 4
              · have hkz : (k : Int) < 4 := by omega
                have hk6 : k < 6 := by omega
                have hkl : k < (t.drop 13).length := by rw [List.length_drop, HTL.out]; omega
                have q0 := HO.out.cellb (13 + k) (by omega)
                rw [← drop_getD] at q0
                have HST := hide (or_step hkl hk6)
                have HSH := hide (shl_step ((t.drop 13).getD k 0) hk6)
                generalize hcv : (t.drop 13).getD k 0 = cv at q0 HST HSH
                have q1 := HNB.out.c4
                have q2 := HNB.out.f 4
                have b1 : (0 : Int) ≤ 8 * (k : Int) := by omega
                have b2 : IntKind.i64.wrap (8 * (k : Int)) = 8 * (k : Int) := IntWalk.i64_in _ (by omega)
                have b3 : (8 * (k : Int)).toNat = 8 * k := by omega
                have hv : IntKind.u64.wrap (cv.toNat : Int) = (cv.toNat : Int) := by rw [IntKind.wrap_u64]; have := cv.toNat_lt; omega
                have HV := hide hv
                clear hv
                go_upto_region 15 with fail
                go_region_with (fail)
                all_goals
                  go_wp2_with fail
                  go_roundw
                  case rel =>
                    refine ⟨k + 1, by go_num, by omega, hide ((HO.out.set_ne (show g ≠ nb by have := HGN.out; omega)).below (Below.refl _ _).drew), ?_, hide ((HB.out.setCell hnbS _).drew)⟩
                    rw [HV.out, HSH.out, HST.out]
                    exact hide ((HNB.out.s4 _).below (Below.refl _ _).drew)
                  case measure => simp [intOf]; omega
              · have hkz : ¬ (k : Int) < 4 := by omega
                obtain rfl : k = 4 := by omega
                have e3 : ¬ ct = 4 := by omega
                go_wp2_with fail
                go_roundw
                case rel => exact ⟨5, _, _, _, rfl, rfl, by omega, rfl, fun h => ⟨rfl, by have := HCT.out; simp [offs]; omega⟩, HO, HNB, HB⟩
                case measure => simp [intOf]
          · rw [show (i : Int) = 5 by omega]
            subst h
            obtain ⟨rfl, hct⟩ := hT (by omega)
            clear hT
            obtain rfl : 7 = nt := by have := HNT.out; simp [offs] at this; omega
            have HCT : Hid (ct = cq - 17) := by show _ = _; simpa [offs] using hct
            have hct2 : 7 ≤ ct := by have := HCT.out; omega
            rw [show offs 5 = 17 from rfl]
            clear hct hi
            have HNB0 : Hid (NB wr nb (got t 5 0) (got t 5 1) (got t 5 2) (got t 5 3) (got t 5 4) (leU (t.drop 17) 0) (got t 5 6)) := HNB.out
            have xi : ∀ w : World, (Instr.index 58 (.agg #[.int .i64 6, .int .i64 2, .int .i64 2, .int .i64 3, .int .i64 4, .int .i64 6, .int .i64 1]) (.int .i64 5)).run Tryd.prog w = .ok (.int .i64 6) w := fun _ => by kernel_rfl
            have e1 : (6 : Int) ≤ (ct : Int) := by omega
            have e2 : 6 ≤ ct := by omega
            go_wp2_with fail
            go_loopw [40] (fun v wk => ∃ k : Nat, v = .int .i64 k ∧ k ≤ 6 ∧ Hid (OB W0.heap.size wk (some ⟨g, 0, none⟩) 24 cq t) ∧ Hid (NB wk nb (got t 5 0) (got t 5 1) (got t 5 2) (got t 5 3) (got t 5 4) (leU (t.drop 17) k) (got t 5 6)) ∧ Hid (Below W0.heap.size W0 wk)) (fun v _ => 6 - (intOf v).toNat)
            case atStart => exact ⟨0, rfl, by omega, HO, HNB0, HB⟩
            case round =>
              clear HO HNB HNB0 HB
              obtain ⟨k, rfl, hk, HO, HNB, HB⟩ := hrel
              by_cases hkw : k < 6
              · have hkz : (k : Int) < 6 := by omega
                have hk6 : k < 6 := by omega
                have hkl : k < (t.drop 17).length := by rw [List.length_drop, HTL.out]; omega
                have q0 := HO.out.cellb (17 + k) (by omega)
                rw [← drop_getD] at q0
                have HST := hide (or_step hkl hk6)
                have HSH := hide (shl_step ((t.drop 17).getD k 0) hk6)
                generalize hcv : (t.drop 17).getD k 0 = cv at q0 HST HSH
                have q1 := HNB.out.c5
                have q2 := HNB.out.f 5
                have b1 : (0 : Int) ≤ 8 * (k : Int) := by omega
                have b2 : IntKind.i64.wrap (8 * (k : Int)) = 8 * (k : Int) := IntWalk.i64_in _ (by omega)
                have b3 : (8 * (k : Int)).toNat = 8 * k := by omega
                have hv : IntKind.u64.wrap (cv.toNat : Int) = (cv.toNat : Int) := by rw [IntKind.wrap_u64]; have := cv.toNat_lt; omega
                have HV := hide hv
                clear hv
                go_upto_region 15 with fail
                go_region_with (fail)
                all_goals
                  go_wp2_with fail
                  go_roundw
                  case rel =>
                    refine ⟨k + 1, by go_num, by omega, hide ((HO.out.set_ne (show g ≠ nb by have := HGN.out; omega)).below (Below.refl _ _).drew), ?_, hide ((HB.out.setCell hnbS _).drew)⟩
                    rw [HV.out, HSH.out, HST.out]
                    exact hide ((HNB.out.s5 _).below (Below.refl _ _).drew)
                  case measure => simp [intOf]; omega
              · have hkz : ¬ (k : Int) < 6 := by omega
                obtain rfl : k = 6 := by omega
                have e3 : ¬ ct = 6 := by omega
                go_wp2_with fail
                go_roundw
                case rel => exact ⟨6, _, _, _, rfl, rfl, by omega, rfl, fun h => ⟨rfl, by have := HCT.out; simp [offs]; omega⟩, HO, HNB, HB⟩
                case measure => simp [intOf]
          · rw [show (i : Int) = 6 by omega]
            subst h
            obtain ⟨rfl, hct⟩ := hT (by omega)
            clear hT
            obtain rfl : 1 = nt := by have := HNT.out; simp [offs] at this; omega
            have HCT : Hid (ct = cq - 23) := by show _ = _; simpa [offs] using hct
            have hct2 : 1 ≤ ct := by have := HCT.out; omega
            rw [show offs 6 = 23 from rfl]
            clear hct hi
            have HNB0 : Hid (NB wr nb (got t 6 0) (got t 6 1) (got t 6 2) (got t 6 3) (got t 6 4) (got t 6 5) (leU (t.drop 23) 0)) := HNB.out
            have xi : ∀ w : World, (Instr.index 58 (.agg #[.int .i64 6, .int .i64 2, .int .i64 2, .int .i64 3, .int .i64 4, .int .i64 6, .int .i64 1]) (.int .i64 6)).run Tryd.prog w = .ok (.int .i64 1) w := fun _ => by kernel_rfl
            have e1 : (1 : Int) ≤ (ct : Int) := by omega
            have e2 : 1 ≤ ct := by omega
            go_wp2_with fail
            go_loopw [40] (fun v wk => ∃ k : Nat, v = .int .i64 k ∧ k ≤ 1 ∧ Hid (OB W0.heap.size wk (some ⟨g, 0, none⟩) 24 cq t) ∧ Hid (NB wk nb (got t 6 0) (got t 6 1) (got t 6 2) (got t 6 3) (got t 6 4) (got t 6 5) (leU (t.drop 23) k)) ∧ Hid (Below W0.heap.size W0 wk)) (fun v _ => 1 - (intOf v).toNat)
            case atStart => exact ⟨0, rfl, by omega, HO, HNB0, HB⟩
            case round =>
              clear HO HNB HNB0 HB
              obtain ⟨k, rfl, hk, HO, HNB, HB⟩ := hrel
              by_cases hkw : k < 1
              · have hkz : (k : Int) < 1 := by omega
                have hk6 : k < 6 := by omega
                have hkl : k < (t.drop 23).length := by rw [List.length_drop, HTL.out]; omega
                have q0 := HO.out.cellb (23 + k) (by omega)
                rw [← drop_getD] at q0
                have HST := hide (or_step hkl hk6)
                have HSH := hide (shl_step ((t.drop 23).getD k 0) hk6)
                generalize hcv : (t.drop 23).getD k 0 = cv at q0 HST HSH
                have q1 := HNB.out.c6
                have q2 := HNB.out.f 6
                have b1 : (0 : Int) ≤ 8 * (k : Int) := by omega
                have b2 : IntKind.i64.wrap (8 * (k : Int)) = 8 * (k : Int) := IntWalk.i64_in _ (by omega)
                have b3 : (8 * (k : Int)).toNat = 8 * k := by omega
                have hv : IntKind.u64.wrap (cv.toNat : Int) = (cv.toNat : Int) := by rw [IntKind.wrap_u64]; have := cv.toNat_lt; omega
                have HV := hide hv
                clear hv
                go_upto_region 15 with fail
                go_region_with (fail)
                all_goals
                  go_wp2_with fail
                  go_roundw
                  case rel =>
                    refine ⟨k + 1, by go_num, by omega, hide ((HO.out.set_ne (show g ≠ nb by have := HGN.out; omega)).below (Below.refl _ _).drew), ?_, hide ((HB.out.setCell hnbS _).drew)⟩
                    rw [HV.out, HSH.out, HST.out]
                    exact hide ((HNB.out.s6 _).below (Below.refl _ _).drew)
                  case measure => simp [intOf]; omega
              · have hkz : ¬ (k : Int) < 1 := by omega
                obtain rfl : k = 1 := by omega
                by_cases e3 : ct = 1
                · subst e3
                  go_wp2_with fail
                  go_roundw
                  case rel => exact ⟨7, _, _, _, rfl, rfl, by omega, rfl, fun h => by omega, HO, HNB, HB⟩
                  case measure => simp [intOf]
                · skip
                  go_wp2_with fail
                  go_roundw
                  case rel => exact ⟨7, _, _, _, rfl, rfl, by omega, rfl, fun h => by omega, HO, HNB, HB⟩
                  case measure => simp [intOf]
          · rw [show (i : Int) = 7 by omega]
            subst h
            clear hT hi HNT
            have HN7 : Hid (NB wr nb (leU t 6) (leU (t.drop 6) 2) (leU (t.drop 8) 2) (leU (t.drop 10) 3) (leU (t.drop 13) 4) (leU (t.drop 17) 6) (leU (t.drop 23) 1)) := HNB.out
            clear HNB
            have q0 := HN7.out.c0
            have q1 := HN7.out.c1
            have q2 := HN7.out.c2
            have q3 := HN7.out.c3
            have q4 := HN7.out.c4
            have q5 := HN7.out.c5
            have hX : RB wr w.heap.size (.int .u64 0) (.int .i64 0) (.int .i64 0) (.int .i64 0) (.int .u32 0) (.int .u64 0) := (HB.out.block w.heap.size hsz).trans HX0.out
            have x0 := hX.c0
            have x1 := hX.c1
            have x2 := hX.c2
            have x3 := hX.c3
            have x4 := hX.c4
            have x5 := hX.c5
            have y0 := hX.f 0
            have y1 := hX.f 1
            have y2 := hX.f 2
            have y3 := hX.f 3
            have y4 := hX.f 4
            have y5 := hX.f 5
            have HX := hide hX
            have l1 : leU (t.drop 6) 2 < 65536 := leU_lt (by rw [List.length_drop, HTL.out]; omega)
            have l2 : leU (t.drop 8) 2 < 65536 := leU_lt (by rw [List.length_drop, HTL.out]; omega)
            have l3 : leU (t.drop 10) 3 < 16777216 := leU_lt (by rw [List.length_drop, HTL.out]; omega)
            have l4 : leU (t.drop 13) 4 < 4294967296 := leU_lt (by rw [List.length_drop, HTL.out]; omega)
            have oc := fun (w : World) (hw : Wd w) => rtoct_any w (parse t) l4 hw
            unfold rtv parse at oc
            simp only at oc
            obtain ⟨ys, x, hys⟩ : ∃ ys x, octS (parse t) = (ys, x) := ⟨_, _, rfl⟩
            have HYS := hide hys
            unfold parse at hys
            simp only [hys] at oc
            generalize hn0 : leU t 6 = n0 at q0 oc
            generalize hn1 : leU (t.drop 6) 2 = n1 at q1 oc l1
            generalize hn2 : leU (t.drop 8) 2 = n2 at q2 oc l2
            generalize hn3 : leU (t.drop 10) 3 = n3 at q3 oc l3
            generalize hn4 : leU (t.drop 13) 4 = n4 at q4 oc l4
            generalize hn5 : leU (t.drop 17) 6 = n5 at q5 oc
            have v1 : IntKind.i64.wrap (n1 : Int) = n1 := IntWalk.i64_in _ (by omega)
            have v2 : IntKind.i64.wrap (n2 : Int) = n2 := IntWalk.i64_in _ (by omega)
            have v3 : IntKind.i64.wrap (n3 : Int) = n3 := IntWalk.i64_in _ (by omega)
            have v4 : IntKind.u32.wrap (n4 : Int) = n4 := by rw [IntKind.wrap_u32]; omega
            have HPA : Hid (parse t = ⟨n0, (n1 : Int), (n2 : Int), (n3 : Int), n4, n5⟩) := by show _ = _; unfold parse; rw [hn0, hn1, hn2, hn3, hn4, hn5]
            have hL := hX.laid (u0 := .int .u64 n0) (u1 := .int .i64 n1) (u2 := .int .i64 n2) (u3 := .int .i64 n3) (u4 := .int .u32 n4) (u5 := .int .u64 n5)
            have p0 := hL.c0
            have p1 := hL.c1
            have p2 := hL.c2
            have p3 := hL.c3
            have p4 := hL.c4
            have p5 := hL.c5
            unfold laidR at p0 p1 p2 p3 p4 p5
            have HL2 := hide hL
            have HWL : Hid (Wd (laidR wr w.heap.size (.int .u64 n0) (.int .i64 n1) (.int .i64 n2) (.int .i64 n3) (.int .u32 n4) (.int .u64 n5))) := HWd.out.below (below_laid (HB0.out.trans (HB.out.mono (Nat.le_of_lt hsz))) (Nat.le_refl _)) hpos
            have HBL : Hid (Below w.heap.size w (laidR wr w.heap.size (.int .u64 n0) (.int .i64 n1) (.int .i64 n2) (.int .i64 n3) (.int .u32 n4) (.int .u64 n5))) := below_laid (HB0.out.trans (HB.out.mono (Nat.le_of_lt hsz))) (Nat.le_refl _)
            unfold laidR at HL2 HWL HBL
            clear hX hL hn0 hn1 hn2 hn3 hn4 hn5 HN7 HO
            go_upto_region 21 with (first
              | (go_at_call 11; (with_reducible refine (oc _ HWL.out).mono ?_); rintro e w2 ⟨Ay, ny, cy, rfl, ho, hb⟩; have HY := hide ho; have X2 := HL2.out.below hb; have s0 := X2.c0; have s1 := X2.c1; have s2 := X2.c2; have s3 := X2.c3; have s4 := X2.c4; have s5 := X2.c5; have f0 := X2.f 0; have f1 := X2.f 1; have f2 := X2.f 2; have f3 := X2.f 3; have f4 := X2.f 4; have f5 := X2.f 5; have HX2 := hide X2; have HB2 := hide (Below.then_ HBL.out hb HBL.out.size); clear X2 hb ho))
            have HBQ := hide (HBR.out.below HB2.out)
            have rl := @RB.laid
            by_cases hx : x = 0
            · subst hx
              by_cases hy : ys = b
              · have HS : Hid (ofS b = (⟨n0, (n1 : Int), (n2 : Int), (n3 : Int), n4, n5⟩, 0)) := by
                  show _ = _
                  rw [← HPA.out, HT.out]
                  exact ofS_ok HL.out (by rw [← HT.out, HYS.out, hy])
                have hyz : decide (ys = b) = true := decide_eq_true hy
                have hF := HX2.out.laid (u0 := .int .u64 n0) (u1 := .int .i64 n1) (u2 := .int .i64 n2) (u3 := .int .i64 n3) (u4 := .int .u32 n4) (u5 := .int .u64 n5)
                have HF := hide hF
                have HBF : Hid (Below w.heap.size w (laidR w2 w.heap.size (.int .u64 n0) (.int .i64 n1) (.int .i64 n2) (.int .i64 n3) (.int .u32 n4) (.int .u64 n5))) := below_laid HB2.out (Nat.le_refl _)
                clear hF rl hy
                go_wp2_with (first
                  | (go_at_call 28; (with_reducible refine (equalB_any _ Ay (some ad) ny 32 cy c ys b HY.out.reads HBQ.out).mono ?_); rintro e w' ⟨rfl, rfl⟩; rw [hyz]))
                have r0 := HF.out.c0
                have r1 := HF.out.c1
                have r2 := HF.out.c2
                have r3 := HF.out.c3
                have r4 := HF.out.c4
                have r5 := HF.out.c5
                unfold laidR at r0 r1 r2 r3 r4 r5
                rw [HS.out]
                exact bodyPost_ret (v := .tuple #[.agg #[.int .u64 n0, .int .i64 n1, .int .i64 n2, .int .i64 n3, .int .u32 n4, .int .u64 n5], .int .i64 0]) (by simp [results, Tryd.results13, go_sem, r0, r1, r2, r3, r4, r5]) rfl ⟨rfl, HBF.out⟩
              · have HS : Hid (ofS b = (Rt.zero, 2)) := ofS_bad (fun h => hy (by have h2 := h.2; rw [← HT.out, HYS.out] at h2; exact congrArg Prod.fst h2))
                have hyz : decide (ys = b) = false := decide_eq_false hy
                have hF := HX2.out.laid (u0 := .int .u64 0) (u1 := .int .i64 0) (u2 := .int .i64 0) (u3 := .int .i64 0) (u4 := .int .u32 0) (u5 := .int .u64 0)
                have HF := hide hF
                have HBF : Hid (Below w.heap.size w (laidR w2 w.heap.size (.int .u64 0) (.int .i64 0) (.int .i64 0) (.int .i64 0) (.int .u32 0) (.int .u64 0))) := below_laid HB2.out (Nat.le_refl _)
                clear hF
                clear hy rl
                go_wp2_with (first
                  | (go_at_call 28; (with_reducible refine (equalB_any _ Ay (some ad) ny 32 cy c ys b HY.out.reads HBQ.out).mono ?_); rintro e w' ⟨rfl, rfl⟩; rw [hyz]))
                have r0 := HF.out.c0
                have r1 := HF.out.c1
                have r2 := HF.out.c2
                have r3 := HF.out.c3
                have r4 := HF.out.c4
                have r5 := HF.out.c5
                unfold laidR at r0 r1 r2 r3 r4 r5
                rw [HS.out]
                exact bodyPost_ret (v := .tuple #[.agg #[.int .u64 0, .int .i64 0, .int .i64 0, .int .i64 0, .int .u32 0, .int .u64 0], .int .i64 2]) (by simp [results, Tryd.results13, go_sem, r0, r1, r2, r3, r4, r5]) rfl ⟨rfl, HBF.out⟩
            · have HS : Hid (ofS b = (Rt.zero, 2)) := ofS_bad (fun h => hx (by have h2 := h.2; rw [← HT.out, HYS.out] at h2; exact congrArg Prod.snd h2))
              have hxz : (x != 0) = true := by rw [bne_iff_ne]; exact hx
              have hF := HX2.out.laid (u0 := .int .u64 0) (u1 := .int .i64 0) (u2 := .int .i64 0) (u3 := .int .i64 0) (u4 := .int .u32 0) (u5 := .int .u64 0)
              have HF := hide hF
              have HBF : Hid (Below w.heap.size w (laidR w2 w.heap.size (.int .u64 0) (.int .i64 0) (.int .i64 0) (.int .i64 0) (.int .u32 0) (.int .u64 0))) := below_laid HB2.out (Nat.le_refl _)
              clear hF
              clear rl
              go_wp2_with fail
              have r0 := HF.out.c0
              have r1 := HF.out.c1
              have r2 := HF.out.c2
              have r3 := HF.out.c3
              have r4 := HF.out.c4
              have r5 := HF.out.c5
              unfold laidR at r0 r1 r2 r3 r4 r5
              rw [HS.out]
              exact bodyPost_ret (v := .tuple #[.agg #[.int .u64 0, .int .i64 0, .int .i64 0, .int .i64 0, .int .u32 0, .int .u64 0], .int .i64 2]) (by simp [results, Tryd.results13, go_sem, r0, r1, r2, r3, r4, r5]) rfl ⟨rfl, HBF.out⟩
  · have HS : Hid (ofS b = (Rt.zero, 2)) := ofS_bad (fun h => h32 (by omega))
    have h32z : ((n : Int) != 32) = true := by rw [bne_iff_ne]; omega
    have hX := RB.made w (.int .u64 0) (.int .i64 0) (.int .i64 0) (.int .i64 0) (.int .u32 0) (.int .u64 0)
    have HX := hide hX
    have HB := hide (below_alloc w (.cells #[.int .u64 0, .int .i64 0, .int .i64 0, .int .i64 0, .int .u32 0, .int .u64 0] 27))
    clear hX
    go_enter Tryd.func13, Tryd.ntmps13
    go_wp2_with fail
    have r0 := HX.out.c0
    have r1 := HX.out.c1
    have r2 := HX.out.c2
    have r3 := HX.out.c3
    have r4 := HX.out.c4
    have r5 := HX.out.c5
    rw [HS.out]
    exact bodyPost_ret (v := .tuple #[.agg #[.int .u64 0, .int .i64 0, .int .i64 0, .int .i64 0, .int .u32 0, .int .u64 0], .int .i64 2]) (by simp [results, Tryd.results13, go_sem, r0, r1, r2, r3, r4, r5]) rfl ⟨rfl, HB.out⟩
end Go.Proofs.YthhemdjggdgaaaaDoor
