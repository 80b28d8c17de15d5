/- live of the roots' laws. -/
import Derived.Test.YthhemdjggdgaaaaDoorRback
namespace Go.Proofs.YthhemdjggdgaaaaDoor
open Go.RowKit
set_option linter.unusedVariables false

def r1 : Rt := ⟨1, 2, 1, 0, 0, 0⟩
theorem r1_good : RGood r1 := ⟨by decide, by decide, by decide, by decide, by decide, by decide, by decide, by decide, by decide⟩
theorem of_zeros : ofS (zeros 32) = (Rt.zero, 2) := by
  refine ofS_bad (fun h => ?_)
  have h0 : (parse (strip (zeros 32) 8)).gen = 0 := by decide +kernel
  by_cases hg : RGood (parse (strip (zeros 32) 8))
  · have := hg.g1; omega
  · have h2 := h.2; rw [octS_bad hg] at h2; have := congrArg Prod.snd h2; simp at this
theorem pick_two {b : Bs} (best : Rt) (i : Nat) (h : ofS b = (Rt.zero, 2)) : pick best b i = best := by unfold pick; rw [h]; rw [if_neg (fun k => by have := k.1; omega)]
theorem fresh3 : Good (fresh 3) := fresh_good (by omega) (by omega)
theorem fresh3_len : (fresh 3).dry.length = 96 := zeros_len 96
theorem fresh3_is {s : Int} (h0 : 0 ≤ s) (h1 : s < 3) : Is (fresh 3) s := ⟨fresh3, h0, by rw [fresh_n]; exact h1⟩
theorem fresh3_read (i : Nat) (hi : i < 2) : readB (fresh 3) (i : Int) = zeros 32 := by
  rw [readB_none (fun j hj => by simp [fresh] at hj)]
  have : i = 0 ∨ i = 1 := by omega
  rcases this with rfl | rfl <;> decide +kernel
theorem fit3 : fitS (fresh 3) = 0 := by unfold fitS; rw [if_neg (by rw [fresh3_len]; omega), chk_zero fresh3]
theorem best3 : bestU (fresh 3) 2 = Rt.zero := by
  rw [bestU, bestU, bestU, fresh3_read 0 (by omega), fresh3_read 1 (by omega), pick_two _ _ of_zeros, pick_two _ _ of_zeros]
theorem find3 : findS (fresh 3) = (Rt.zero, 4) := by
  unfold findS
  rw [if_neg (by rw [fit3]; simp), best3, if_pos (show Rt.zero.gen = 0 from rfl)]
def oct1 : Bs := octs r1.nums
theorem put3 : Good ((fresh 3).put 1 oct1 (-1)) := Good.put (fresh3_is (by omega) (by omega)) (octs_len _) (by omega) (by omega)
def disk1 : Dk := ((fresh 3).put 1 oct1 (-1)).settled allMask (-1)
theorem disk1_good : Good disk1 := put3.settled _ (by omega) (by omega)
theorem disk1_len : disk1.dry.length = 96 := (settled_len put3 _ _).trans fresh3_len
theorem write3 : rtwS (fresh 3) r1 = (disk1, 0) := by
  have hw : writeS (fresh 3) ((r1.gen % 2 : Nat) : Int) (octS r1).1 = ((fresh 3).put 1 oct1 (-1), 0) := by
    rw [octS_ok r1_good]
    exact write_lives (fresh3_is (by decide) (by decide)) (octs_len _) (by decide)
  unfold rtwS
  rw [if_neg (by rw [octS_ok r1_good, fit3]; simp), hw, if_neg (by simp)]
  exact sync_lives put3 (by show (-1 : Int) ≠ 0; decide)
theorem read1 : readB disk1 1 = oct1 := by
  have h : Is ((fresh 3).put 1 oct1 (-1)) 1 := Is.put (fresh3_is (by omega) (by omega)) (octs_len _) (by omega) (by omega) (by omega) (by rw [fresh_n]; omega)
  exact (whole_read h allMask (-1) (fun i _ => rfl) (by omega) (by omega)).trans (readB_put_same _ _ _ _)
theorem read0 : readB disk1 0 = zeros 32 := by
  have h : Is ((fresh 3).put 1 oct1 (-1)) 0 := Is.put (fresh3_is (by omega) (by omega)) (octs_len _) (by omega) (by omega) (by omega) (by rw [fresh_n]; omega)
  exact ((whole_read h allMask (-1) (fun i _ => rfl) (by omega) (by omega)).trans (readB_put_other _ _ _ (by omega))).trans (fresh3_read 0 (by omega))
theorem find1 : findS disk1 = (r1, 0) := by
  have hf : fitS disk1 = 0 := by unfold fitS; rw [if_neg (by rw [disk1_len]; omega), chk_zero disk1_good]
  have hb : bestU disk1 2 = r1 := by
    rw [bestU, bestU, bestU]
    rw [show readB disk1 ((0 : Nat) : Int) = zeros 32 from read0, show readB disk1 ((1 : Nat) : Int) = oct1 from read1, pick_two _ _ of_zeros]
    unfold pick
    rw [show ofS oct1 = (r1, 0) from of_octs r1_good (by decide), if_pos ⟨rfl, rfl, by decide⟩]
  unfold findS
  rw [if_neg (by rw [hf]; simp), hb, if_neg (by decide)]

set_option maxRecDepth 100000 in
set_option maxHeartbeats 4000000 in
theorem rlive_any (w : World) (hw : Wd w) : Calls Tryd.prog 8 #[] w fun e w' => e = .returned (.bool true) ∧ Below w.heap.size w w' := by
  have HN : Hid (newS 3 = (fresh 3, 0)) := newS_ok (k := 3) (by omega) (by omega)
  have HF3 := hide find3
  have HW3 := hide write3
  have HF1 := hide find1
  have HWd := hide hw
  have hp := hw.pos
  have H96 : Hid ((fresh 3).dry.length = 96 ∧ (fresh 3).wet.length = 0) := ⟨fresh3_len, rfl⟩
  have H96b : Hid (disk1.dry.length = 96 ∧ disk1.wet.length = 0) := ⟨disk1_len, rfl⟩
  have wr : ∀ (w : World) (A : Option Addr) (n c : Nat) (B : Option Addr) (m e' : Nat), DR w A n B m (fresh 3) → n ≤ 300000 → m ≤ 900 → Wd w →
      Calls Tryd.prog 15 #[.agg #[.slice A n c, .slice B m e', .int .i64 (fresh 3).left], .agg #[.int .u64 1, .int .i64 2, .int .i64 1, .int .i64 0, .int .u32 0, .int .u64 0]] w (DPost w (rtwS (fresh 3) r1).1 (rtwS (fresh 3) r1).2) :=
    fun w A n c B m e' h1 h2 h3 h4 => rtwrite_any w A n c B m e' (fresh 3) _ rfl r1 h1 h2 h3 (by decide) h4
  have hg1 : ((r1.gen : Int) == 1) = true := by decide
  have fd := rtfind_any
  unfold RtPost rtv at fd
  clear hw
  go_enter Tryd.func8, Tryd.ntmps8
  go_wp2_with (first
    | (go_at_call 26; (with_reducible refine (new_any _ 3).mono ?_); rw [HN.out]; rintro e w1 ⟨A1, n1, c1, B1, m1, e1, rfl, ho, hb⟩; have HO1 := hide ho; have hn1 : n1 ≤ 300000 := (by have h1 : (fresh 3).dry.length = n1 := ho.reads.dlen; have h2 := H96.out.1; omega); have hm1 : m1 ≤ 900 := (by have h1 : (fresh 3).wet.length = m1 := ho.reads.wlen; have h2 := H96.out.2; omega); have hm1' : m1 ≤ 1000 := (by omega); have hc1 : n1 ≤ c1 := ho.1.max; have HB1 := hide (hb.alloc hb.size (.cells #[.slice A1 n1 c1, .slice B1 m1 e1, .int .i64 (fresh 3).left] 31)); have HR1 := hide (ho.reads.alloc (.cells #[.slice A1 n1 c1, .slice B1 m1 e1, .int .i64 (fresh 3).left] 31)); have HX1 := hide (Bx.made w1 (.slice A1 n1 c1) (.slice B1 m1 e1) (.int .i64 (fresh 3).left)); have HL1 : Hid (w.heap.size ≤ w1.heap.size) := hb.size; clear ho hb)
    | (go_at_call 17; (with_reducible refine (fd _ A1 n1 c1 B1 m1 e1 (fresh 3) _ rfl HR1.out hn1 hm1' hc1 (HWd.out.below HB1.out hp)).mono ?_); rw [HF3.out]; rintro e w2 ⟨rfl, hb⟩; have X2 := (HX1.out.below hb).alloc (.cells #[.int .u64 (Rt.zero.gen : Int), .int .i64 Rt.zero.at_, .int .i64 Rt.zero.len, .int .i64 Rt.zero.long, .int .u32 (Rt.zero.sum : Int), .int .u64 (Rt.zero.next : Int)] 27); have k0 := X2.c0; have k1 := X2.c1; have k2 := X2.c2; have HX2 := hide X2; have HR2 := hide ((HR1.out.below hb).alloc (.cells #[.int .u64 (Rt.zero.gen : Int), .int .i64 Rt.zero.at_, .int .i64 Rt.zero.len, .int .i64 Rt.zero.long, .int .u32 (Rt.zero.sum : Int), .int .u64 (Rt.zero.next : Int)] 27)); have HB2 := hide ((Below.then_ HB1.out hb HB1.out.size).alloc (Nat.le_trans HB1.out.size hb.size) (.cells #[.int .u64 (Rt.zero.gen : Int), .int .i64 Rt.zero.at_, .int .i64 Rt.zero.len, .int .i64 Rt.zero.long, .int .u32 (Rt.zero.sum : Int), .int .u64 (Rt.zero.next : Int)] 27)); clear X2 hb)
    | (go_at_call 15; (with_reducible refine (wr _ A1 n1 c1 B1 m1 e1 HR2.out hn1 hm1 (HWd.out.below HB2.out hp)).mono ?_); rw [HW3.out]; rintro e w3 ⟨A3, n3, c3, B3, m3, e3, rfl, ho, hb⟩; have hn3 : n3 ≤ 300000 := (by have h1 : disk1.dry.length = n3 := ho.reads.dlen; have h2 := H96b.out.1; omega); have hm3 : m3 ≤ 1000 := (by have h1 : disk1.wet.length = m3 := ho.reads.wlen; have h2 := H96b.out.2; omega); have hc3 : n3 ≤ c3 := ho.1.max; have X3 := HX2.out.below hb; have s0 := X3.c0; have s1 := X3.c1; have s2 := X3.c2; have g0 := X3.f 0; have g1 := X3.f 1; have g2 := X3.f 2; have X4 := X3.boxed (u := .slice A3 n3 c3) (v := .slice B3 m3 e3) (t := .int .i64 disk1.left); have k0 := X4.c0; have k1 := X4.c1; have k2 := X4.c2; have HX4 := hide X4; have HR4 := hide ((ho.boxed (b := w1.heap.size) (u := .slice A3 n3 c3) (v := .slice B3 m3 e3) (t := .int .i64 disk1.left) (Nat.lt_of_lt_of_le HX2.out.lt (Nat.le_refl _))).reads); have HB4 := hide (below_boxed (b := w1.heap.size) (u := .slice A3 n3 c3) (v := .slice B3 m3 e3) (t := .int .i64 disk1.left) (Below.then_ HB2.out hb HB2.out.size) HL1.out); clear X3 X4 ho hb)
    | (go_at_call 17; (with_reducible refine (fd _ A3 n3 c3 B3 m3 e3 disk1 _ rfl HR4.out hn3 hm3 hc3 (HWd.out.below HB4.out hp)).mono ?_); rw [HF1.out]; rintro e w5 ⟨rfl, hb⟩; have HB5 := hide ((Below.then_ HB4.out hb HB4.out.size).alloc (Nat.le_trans HB4.out.size hb.size) (.cells #[.int .u64 (r1.gen : Int), .int .i64 r1.at_, .int .i64 r1.len, .int .i64 r1.long, .int .u32 (r1.sum : Int), .int .u64 (r1.next : Int)] 27)); clear hb))
  go_ret
  exact ⟨rfl, HB5.out⟩
end Go.Proofs.YthhemdjggdgaaaaDoor
