/- DiskCrashes: any disk crashed. -/
import Derived.Test.YthhemdjggdgaaaaLive
import Derived.Test.YthhemdjggdgaaaaRcrash
namespace Go.Proofs.Ythhemdjggdgaaaa
open Go.RowKit
set_option linter.unusedVariables false

theorem row_max {base n c : Nat} {w : World} {A : Option Addr} {bs : Bs} (h : OB base w A n c bs) : n ≤ c ∧ c ≤ maxLen := by
  rcases h.2 with ⟨h', h0⟩ | ⟨g, cap', cur, h', _⟩
  · injection h' with _ h2 h3; subst h2; subst h3; exact ⟨Nat.le_refl _, by simp [maxLen]⟩
  · injection h' with h1 h2 h3; subst h1; exact row_cap h

theorem crashS_len (d : Dk) (ms : Bs) : (crashS d ms).1.dry.length ≤ d.dry.length ∧ (crashS d ms).1.wet.length = 0 := by
  by_cases hg : Good d
  · rw [crashS_ok hg]
    exact ⟨Nat.le_of_eq (setUpto_len hg (maskAt ms) d.wet.length (Nat.le_refl _)), rfl⟩
  · rw [crashS_bad hg]
    exact ⟨Nat.zero_le _, rfl⟩
theorem u8_next (v : UInt8) : Value.int .u8 (((v.toNat : Int) + 1) % 256) = .int .u8 ((v + 1).toNat : Int) := by
  rw [UInt8.toNat_add]
  congr 1
theorem OB.cellb {base g n c : Nat} {w : World} {bs : Bs} (h : OB base w (some ⟨g, 0, none⟩) n c bs) (i : Nat) (hi : i < n) : w.cell? ⟨g, i, none⟩ = some (.int .u8 (bs.getD i 0).toNat) := by
  have hl := h.len
  exact (World.ownsRow.cellAt h i (by omega)).trans (byt_get bs i (by omega))
theorem OB.put1 {base g n c : Nat} {w : World} {bs : Bs} (h : OB base w (some ⟨g, 0, none⟩) n c bs) (i : Nat) (b : UInt8) : OB base (w.setCell ⟨g, i, none⟩ (.int .u8 b.toNat)) (some ⟨g, 0, none⟩) n c (bs.set i b) := by
  have := (World.ownsRow.stored h i (.int .u8 b.toNat)).1
  unfold OB
  rw [byt_set]
  exact this

set_option maxRecDepth 100000 in
set_option maxHeartbeats 4000000 in
theorem crashesW (w : World) (A : Option Addr) (n c : Nat) (B : Option Addr) (m e' : Nat) (d : Dk) (Am : Option Addr) (nm cm : Nat) (ms : Bs) (hr : DR w A n B m d) (hn : n ≤ maxLen) (hm : m ≤ maxLen) (hms : BR w Am nm ms) (hnm0 : nm ≤ maxLen) :
    Calls Try.prog 3 #[.agg #[.slice A n c, .slice B m e', .int .i64 d.left], .slice Am nm cm] w fun e w' => e = .returned (.bool true) ∧ Below w.heap.size w w' := by
  have HD := hide hr
  have HM := hide hms
  clear hr hms
  cases hf : few d with
  | false =>
    go_enter Try.func3, Try.ntmps3
    go_wp2_with (first
      | (go_at_call 9; refine (live_any _).mono ?_; rintro e w1 ⟨rfl, hb⟩; have X1 := (Bx.made w (.slice A n c) (.slice B m e') (.int .i64 d.left)).below hb; have k0 := X1.c0; have k1 := X1.c1; have k2 := X1.c2; have HB1 := hide (Below.then (below_alloc w _) hb); clear X1 hb)
      | (go_at_call 10; refine (few_any _ A n c B m e' d d.left (HD.out.below HB1.out) hn hm).mono ?_; rintro e w2 ⟨rfl, hb⟩; rw [hf]; have HB2 := hide (Below.then HB1.out hb); clear hb))
    go_ret
    exact ⟨rfl, HB2.out⟩
  | true =>
    obtain ⟨f1, f2, f3, f4⟩ := few_bounds hf
    have hdl := HD.out.dlen
    have hwl := HD.out.wlen
    by_cases hq : 300 < nm
    · have hqz : (300 : Int) < (nm : Int) := by omega
      go_enter Try.func3, Try.ntmps3
      go_wp2_with (first
        | (go_at_call 9; refine (live_any _).mono ?_; rintro e w1 ⟨rfl, hb⟩; have X1 := (Bx.made w (.slice A n c) (.slice B m e') (.int .i64 d.left)).below hb; have k0 := X1.c0; have k1 := X1.c1; have k2 := X1.c2; have HB1 := hide (Below.then (below_alloc w _) hb); clear X1 hb)
        | (go_at_call 10; refine (few_any _ A n c B m e' d d.left (HD.out.below HB1.out) hn hm).mono ?_; rintro e w2 ⟨rfl, hb⟩; rw [hf]; have HB2 := hide (Below.then HB1.out hb); clear hb))
      go_ret
      exact ⟨rfl, HB2.out⟩
    · have hqz : ¬ (300 : Int) < (nm : Int) := by omega
      have hn' : n ≤ 300000 := by omega
      have hm' : m ≤ 1000 := by omega
      have hnm : nm ≤ 300000 := by omega
      have HF4 : Hid (∀ i, i < d.wet.length → (qn d.wet i).2.length ≤ 300000) := fun i hi => by have := f4 i hi; omega
      have HE := hide (sameS_self d)
      have hcl := crashS_len d ms
      obtain ⟨cd, cx, hcd⟩ : ∃ cd cx, crashS d ms = (cd, cx) := ⟨_, _, rfl⟩
      rw [hcd] at hcl
      have HE2 := hide (sameS_self cd)
      have HCD := hide hcd
      have HCL : Hid (cd.dry.length ≤ 300000 ∧ cd.wet.length ≤ 1000) := ⟨by have := hcl.1; simp only at this; omega, by have := hcl.2; simp only at this; omega⟩
      clear hcd hcl f1 f2 f3 f4 hdl hwl
      go_enter Try.func3, Try.ntmps3
      go_wp2_with (first
        | (go_at_call 9; refine (live_any _).mono ?_; rintro e w1 ⟨rfl, hb⟩; have X1 := (Bx.made w (.slice A n c) (.slice B m e') (.int .i64 d.left)).below hb; have k0 := X1.c0; have k1 := X1.c1; have k2 := X1.c2; have HX1 := hide X1; have HB1 := hide (Below.then (below_alloc w _) hb); clear X1 hb)
        | (go_at_call 10; refine (few_any _ A n c B m e' d d.left (HD.out.below HB1.out) hn hm).mono ?_; rintro e w2 ⟨rfl, hb⟩; rw [hf]; have HB2 := hide (Below.then HB1.out hb); have X2 := HX1.out.below hb; have k0 := X2.c0; have k1 := X2.c1; have k2 := X2.c2; have HX2 := hide X2; clear X2 hb)
        | (go_at_call 11; refine (copy_any _ A n c B m e' d (HD.out.below HB2.out) hn' hm' HF4.out).mono ?_; rintro e w3 ⟨A3, n3, c3, B3, m3, e3, rfl, ho, hb⟩; have HB3 := hide ((Below.then HB2.out hb).alloc (Nat.le_trans HB2.out.size hb.size) (.cells #[.slice A3 n3 c3, .slice B3 m3 e3, .int .i64 d.left] 25)); have HS3 : Hid (w.heap.size ≤ w3.heap.size) := (Nat.le_trans HB2.out.size hb.size); have X3 := (HX2.out.below hb).alloc (.cells #[.slice A3 n3 c3, .slice B3 m3 e3, .int .i64 d.left] 25); have HX3 := hide X3; have HY3 := hide (Bx.made w3 (.slice A3 n3 c3) (.slice B3 m3 e3) (.int .i64 d.left)); have HO3 := hide (ho.below (below_alloc w3 (.cells #[.slice A3 n3 c3, .slice B3 m3 e3, .int .i64 d.left] 25))).do; have k0 := X3.c0; have k1 := X3.c1; have k2 := X3.c2; clear X3 hb ho)
        | (go_at_call 12; refine (crash_any _ A n c B m e' d Am nm cm ms (HD.out.below HB3.out) (HM.out.below HB3.out) hn' hm').mono ?_; rw [HCD.out]; rintro e w4 ⟨A4, n4, c4, B4, m4, e4, rfl, ho, hb⟩; have HB4 := hide (hb.alloc hb.size (.cells #[.slice A4 n4 c4, .slice B4 m4 e4, .int .i64 cd.left] 25)); have HS4 := hide hb.size; have X4 := (HX3.out.below hb).alloc (.cells #[.slice A4 n4 c4, .slice B4 m4 e4, .int .i64 cd.left] 25); have HX4 := hide X4; have HO4 := hide (ho.below (below_alloc w4 (.cells #[.slice A4 n4 c4, .slice B4 m4 e4, .int .i64 cd.left] 25))); have HG4 : Hid (∀ q, (Value.slice A4 n4 c4).ownBlock = some q → q < w4.heap.size) := (fun q hq => (World.ownsRow.lt ho.1 q hq).2); have HN4 : Hid (n4 ≤ 300000) := (by have h1 : cd.dry.length = n4 := ho.reads.dlen; have h2 := HCL.out.1; show _ ≤ _; omega); have hm4 : m4 ≤ 1000 := (by have h1 : cd.wet.length = m4 := ho.reads.wlen; have h2 := HCL.out.2; omega); have HZ4 := hide (Bx.made w4 (.slice A4 n4 c4) (.slice B4 m4 e4) (.int .i64 cd.left)); have k0 := X4.c0; have k1 := X4.c1; have k2 := X4.c2; clear X4 hb ho)
        | (go_at_call 13; refine (rcrash_any _ A n c B m e' d Am nm cm ms (HD.out.below (Below.then_ HB3.out HB4.out HB3.out.size)) (HM.out.below (Below.then_ HB3.out HB4.out HB3.out.size)) hn' hm' hnm).mono ?_; rw [HCD.out]; rintro e w5 ⟨A5, n5, c5, B5, m5, e5, rfl, ho, hb⟩; have HB5 := hide ((Below.then_ HB4.out hb HB4.out.size).alloc (Nat.le_trans HB4.out.size hb.size) (.cells #[.slice A5 n5 c5, .slice B5 m5 e5, .int .i64 cd.left] 25)); have HO5 := hide ((HO4.out.below hb).below (below_alloc w5 (.cells #[.slice A5 n5 c5, .slice B5 m5 e5, .int .i64 cd.left] 25))); have HP5 := hide (ho.below (below_alloc w5 (.cells #[.slice A5 n5 c5, .slice B5 m5 e5, .int .i64 cd.left] 25))); have hm5 : m5 ≤ 1000 := (by have h1 : cd.wet.length = m5 := ho.reads.wlen; have h2 := HCL.out.2; omega); have X5 := (HZ4.out.below hb).alloc (.cells #[.slice A5 n5 c5, .slice B5 m5 e5, .int .i64 cd.left] 25); have HZ5 := hide X5; have k0 := X5.c0; have k1 := X5.c1; have k2 := X5.c2; clear X5 hb ho)
        | (go_at_call 14; refine (rsame_any _ A4 n4 c4 B4 m4 e4 cd A5 n5 c5 B5 m5 e5 cd HO5.out.reads HP5.out.reads hm4 hm5).mono ?_; rw [HE2.out]; rintro e w6 ⟨rfl, hb⟩; have HB6 := hide (Below.then_ HB5.out hb HB5.out.size); have HO6 := hide (HO5.out.below hb); have X6 := HZ5.out.below hb; have z0 := X6.c0; have HZ6 := hide X6; clear X6 hb))
      generalize hW3 : (w3.alloc (.cells #[.slice A3 n3 c3, .slice B3 m3 e3, .int .i64 d.left] 25)) = W3 at HB3 HX3 HY3 HO3 HB4 HS4 HX4 HO4 HB5 HO5 HB6 HO6
      have HS3' : Hid (w3.heap.size < W3.heap.size) := by show _ < _; rw [← hW3]; simp
      clear hW3 HB4 HB5 HO5 HP5 HX4 HO4 HZ5 HX2 HX1 HB1 HB2
      generalize hS : W3.heap.size = S at HB6 HO6 HS4 HS3'
      have HSQ := hide hS
      have HO7 := hide HO6.out.1
      clear hS HO6 z0
      go_loopw [48] (fun v wr => ∃ (k : Nat) (bs : Bs), v = .int .i64 k ∧ k ≤ n4 ∧ Hid (Bx wr w4.heap.size (.slice A4 n4 c4) (.slice B4 m4 e4) (.int .i64 cd.left)) ∧ Hid (OB S wr A4 n4 c4 bs) ∧ Hid (Below S W3 wr)) (fun v _ => n4 - (intOf v).toNat)
      case atStart => exact ⟨0, cd.dry, rfl, by omega, HZ6, HO7, HB6⟩
      case round =>
        obtain ⟨k, bs, rfl, hk, HZ, HO, HB⟩ := hrel
        have z0 := HZ.out.c0
        by_cases hkn : k < n4
        · have hkz : (k : Int) < (n4 : Int) := by omega
          have hn4 := HN4.out
          obtain ⟨g, rfl⟩ := row_addr HO.out (by omega)
          have hgw := HG4.out g rfl
          have hgs := World.ownsRow.lt HO.out g rfl
          have c0 := HO.out.cellb k hkn
          have c1 := World.ownsRow.frozenAt HO.out k
          generalize hv : bs.getD k 0 = vb at c0
          go_wp2_with fail
          go_roundw
          case rel =>
            have e : Value.int .u8 (((vb.toNat : Int) + 1) % 256) = .int .u8 ((vb + 1).toNat : Int) := u8_next vb
            refine ⟨k + 1, bs.set k (vb + 1), by go_num, by omega, ?_, ?_, ?_⟩
            · exact HZ.out.other (show w4.heap.size ≠ g by omega)
            · rw [e]; exact HO.out.put1 k (vb + 1)
            · exact HB.out.setCell (show S ≤ g from hgs.1) _
          case measure => simp [intOf]; omega
        · have hkz : ¬ (k : Int) < (n4 : Int) := by omega
          have hB : Below w.heap.size w wr := HB3.out.trans (HB.out.mono (by have h1 := HS3'.out; have h2 := HS3.out; omega))
          have hB' : Below W3.heap.size W3 wr := by rw [HSQ.out]; exact HB.out
          have X := HX3.out.below hB'
          have k0 := X.c0
          have k1 := X.c1
          have k2 := X.c2
          have Y := HY3.out.below hB'
          have y0 := Y.c0
          have y1 := Y.c1
          have y2 := Y.c2
          have HBw := hide hB
          have HBw' := hide hB'
          have hm3 : m3 ≤ 1000 := by have h1 := HO3.out.reads.wlen; have h2 := HD.out.wlen; omega
          clear X Y hB hB'
          go_wp2_with (first
            | (go_at_call 14; refine (rsame_any _ A n c B m e' d A3 n3 c3 B3 m3 e3 d (HD.out.below HBw.out) (HO3.out.below HBw'.out).reads hm' hm3).mono ?_; rw [HE.out]; rintro e w7 ⟨rfl, hb⟩; have HB7 := hide (Below.then_ HBw.out hb HBw.out.size); clear hb))
          go_ret
          exact ⟨rfl, HB7.out⟩
end Go.Proofs.Ythhemdjggdgaaaa
