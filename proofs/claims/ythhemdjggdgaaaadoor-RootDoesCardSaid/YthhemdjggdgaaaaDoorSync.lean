/- Sync. -/
import Derived.Test.YthhemdjggdgaaaaDoorDoS
namespace Go.Proofs.YthhemdjggdgaaaaDoor
open Go.RowKit
set_option linter.unusedVariables false

open Classical in
noncomputable def syncS (d : Dk) : Dk × Int := if Good d then sync0 d else (Dk.zero, 1)
theorem syncS_ok {d : Dk} (h : Good d) : syncS d = sync0 d := by unfold syncS; rw [if_pos h]
theorem syncS_bad {d : Dk} (h : ¬ Good d) : syncS d = (Dk.zero, 1) := by unfold syncS; rw [if_neg h]

set_option maxRecDepth 100000 in
set_option maxHeartbeats 2000000 in
theorem sync_any (w : World) (A : Option Addr) (n c : Nat) (B : Option Addr) (m e' : Nat) (d : Dk) (l : Int) (hl : d.left = l) (hr : DR w A n B m d) (hn : n ≤ 300000) (hm : m ≤ 1000) :
    Calls Tryd.prog 31 #[.agg #[.slice A n c, .slice B m e', .int .i64 l]] w (DPost w (syncS d).1 (syncS d).2) := by
  obtain ⟨W0, hW0⟩ : ∃ W0, W0 = ((w.alloc (.cells #[.slice A n c, .slice B m e', .int .i64 l] 31)).alloc (.cells #[.slice none 0 0, .slice none 0 0, .int .i64 0] 31)) := ⟨_, rfl⟩
  have HX0 : Hid (Bx W0 w.heap.size (.slice A n c) (.slice B m e') (.int .i64 l)) := by rw [hW0]; exact (Bx.made w _ _ _).alloc _
  have HZ0 : Hid (Bx W0 (w.heap.size + 1) (.slice none 0 0) (.slice none 0 0) (.int .i64 0)) := by
    rw [hW0]; exact Bx.made_ _ _ (by simp) _ _ _
  have HB0 : Hid (Below w.heap.size w W0) := by rw [hW0]; exact below_alloc2 w _ _
  have HS0 : Hid (w.heap.size + 2 ≤ W0.heap.size) := by
    show _ ≤ _
    rw [hW0]; simp
  have HR0 : Hid (DR W0 A n B m d) := hr.below (by rw [hW0]; exact below_alloc2 w _ _)
  rw [hW0] at HX0 HZ0 HB0 HS0 HR0
  have HL := hide hl
  clear hW0 hr hl
  by_cases hg : Good d
  · have HC := hide (chk_zero hg)
    have HS := hide (syncS_ok hg)
    have HG := hide hg
    obtain ⟨s, hs⟩ : ∃ s, sync0 d = s := ⟨_, rfl⟩
    have HSS := hide hs
    clear hg hs
    go_enter Tryd.func31, Tryd.ntmps31
    go_wp2_with (first
      | (go_at_call 43; refine (check_is _ A n c B m e' d l 0 HL.out HC.out HR0.out hn hm).mono ?_; rintro e w1 ⟨rfl, hb⟩; have X1 := HX0.out.below hb; have k0 := X1.c0; have k1 := X1.c1; have k2 := X1.c2; have HZ1 := hide (HZ0.out.below hb); have HR1 := hide (HR0.out.below hb); have HS1 := hide (Nat.le_trans HS0.out hb.size); have HB1 := hide (Below.then_ HB0.out hb HB0.out.size); clear X1 hb)
      | (go_at_call 39; refine (doS_any _ A n c B m e' d l HL.out HR1.out HG.out hn hm).mono ?_; rw [HSS.out]; rintro e w2 ⟨A2, n2, c2, B2, m2, e2, rfl, ho, hb⟩; have Z2 := HZ1.out.below hb; have z0 := Z2.c0; have z1 := Z2.c1; have z2 := Z2.c2; have y0 := Z2.f 0; have y1 := Z2.f 1; have y2 := Z2.f 2; have HZ2 := hide Z2; have HO2 := hide (ho.mono HS1.out); have HB2 := hide (Below.then_ HB1.out hb HB1.out.size); clear Z2 ho hb))
    have hz6 := (HZ2.out.boxed (u := .slice A2 n2 c2) (v := .slice B2 m2 e2) (t := .int .i64 s.1.left))
    have r0 := hz6.c0
    have r1 := hz6.c1
    have r2 := hz6.c2
    rw [HS.out, HSS.out]
    refine bodyPost_ret (v := .tuple #[.agg #[.slice A2 n2 c2, .slice B2 m2 e2, .int .i64 s.1.left], .int .i64 s.2]) (by simp [results, Tryd.results31, go_sem, r0, r1, r2]) rfl ⟨A2, n2, c2, B2, m2, e2, rfl, ?_, ?_⟩
    · exact (HO2.out.boxed (by omega)).mono (by omega)
    · exact below_boxed HB2.out (by omega)
  · have HC := hide (chk_one hg)
    have HS := hide (syncS_bad hg)
    clear hg
    go_enter Tryd.func31, Tryd.ntmps31
    go_wp2_with (first
      | (go_at_call 43; refine (check_is _ A n c B m e' d l 1 HL.out HC.out HR0.out hn hm).mono ?_; rintro e w1 ⟨rfl, hb⟩; have Z1 := HZ0.out.below hb; have z0 := Z1.c0; have z1 := Z1.c1; have z2 := Z1.c2; have y0 := Z1.f 0; have y1 := Z1.f 1; have y2 := Z1.f 2; have HZ1 := hide Z1; have HB1 := hide (Below.then_ HB0.out hb HB0.out.size); clear Z1 hb))
    have hz6 := (HZ1.out.boxed (u := .slice none 0 0) (v := .slice none 0 0) (t := .int .i64 0))
    have r0 := hz6.c0
    have r1 := hz6.c1
    have r2 := hz6.c2
    rw [HS.out]
    refine bodyPost_ret (v := .tuple #[.agg #[.slice none 0 0, .slice none 0 0, .int .i64 0], .int .i64 1]) (by simp [results, Tryd.results31, go_sem, r0, r1, r2]) rfl ⟨_, _, _, _, _, _, rfl, DO.zero _ _, ?_⟩
    exact below_boxed HB1.out (by omega)
end Go.Proofs.YthhemdjggdgaaaaDoor
