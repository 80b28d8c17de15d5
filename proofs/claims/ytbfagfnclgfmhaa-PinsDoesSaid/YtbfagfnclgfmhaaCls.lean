import Derived.Test.YtbfagfnclgfmhaaOpn
namespace Go.Proofs.Ytbfagfnclgfmhaa
open Go.RowKit

theorem deld_set (ps : List Pin) (i : Nat) (x : Pin) : deld (ps.set i x) i = deld ps i := by
  unfold deld
  rw [List.take_set_of_le (Nat.le_refl i), List.drop_set_of_lt (by omega)]
theorem del_there {ps : List Pin} {gen i : Nat} (hg : Good ps) (ha : At ps gen i) (ht : there ps gen i = true) (x : Pin) : deld (ps.set i x) i = wth ps gen 0 := by
  rw [deld_set, wth_there hg ha ht, if_neg (by omega)]
  unfold deld; simp

set_option maxHeartbeats 1000000 in
theorem close_any (w : World) (A : Option Addr) (n c : Nat) (ps : List Pin) (gen : Nat) (hr : PR w A n ps) (hn : n ≤ 1000) :
    Calls Try.prog 11 #[.slice A n c, .int .u64 gen] w (OpenPost w (closeS ps gen)) := by
  have HR := hide hr
  have HL := hide hr.len
  clear hr
  cases hk : okk ps gen with
  | false =>
    have HM : Hid (closeS ps gen = ([], 1)) := by show _ = _; unfold closeS; rw [hk]; rfl
    go_enter Try.func11, Try.ntmps11
    go_wp2_with (go_at_call 21; refine (find_any _ _ _ _ ps gen HR.out hn).mono ?_; rintro e w' ⟨⟨i, t, c', rfl, _, h2⟩, hb⟩; obtain ⟨rfl, rfl⟩ := h2 hk; have HB := hide hb; clear hb h2)
    go_ret2
    rw [HM.out]
    exact ⟨none, 0, 0, rfl, Own.nil _ _, HB.out⟩
  | true =>
    obtain ⟨hg, hq⟩ := okk_iff.1 hk
    have HG := hide hg
    clear hg
    have HM : Hid (closeS ps gen = (if cnt ps gen = 0 then ([], 4) else (wth ps gen (cnt ps gen - 1), 0))) := by show _ = _; unfold closeS; rw [hk]; rfl
    go_enter Try.func11, Try.ntmps11
    go_wp2_with fail
    refine (find_any _ _ _ _ ps gen HR.out hn).mono ?_
    rintro e w1 ⟨⟨i, t, c', rfl, h1, _⟩, hb⟩
    obtain ⟨rfl, rfl, ha⟩ := h1 hk
    have HB := hide hb
    have HA := hide ha
    clear hb h1 hk
    cases ht : there ps gen i with
    | false =>
      have HC := hide (cnt_not HG.out ha ht)
      clear ha ht
      go_wp2_with fail
      go_ret2
      rw [HM.out, if_pos HC.out]
      exact ⟨none, 0, 0, rfl, Own.nil _ _, HB.out⟩
    | true =>
      have HC := hide (cnt_there HG.out ht)
      have hi := (there_iff.1 ht).1
      have ho := HG.out.one i hi
      have hx := HG.out.max i hi
      rw [HL.out] at hi
      have HT := hide ht
      have hiz : (i : Int) < (n : Int) := by omega
      obtain ⟨m, hm⟩ : ∃ m, (nth ps i).2 = m := ⟨_, rfl⟩
      rw [hm] at ho hx
      have HMM := hide hm
      have hw1 : IntKind.i64.wrap (m - 1) = m - 1 := by rw [IntKind.wrap_i64]; omega
      have hw2 : IntKind.i64.wrap ((i : Int) + 1) = (i : Int) + 1 := by rw [IntKind.wrap_i64]; omega
      clear ha ht hm
      by_cases h1 : m = 1
      · subst h1
        go_wp2_with (first | (go_at_call 22; refine (clone_any _ _ _ _ ps (HR.out.below HB.out) hn).mono ?_; rintro e w2 ⟨A2, c2, rfl, hb, ho⟩; obtain ⟨g, rfl⟩ := ho.addr (by omega); have HB2 := hide hb; have HO := hide ho; obtain ⟨d0, d1⟩ := ho.at i (by omega); have g1 := ho.froz (i * 2 + 1); rw [HMM.out] at d1; clear hb ho) | (go_at_call 24; (refine (delete_any w1.heap.size _ g n c2 i _ (HO.out.bump i hi 0).1 hi (by have := HB2.out.size; simp; omega) hn).mono ?_); rintro e w3 ⟨A3, c3, rfl, ho, hb⟩; have HB3 := hide hb; have HO3 := hide ho; clear hb ho))
        go_ret2
        have ho3 := HO3.out
        rw [del_there HG.out HA.out HT.out] at ho3
        rw [HM.out, if_neg (by rw [HC.out, HMM.out]; omega), HC.out, HMM.out]
        have hlt := HO.out.lt
        have hbs := HB.out.size
        have hb2 := HB2.out.size
        have h2 := (HO.out.bump i hi 0).2
        exact ⟨_, n - 1, c3, rfl, Own.mono ho3 hbs, ((HB.out.trans (HB2.out.mono hbs)).grown h2 (by omega) (fun k hk => by injection hk with hk; omega)).trans (HB3.out.mono hbs)⟩
      · have hz : ((m - 1) == 0) = false := by rw [beq_eq_false_iff_ne]; omega
        go_wp2_with (go_at_call 22; refine (clone_any _ _ _ _ ps (HR.out.below HB.out) hn).mono ?_; rintro e w2 ⟨A2, c2, rfl, hb, ho⟩; obtain ⟨g, rfl⟩ := ho.addr (by omega); have HB2 := hide hb; have HO := hide ho; obtain ⟨d0, d1⟩ := ho.at i (by omega); have g1 := ho.froz (i * 2 + 1); rw [HMM.out] at d1; clear hb ho)
        go_ret2
        obtain ⟨h1', h2⟩ := HO.out.bump i hi (m - 1)
        have hs := set_there HG.out HA.out HT.out (m - 1) (by omega)
        rw [hs] at h1'
        rw [HM.out, if_neg (by rw [HC.out, HMM.out]; omega), HC.out, HMM.out]
        have hlt := HO.out.lt
        have hbs := HB.out.size
        have hb2 := HB2.out.size
        exact ⟨_, n, c2, rfl, Own.mono h1' hbs, (HB.out.trans (HB2.out.mono hbs)).grown h2 (by omega) (fun k hk => by injection hk with hk; omega)⟩
end Go.Proofs.Ytbfagfnclgfmhaa
