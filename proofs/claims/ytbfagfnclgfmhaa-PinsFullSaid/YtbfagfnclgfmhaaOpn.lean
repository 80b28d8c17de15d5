import Derived.Test.YtbfagfnclgfmhaaMany
import Derived.Test.YtbfagfnclgfmhaaDel
namespace Go.Proofs.Ytbfagfnclgfmhaa
open Go.RowKit

theorem Own.bump {base : Nat} {w : World} {g n c : Nat} {ps : List Pin} (h : Own base w (some ⟨g, 0, none⟩) n c ps) (k : Nat) (hk : k < n) (b : Int) :
    Own base (w.setCell ⟨g, k * 2 + 1, none⟩ (.int .i64 b)) (some ⟨g, 0, none⟩) n c (ps.set k ((nth ps k).1, b)) ∧ w.grownBy (w.setCell ⟨g, k * 2 + 1, none⟩ (.int .i64 b)) (some g) := by
  obtain ⟨h1, h2⟩ := World.ownsRow.stored h (k * 2 + 1) (.int .i64 b)
  have hl := h.reads.len
  have hg := (pcs_get ps k (by omega)).1
  have e : (pcs ps).set (k * 2) (.int .u64 (nth ps k).1) = pcs ps := by
    apply List.ext_getElem?
    intro j
    rw [List.getElem?_set]
    split
    · rename_i hj; subst hj
      rw [if_pos (by rw [pcs_length]; omega), hg]
    · rfl
  unfold Own
  rw [pcs_set, e]
  exact ⟨h1, h2⟩
theorem Own.nil (base : Nat) (w : World) : Own base w none 0 0 [] := ⟨rfl, .inl ⟨rfl, rfl⟩⟩
theorem Own.addr {base : Nat} {w : World} {A : Option Addr} {n c : Nat} {ps : List Pin} (h : Own base w A n c ps) (hn : 0 < n) : ∃ g, A = some ⟨g, 0, none⟩ := by
  rcases h.2 with ⟨_, h0⟩ | ⟨g', cap', cur, h', _⟩
  · omega
  · injection h' with h' _ _; exact ⟨g', h'⟩

theorem Own.mono {base b' : Nat} {w : World} {A : Option Addr} {n c : Nat} {ps : List Pin} (h : Own base w A n c ps) (hb : b' ≤ base) : Own b' w A n c ps := by
  refine ⟨h.1, ?_⟩
  rcases h.2 with h0 | ⟨g, cap, cur, e, hg, h3⟩
  · exact .inl h0
  · exact .inr ⟨g, cap, cur, e, by omega, h3⟩
theorem Own.alloc {base : Nat} {w : World} {A : Option Addr} {n c : Nat} {ps : List Pin} (h : Own base w A n c ps) (o : Obj) : Own base (w.alloc o) A n c ps := World.ownsRow.alloc h o
theorem Own.made (w : World) (x : Pin) : Own w.heap.size (w.alloc (.cells #[.int .u64 x.1, .int .i64 x.2] 41)) (some ⟨w.heap.size, 0, none⟩) 1 1 [x] :=
  World.ownsRow_lit w #[.int .u64 x.1, .int .i64 x.2] 1 (Nat.le_refl _) (by simp [maxLen]) rfl

def OpenPost (w : World) (r : List Pin × Int) (e : Ending) (w' : World) : Prop :=
  ∃ (A' : Option Addr) (n' c' : Nat), e = .returned (.tuple #[.slice A' n' c', .int .i64 r.2]) ∧ Own w.heap.size w' A' n' c' r.1 ∧ Below w.heap.size w w'

theorem set_there {ps : List Pin} {gen i : Nat} (hg : Good ps) (ha : At ps gen i) (ht : there ps gen i = true) (b : Int) (hb : 0 < b) : ps.set i ((nth ps i).1, b) = wth ps gen b := by
  obtain ⟨hi, he⟩ := there_iff.1 ht
  rw [wth_there hg ha ht, if_pos hb, he, List.set_eq_take_append_cons_drop, if_pos hi]
  simp
theorem nth_insd (ps : List Pin) (i : Nat) (h : i ≤ ps.length) (x : Pin) : nth (insd ps i x) i = x := by
  unfold nth insd
  rw [List.getD_eq_getElem?_getD, List.getElem?_append_right (by simp; omega)]
  have : i - (List.take i ps).length = 0 := by simp; omega
  rw [this]; rfl
theorem set_insd (ps : List Pin) (i : Nat) (h : i ≤ ps.length) (x y : Pin) : (insd ps i x).set i y = insd ps i y := by
  unfold insd
  rw [List.set_append_right _ _ (by simp; omega)]
  have : i - (List.take i ps).length = 0 := by simp; omega
  rw [this]; rfl
theorem set_not {ps : List Pin} {gen i : Nat} (hg : Good ps) (ha : At ps gen i) (ht : there ps gen i = false) : (insd ps i (gen, 0)).set i ((nth (insd ps i (gen, 0)) i).1, 1) = wth ps gen 1 := by
  rw [nth_insd _ _ ha.1, set_insd _ _ ha.1, wth_not hg ha ht]
  unfold insd; simp

set_option maxHeartbeats 1000000 in
theorem open_any (w : World) (A : Option Addr) (n c : Nat) (ps : List Pin) (gen : Nat) (hr : PR w A n ps) (hn : n ≤ 1000) :
    Calls Try.prog 9 #[.slice A n c, .int .u64 gen] w (OpenPost w (openS ps gen)) := by
  have HR := hide hr
  have HL := hide hr.len
  clear hr
  cases hk : okk ps gen with
  | false =>
    have HM : Hid (openS ps gen = ([], 1)) := by show _ = _; unfold openS; rw [hk]; rfl
    go_enter Try.func9, Try.ntmps9
    go_wp2_with (go_at_call 21; refine (find_any _ _ _ _ ps gen HR.out hn).mono ?_; rintro e w' ⟨⟨i, t, c', rfl, _, h2⟩, hb⟩; obtain ⟨rfl, rfl⟩ := h2 hk; have HB := hide hb; clear hb h2)
    go_ret2
    rw [HM.out]
    exact ⟨none, 0, 0, rfl, Own.nil _ _, HB.out⟩
  | true =>
    obtain ⟨hg, hq⟩ := okk_iff.1 hk
    have HG := hide hg
    clear hg
    have HM : Hid (openS ps gen = (if cnt ps gen = 64 ∨ (cnt ps gen = 0 ∧ ps.length = 64) then ([], 6) else (wth ps gen (cnt ps gen + 1), 0))) := by show _ = _; unfold openS; rw [hk]; rfl
    go_enter Try.func9, Try.ntmps9
    go_wp2_with fail
    refine (find_any _ _ _ _ ps gen HR.out hn).mono ?_
    rintro e w1 ⟨⟨i, t, c', rfl, h1, _⟩, hb⟩
    obtain ⟨rfl, rfl, ha⟩ := h1 hk
    have HB := hide hb
    have HA := hide ha
    clear hb h1 hk
    cases ht : there ps gen i with
    | false =>
      have HC := hide (cnt_not HG.out ha ht)
      have HT := hide ht
      have hin := ha.1
      rw [HL.out] at hin
      clear ha ht
      by_cases h64 : n = 64
      · have hz : ((n : Int) == 64) = true := by rw [beq_iff_eq]; omega
        have HN := hide h64
        clear h64
        go_wp2_with fail
        go_ret2
        rw [HM.out, if_pos (.inr ⟨HC.out, by rw [HL.out]; exact HN.out⟩)]
        exact ⟨none, 0, 0, rfl, Own.nil _ _, HB.out⟩
      · have hz : ((n : Int) == 64) = false := by rw [beq_eq_false_iff_ne]; omega
        have HN := hide h64
        clear h64
        have hiz : (i : Int) < ((n + 1 : Nat) : Int) := by omega
        have hiz' : (i : Int) < (n : Int) + 1 := by omega
        go_wp2_with (first | (go_at_call 22; refine (clone_any _ _ _ _ ps (HR.out.below HB.out) hn).mono ?_; rintro e w2 ⟨A2, c2, rfl, hb, ho⟩; have HB2 := hide hb; have HO := hide ho; clear hb ho) | (go_at_call 23; (refine (insert_any w1.heap.size w2.heap.size _ A2 n c2 i w2.heap.size 1 ps (gen, 0) (HO.out.alloc _) (Own.made w2 (gen, 0)) (fun k hk => by have := (World.ownsRow.lt HO.out k hk).2; omega) hin (Nat.le_trans HB2.out.size (by simp)) hn).mono ?_); rintro e w3 ⟨A3, c3, rfl, ho, hb⟩; obtain ⟨g, rfl⟩ := ho.addr (by omega); have HB3 := hide hb; have HO3 := hide ho; obtain ⟨d0, d1⟩ := ho.at i (by omega); have g1 := ho.froz (i * 2 + 1); rw [nth_insd _ _ HA.out.1] at d1; clear hb ho))
        go_ret2
        obtain ⟨h1, h2⟩ := HO3.out.bump i (by omega) 1
        have hs := set_not HG.out HA.out HT.out
        rw [hs] at h1
        rw [HM.out, if_neg (by rw [HC.out, HL.out]; have := HN.out; omega), HC.out]
        have hlt := HO3.out.lt
        have hbs := HB.out.size
        have hb2 := HB2.out.size
        refine ⟨_, n + 1, c3, rfl, Own.mono h1 hbs, ((HB.out.trans (HB2.out.mono hbs)).alloc (by omega) _).trans ((HB3.out.mono hbs).trans ?_)⟩
        exact (Below.refl _ _).grown h2 (by have := HB3.out.size; simp at this; omega) (fun k hk => by injection hk with hk; omega)
    | true =>
      have HC := hide (cnt_there HG.out ht)
      have hi := (there_iff.1 ht).1
      have ho := HG.out.one i hi
      rw [HL.out] at hi
      have HT := hide ht
      obtain ⟨ad, rfl, c0, c1⟩ := (HR.out.below HB.out).cell i hi
      have hiz : (i : Int) < (n : Int) := by omega
      obtain ⟨m, hm⟩ : ∃ m, (nth ps i).2 = m := ⟨_, rfl⟩
      rw [hm] at c1 ho
      have HMM := hide hm
      clear ha ht hm
      by_cases h64 : m = 64
      · subst h64
        go_wp2_with fail
        go_ret2
        rw [HM.out, if_pos (.inl (by rw [HC.out]; exact HMM.out))]
        exact ⟨none, 0, 0, rfl, Own.nil _ _, HB.out⟩
      · have hz : (m == 64) = false := beq_eq_false_iff_ne.2 h64
        have hw1 : IntKind.i64.wrap (m + 1) = m + 1 := by rw [IntKind.wrap_i64]; have := HG.out.max i (by rw [HL.out]; exact hi); rw [HMM.out] at this; omega
        go_wp2_with (go_at_call 22; refine (clone_any _ _ _ _ ps (HR.out.below HB.out) hn).mono ?_; rintro e w2 ⟨A2, c2, rfl, hb, ho⟩; obtain ⟨g, rfl⟩ := ho.addr (by omega); have HB2 := hide hb; have HO := hide ho; obtain ⟨d0, d1⟩ := ho.at i (by omega); have g1 := ho.froz (i * 2 + 1); rw [HMM.out] at d1; clear hb ho)
        go_ret2
        obtain ⟨h1, h2⟩ := HO.out.bump i (by omega) (m + 1)
        have hs := set_there HG.out HA.out HT.out (m + 1) (by omega)
        rw [hs] at h1
        rw [HM.out, if_neg (by rw [HC.out, HMM.out]; omega), HC.out, HMM.out]
        have hlt := HO.out.lt
        have hbs := HB.out.size
        refine ⟨_, n, c2, rfl, ?_, (HB.out.trans (HB2.out.mono hbs)).grown h2 (by have := HB2.out.size; omega) (fun k hk => by injection hk with hk; omega)⟩
        exact Own.mono h1 hbs
end Go.Proofs.Ytbfagfnclgfmhaa
