import Derived.Test.YtfopmdnpjokjcaaOrd2
import Derived.Deep.DeepCutAuto
namespace Go.Proofs.Ytfopmdnpjokjcaa
open Go.RowKit Plain

/-- One put in at a place. -/
def putIn (zs : List Nat) (p f : Nat) : List Nat := zs.take p ++ [f] ++ zs.drop p
theorem putIn_nth (zs : List Nat) (p f q : Nat) (hp : p ≤ zs.length) : nth (putIn zs p f) q = if q < p then nth zs q else if q = p then f else nth zs (q - 1) := by
  unfold putIn nth
  simp only [List.getD_eq_getElem?_getD, List.append_assoc]
  by_cases h1 : q < p
  · rw [if_pos h1, List.getElem?_append_left (by simp; omega), List.getElem?_take_of_lt h1]
  · rw [if_neg h1, List.getElem?_append_right (by simp; omega)]
    have e : (zs.take p).length = p := by simp; omega
    rw [e]
    by_cases h2 : q = p
    · subst h2; rw [if_pos rfl]; simp
    · rw [if_neg h2, List.getElem?_append_right (by simp; omega), List.getElem?_drop]
      congr 2; simp; omega
theorem putIn_perm (zs : List Nat) (p f : Nat) : (putIn zs p f).Perm (zs ++ [f]) := by
  unfold putIn
  have h : (zs.take p ++ ([f] ++ zs.drop p)).Perm (zs.take p ++ (zs.drop p ++ [f])) := List.Perm.append_left _ List.perm_append_comm
  rw [← List.append_assoc, ← List.append_assoc, List.take_append_drop] at h
  exact h
theorem putIn_up (zs : List Nat) (p f : Nat) (hp : p ≤ zs.length) (hu : Up 0 zs.length zs) (h1 : ∀ q, p ≤ q → q < zs.length → keyN f < K zs q) (h2 : p = 0 ∨ K zs (p - 1) ≤ keyN f) : Up 0 (zs.length + 1) (putIn zs p f) := by
  intro a b _ hab hb
  rw [putIn_nth _ _ _ _ hp, putIn_nth _ _ _ _ hp]
  by_cases c1 : b < p
  · rw [if_pos (by omega), if_pos c1]; exact hu a b (by omega) hab (by omega)
  · rw [if_neg c1]
    by_cases c2 : b = p
    · rw [if_pos (by omega), if_pos c2]
      rcases h2 with h2 | h2
      · omega
      · exact Nat.le_trans (hu.le (by omega) (by omega) (by omega)) h2
    · rw [if_neg c2]
      by_cases c3 : a < p
      · rw [if_pos c3]; exact hu a (b - 1) (by omega) (by omega) (by omega)
      · rw [if_neg c3]
        by_cases c4 : a = p
        · rw [if_pos c4]; exact Nat.le_of_lt (h1 (b - 1) (by omega) (by omega))
        · rw [if_neg c4]; exact hu (a - 1) (b - 1) (by omega) (by omega) (by omega)
theorem putIn_length (zs : List Nat) (p f : Nat) : (putIn zs p f).length = zs.length + 1 := by
  have := (putIn_perm zs p f).length_eq; simpa using this

theorem cmp_gt {x y : Nat} (h : keyN y < keyN x) : decide (0 < cmpInt (keyN x) (keyN y)) = true := by rw [cmpInt_gt (by omega)]; rfl
theorem cmp_le {x y : Nat} (h : ¬ keyN y < keyN x) : decide (0 < cmpInt (keyN x) (keyN y)) = false := by
  unfold cmpInt; split
  · rfl
  · rw [if_neg (by omega)]; rfl

theorem add_plain (g j : Nat) : (⟨g, 0, none⟩ : Addr).add j = ⟨g, j, none⟩ := by unfold Addr.add; split <;> simp_all
theorem Own.reads_take {base : Nat} {w : World} {A : Option Addr} {n p : Nat} {xs : List Nat} (h : Own base w A n xs) (hp : p ≤ n) : Hid (Reads w w.heap.size 1 A p ((xs.take p).map fl)) := by
  have hr := h.reads
  refine ⟨by simp; have := h.1; omega, fun h0 => ?_⟩
  obtain ⟨ad, hA, hb, hc⟩ := hr.2 (by omega)
  refine ⟨ad, hA, hb, fun j u hu => hc j u ?_⟩
  rw [List.map_take] at hu
  have hj : j < p := by
    rcases Nat.lt_or_ge j p with h1 | h1
    · exact h1
    · rw [List.getElem?_take_eq_none h1] at hu; cases hu
  rw [List.getElem?_take_of_lt hj] at hu
  exact hu

def ROut (w : World) (k : Nat) (xs : List Nat) (v : Value) (wr : World) : Prop :=
  ∃ zs, wr.ownsRow w.heap.size 26 1 v k (zs.map fl) ∧ zs.Perm (xs.take k) ∧ Up 0 k zs ∧ Below w.heap.size w wr

theorem rchain {wr w1 w2 : World} {o : Obj} {v1 v2 : Value} (hg1 : wr.grownBy w1 (Value.slice none 0 0).ownBlock) (hat1 : v1.ownBlock = (Value.slice none 0 0).ownBlock ∨ v1.ownBlock = some wr.heap.size)
    (hg2 : (w1.alloc o).grownBy w2 v1.ownBlock) (hat2 : v2.ownBlock = v1.ownBlock ∨ v2.ownBlock = some (w1.alloc o).heap.size) : Below wr.heap.size wr w2 ∧ ∀ b, v2.ownBlock = some b → wr.heap.size ≤ b := by
  have hs := hg1.size
  have b1 : Below wr.heap.size wr w1 := (Below.refl _ _).grown hg1 (Nat.le_refl _) (fun k hk => by simp [Value.ownBlock] at hk)
  have v1b : ∀ b, v1.ownBlock = some b → wr.heap.size ≤ b := by
    intro b hb
    rcases hat1 with h | h
    · rw [h] at hb; simp [Value.ownBlock] at hb
    · rw [h] at hb; injection hb; omega
  refine ⟨(b1.alloc hs o).grown hg2 (by simp; omega) v1b, ?_⟩
  intro b hb
  rcases hat2 with h | h
  · exact v1b b (by rw [← h]; exact hb)
  · rw [h] at hb; injection hb with hb; simp at hb; omega

theorem reads_one (w1 : World) (f : Nat) : Reads (w1.alloc (.cells #[.float .f64 f] 26)) (w1.heap.size + 1) 1 (some ⟨w1.heap.size, 0, none⟩) 1 ([f].map fl) := by
  refine ⟨rfl, fun _ => ⟨_, rfl, by simp, fun j u hu => ?_⟩⟩
  match j with
  | 0 => simp at hu; subst hu; simp [Addr.add, fl]
  | j + 1 => simp at hu

theorem rord_step {w wr w1 w2 w3 : World} {o : Obj} {v1 v2 v3 : Value} {p k : Nat} {f : Nat} {zs xs : List Nat} (B1 : Below w.heap.size w wr) (hg1 : wr.grownBy w1 (Value.slice none 0 0).ownBlock) (hat1 : v1.ownBlock = (Value.slice none 0 0).ownBlock ∨ v1.ownBlock = some wr.heap.size)
    (hg2 : (w1.alloc o).grownBy w2 v1.ownBlock) (hat2 : v2.ownBlock = v1.ownBlock ∨ v2.ownBlock = some (w1.alloc o).heap.size) (hg3 : w2.grownBy w3 v2.ownBlock)
    (h3 : w3.ownsRow w.heap.size 26 1 v3 (0 + p + 1 + (k - p)) ([] ++ (zs.take p).map fl ++ [f].map fl ++ (zs.drop p).map fl))
    (hzl : zs.length = k) (hpk : p ≤ k) (hk : k < xs.length) (hP : zs.Perm (xs.take k)) (hU : Up 0 k zs) (h1 : ∀ q, p ≤ q → q < k → keyN f < K zs q) (h2 : p = 0 ∨ K zs (p - 1) ≤ keyN f) (hf : f = nth xs k) : ROut w (k + 1) xs v3 w3 := by
  obtain ⟨b2, v2b⟩ := rchain hg1 hat1 hg2 hat2
  refine ⟨putIn zs p f, ?_, ?_, ?_, ?_⟩
  · have e : [] ++ (zs.take p).map fl ++ [f].map fl ++ (zs.drop p).map fl = (putIn zs p f).map fl := by simp [putIn]
    rw [e, show 0 + p + 1 + (k - p) = k + 1 by omega] at h3
    exact h3
  · have e : xs.take (k + 1) = xs.take k ++ [f] := by rw [List.take_succ_eq_append_getElem hk, hf, nth_lt hk]
    rw [e]
    exact (putIn_perm zs p f).trans (hP.append_right [f])
  · have := putIn_up zs p f (by omega) (by rw [hzl]; exact hU) (by rw [hzl]; exact h1) h2
    rw [hzl] at this; exact this
  · exact (B1.trans (b2.mono B1.size)).grown hg3 (Nat.le_trans B1.size b2.size) (fun b hb => Nat.le_trans B1.size (v2b b hb))

set_option maxHeartbeats 1000000 in
theorem rorder_any (w : World) (A : Option Addr) (n c : Nat) (xs : List Nat) (hr : FR w A n xs) (hw : Words xs) (hn : n ≤ 1000) :
    Calls Try.prog 13 #[.slice A n c] w (OrdPost w n xs) := by
  obtain ⟨i0, hi0, hz0, hz1, hz2⟩ := info_parts fl_info
  have HR := hide hr
  have HW := hide hw
  have HL := hide hr.len
  clear hr hw
  go_enter Try.func13, Try.ntmps13
  go_wp2_with fail
  go_loopw [3, 10] (fun v u wr => ∃ k : Nat, u = .int .i64 k ∧ k ≤ n ∧ Hid (ROut w k xs v wr)) (fun _ u _ => n - (intOf u).toNat)
  case atStart => exact ⟨0, rfl, by omega, hide ⟨[], ⟨rfl, .inl ⟨rfl, rfl⟩⟩, by simp, Up.empty _ (by omega), Below.refl _ _⟩⟩
  case round =>
    obtain ⟨k, rfl, hk, HO⟩ := hrel
    by_cases hkn : k < n
    · have hkz : (k : Int) < (n : Int) := by omega
      obtain ⟨zs, h1, h2, h3, h4⟩ := HO.out
      obtain ⟨B, c2, rfl, ho⟩ := Own.of_row h1
      have O1 := hide h1
      have P1 := hide h2
      have U1 := hide h3
      have B1 := hide h4
      have OW := hide ho
      have hzl := hide ho.1
      obtain ⟨a1, rfl, ca⟩ := HR.out.cell k hkn
      have ca' := (B1.out.cell (p := a1.add k) (by obtain ⟨ad, e, hb, _⟩ := HR.out.2 (by omega); injection e with e; subst e; rw [block_of_add]; exact hb)).trans ca
      clear h1 h2 h3 h4 ca HO
      have wf := hide (HW.out.nth k)
      obtain ⟨f, hf⟩ : ∃ f, f = nth xs k := ⟨_, rfl⟩
      rw [← hf] at ca' wf
      unfold fl at ca'
      have HF := hide hf
      clear hf ho
      go_wp2_with fail
      go_loop [6] (fun v => ∃ p : Nat, v = .int .i64 p ∧ p ≤ k ∧ Hid (∀ q, p ≤ q → q < k → keyN f < K zs q)) (fun v => (intOf v).toNat)
      case atStart => exact ⟨k, rfl, Nat.le_refl _, hide (fun q _ _ => by omega)⟩
      case round =>
        obtain ⟨p, rfl, hpk, HP⟩ := hrel
        by_cases hgo : 0 < p ∧ keyN f < K zs (p - 1)
        · obtain ⟨hp0, hkk⟩ := hgo
          obtain ⟨b1, rfl, cb⟩ := OW.out.reads.cell (p - 1) (by omega)
          have hpz : (0 : Int) < (p : Int) := by omega
          have hp1 : (0 : Int) ≤ (p : Int) - 1 := by omega
          have hpk2 : (p : Int) - 1 < (k : Int) := by omega
          have wz : Hid (nth zs (p - 1) < 18446744073709551616) := by
            have hwz : Words zs := fun x hx => HW.out x (List.mem_of_mem_take (P1.out.mem_iff.1 hx))
            exact hwz.nth _
          obtain ⟨x, hx⟩ : ∃ x, x = nth zs (p - 1) := ⟨_, rfl⟩
          unfold K at hkk
          rw [← hx] at cb wz hkk
          unfold fl at cb
          have HX := hide hx
          clear hx
          have hd := cmp_gt hkk
          have HKK := hide hkk
          clear hkk
          go_wp2_with (go_at_call 23; refine (rcmp_any x f wz.out wf.out _).mono ?_; rintro e w' ⟨rfl, rfl⟩)
          go_round
          case rel =>
            refine ⟨p - 1, by congr 1; omega, by omega, hide (fun q h1 h2 => ?_)⟩
            by_cases hq : p ≤ q
            · exact HP.out q hq h2
            · obtain rfl : q = p - 1 := by omega
              unfold K; rw [← HX.out]; exact HKK.out
          case measure => simp [intOf]; omega
        · have hx : p = 0 ∨ K zs (p - 1) ≤ keyN f := by
            rcases Nat.eq_zero_or_pos p with h | h
            · exact .inl h
            · exact .inr (by
                rcases Nat.lt_or_ge (keyN f) (K zs (p - 1)) with h1 | h1
                · exact absurd ⟨h, h1⟩ hgo
                · exact h1)
          have HX := hide hx
          clear hgo hx
          have WB := hide B1.out.size
          have o0 : wr.ownsRow w.heap.size 26 1 (.slice none 0 0) 0 [] := ⟨rfl, .inl ⟨rfl, rfl⟩⟩
          have O0 := hide o0
          have H1 := hide (one_fl (zs.take p))
          have H2 := hide (one_fl [f])
          have H3 := hide (one_fl (zs.drop p))
          clear o0
          rcases O1.out.2 with ⟨hv, h0⟩ | ⟨g, cap, cur, hv, hg, hh, hkc, hcm, hcs, hct⟩
          · injection hv with e1 e2 e3
            subst e1 e3
            clear e2
            subst h0
            obtain rfl : p = 0 := by omega
            have R1 : Hid (Reads wr wr.heap.size 1 (none) 0 ((zs.take 0).map fl)) := (OW.out.reads_take hpk).out
            have R3 : Hid (Reads wr wr.heap.size 1 (none) 0 ((zs.drop 0).map fl)) := by
              exact OW.out.reads
              -- (the whole row)
              -- (the whole row)
            go_wp2_with (first
              | (at_builtin
                 refine wpList_append_any _ rfl (.const (.slice none 0 0)) (.tmp 32) _ rfl w.heap.size 26 i0 _ 1 8 Try.underlying22 hi0 hz0 hz1 hz2 rfl (by omega) (.slice none 0 0) 0 [] rfl O0.out wr.heap.size (none) 0 (0) ((zs.take 0).map fl) rfl R1.out H1.out (by simp only [maxLen]; omega) (by omega) WB.out ?_
                 intro v1 w1 hown1 hg1 hat1
                 have W1 : Hid (wr.heap.size ≤ w1.heap.size) := hg1.size
                 have O1' : Hid ((w1.alloc (.cells #[.float .f64 f] 26)).ownsRow w.heap.size 26 1 v1 (0 + 0) ([] ++ (zs.take 0).map fl)) := hown1.alloc _
                 have R2 := hide (reads_one w1 f)
                 have HG1 := hide hg1
                 have HA1 := hide hat1
                 clear hown1 hg1 hat1)
              | (at_builtin
                 refine wpList_append_any _ rfl (.tmp 34) (.tmp 36) _ rfl w.heap.size 26 i0 _ 1 8 Try.underlying22 hi0 hz0 hz1 hz2 rfl (by omega) v1 (0 + 0) ([] ++ (zs.take 0).map fl) rfl O1'.out (w1.heap.size + 1) (some ⟨w1.heap.size, 0, none⟩) 1 1 ([f].map fl) rfl R2.out H2.out (by simp only [maxLen]; omega) (by omega) (by have := WB.out; have := W1.out; simp; omega) ?_
                 intro v2 w2 hown2 hg2 hat2
                 have R4 := hide (R3.out.below (rchain HG1.out HA1.out hg2 hat2).1)
                 have W2 := hide (Nat.le_trans WB.out (rchain HG1.out HA1.out hg2 hat2).1.size)
                 have O2 := hide hown2
                 have HG2 := hide hg2
                 have HA2 := hide hat2
                 clear hown2 hg2 hat2)
              | (at_builtin
                 refine wpList_append_any _ rfl (.tmp 38) (.tmp 41) _ rfl w.heap.size 26 i0 _ 1 8 Try.underlying22 hi0 hz0 hz1 hz2 rfl (by omega) v2 (0 + 0 + 1) ([] ++ (zs.take 0).map fl ++ [f].map fl) rfl O2.out wr.heap.size (none) 0 (0) ((zs.drop 0).map fl) rfl R4.out H3.out (by simp only [maxLen]; omega) (by omega) W2.out ?_
                 intro v3 w3 hown3 hg3 _hat3
                 have HR3 := hide (rord_step B1.out HG1.out HA1.out HG2.out HA2.out hg3 hown3 hzl.out hpk (by rw [HL.out]; exact hkn) P1.out U1.out HP.out HX.out HF.out)
                 clear hown3 hg3))
            go_roundw
            case rel => exact ⟨1, by go_num, by omega, HR3⟩
            case measure => simp [intOf]; omega
          · injection hv with e1 e2 e3
            subst e1 e3
            clear e2 hh hcs hct
            unfold maxLen at hcm
            rcases Nat.eq_zero_or_pos p with hp | hp
            · have hpz : decide ((0 : Int) < (p : Int)) = false := decide_eq_false (by omega)
              have hple : p ≤ 0 := by omega
              clear hp
              by_cases hcp : c2 = p
              · obtain rfl : p = 0 := by omega
                obtain rfl : k = 0 := by omega
                subst hcp
                have R1 : Hid (Reads wr wr.heap.size 1 (some ⟨g, 0, none⟩) 0 ((zs.take 0).map fl)) := (OW.out.reads_take hpk).out
                have R3 : Hid (Reads wr wr.heap.size 1 (some ⟨g, 0, none⟩) 0 ((zs.drop 0).map fl)) := by
                  exact OW.out.reads
                  -- (the whole row)
                  -- (the whole row)
                go_wp2_with (first
                  | (at_builtin
                     refine wpList_append_any _ rfl (.const (.slice none 0 0)) (.tmp 32) _ rfl w.heap.size 26 i0 _ 1 8 Try.underlying22 hi0 hz0 hz1 hz2 rfl (by omega) (.slice none 0 0) 0 [] rfl O0.out wr.heap.size (some ⟨g, 0, none⟩) 0 (0) ((zs.take 0).map fl) rfl R1.out H1.out (by simp only [maxLen]; omega) (by omega) WB.out ?_
                     intro v1 w1 hown1 hg1 hat1
                     have W1 : Hid (wr.heap.size ≤ w1.heap.size) := hg1.size
                     have O1' : Hid ((w1.alloc (.cells #[.float .f64 f] 26)).ownsRow w.heap.size 26 1 v1 (0 + 0) ([] ++ (zs.take 0).map fl)) := hown1.alloc _
                     have R2 := hide (reads_one w1 f)
                     have HG1 := hide hg1
                     have HA1 := hide hat1
                     clear hown1 hg1 hat1)
                  | (at_builtin
                     refine wpList_append_any _ rfl (.tmp 34) (.tmp 36) _ rfl w.heap.size 26 i0 _ 1 8 Try.underlying22 hi0 hz0 hz1 hz2 rfl (by omega) v1 (0 + 0) ([] ++ (zs.take 0).map fl) rfl O1'.out (w1.heap.size + 1) (some ⟨w1.heap.size, 0, none⟩) 1 1 ([f].map fl) rfl R2.out H2.out (by simp only [maxLen]; omega) (by omega) (by have := WB.out; have := W1.out; simp; omega) ?_
                     intro v2 w2 hown2 hg2 hat2
                     have R4 := hide (R3.out.below (rchain HG1.out HA1.out hg2 hat2).1)
                     have W2 := hide (Nat.le_trans WB.out (rchain HG1.out HA1.out hg2 hat2).1.size)
                     have O2 := hide hown2
                     have HG2 := hide hg2
                     have HA2 := hide hat2
                     clear hown2 hg2 hat2)
                  | (at_builtin
                     refine wpList_append_any _ rfl (.tmp 38) (.tmp 41) _ rfl w.heap.size 26 i0 _ 1 8 Try.underlying22 hi0 hz0 hz1 hz2 rfl (by omega) v2 (0 + 0 + 1) ([] ++ (zs.take 0).map fl ++ [f].map fl) rfl O2.out wr.heap.size (some ⟨g, 0, none⟩) 0 (0) ((zs.drop 0).map fl) rfl R4.out H3.out (by simp only [maxLen]; omega) (by omega) W2.out ?_
                     intro v3 w3 hown3 hg3 _hat3
                     have HR3 := hide (rord_step B1.out HG1.out HA1.out HG2.out HA2.out hg3 hown3 hzl.out hpk (by rw [HL.out]; exact hkn) P1.out U1.out HP.out HX.out HF.out)
                     clear hown3 hg3))
                go_roundw
                case rel => exact ⟨1, by go_num, by omega, HR3⟩
                case measure => simp [intOf]; omega
              · have hlt : p < c2 := by omega
                obtain rfl : p = 0 := by omega
                have R1 : Hid (Reads wr wr.heap.size 1 (some ⟨g, 0, none⟩) 0 ((zs.take 0).map fl)) := (OW.out.reads_take hpk).out
                have R3 : Hid (Reads wr wr.heap.size 1 (some ⟨g, 0, none⟩) k ((zs.drop 0).map fl)) := by
                  exact OW.out.reads
                  -- (the whole row)
                  -- (the whole row)
                go_wp2_with (first
                  | (at_builtin
                     refine wpList_append_any _ rfl (.const (.slice none 0 0)) (.tmp 32) _ rfl w.heap.size 26 i0 _ 1 8 Try.underlying22 hi0 hz0 hz1 hz2 rfl (by omega) (.slice none 0 0) 0 [] rfl O0.out wr.heap.size (some ⟨g, 0, none⟩) 0 (c2) ((zs.take 0).map fl) rfl R1.out H1.out (by simp only [maxLen]; omega) (by omega) WB.out ?_
                     intro v1 w1 hown1 hg1 hat1
                     have W1 : Hid (wr.heap.size ≤ w1.heap.size) := hg1.size
                     have O1' : Hid ((w1.alloc (.cells #[.float .f64 f] 26)).ownsRow w.heap.size 26 1 v1 (0 + 0) ([] ++ (zs.take 0).map fl)) := hown1.alloc _
                     have R2 := hide (reads_one w1 f)
                     have HG1 := hide hg1
                     have HA1 := hide hat1
                     clear hown1 hg1 hat1)
                  | (at_builtin
                     refine wpList_append_any _ rfl (.tmp 34) (.tmp 36) _ rfl w.heap.size 26 i0 _ 1 8 Try.underlying22 hi0 hz0 hz1 hz2 rfl (by omega) v1 (0 + 0) ([] ++ (zs.take 0).map fl) rfl O1'.out (w1.heap.size + 1) (some ⟨w1.heap.size, 0, none⟩) 1 1 ([f].map fl) rfl R2.out H2.out (by simp only [maxLen]; omega) (by omega) (by have := WB.out; have := W1.out; simp; omega) ?_
                     intro v2 w2 hown2 hg2 hat2
                     have R4 := hide (R3.out.below (rchain HG1.out HA1.out hg2 hat2).1)
                     have W2 := hide (Nat.le_trans WB.out (rchain HG1.out HA1.out hg2 hat2).1.size)
                     have O2 := hide hown2
                     have HG2 := hide hg2
                     have HA2 := hide hat2
                     clear hown2 hg2 hat2)
                  | (at_builtin
                     refine wpList_append_any _ rfl (.tmp 38) (.tmp 41) _ rfl w.heap.size 26 i0 _ 1 8 Try.underlying22 hi0 hz0 hz1 hz2 rfl (by omega) v2 (0 + 0 + 1) ([] ++ (zs.take 0).map fl ++ [f].map fl) rfl O2.out wr.heap.size (some ⟨g, 0, none⟩) k (c2) ((zs.drop 0).map fl) rfl R4.out H3.out (by simp only [maxLen]; omega) (by omega) W2.out ?_
                     intro v3 w3 hown3 hg3 _hat3
                     have HR3 := hide (rord_step B1.out HG1.out HA1.out HG2.out HA2.out hg3 hown3 hzl.out hpk (by rw [HL.out]; exact hkn) P1.out U1.out HP.out HX.out HF.out)
                     clear hown3 hg3))
                go_roundw
                case rel => exact ⟨k + 1, by go_num, by omega, HR3⟩
                case measure => simp [intOf]; omega
            · skip
              have hpz : (0 : Int) < (p : Int) := by omega
              have hp1 : (0 : Int) ≤ (p : Int) - 1 := by omega
              have hpk2 : (p : Int) - 1 < (k : Int) := by omega
              obtain ⟨b1, hb1, cb⟩ := OW.out.reads.cell (p - 1) (by omega)
              obtain rfl : (⟨g, 0, none⟩ : Addr) = b1 := by injection hb1
              have wz : Hid (nth zs (p - 1) < 18446744073709551616) := by
                have hwz : Words zs := fun x hx => HW.out x (List.mem_of_mem_take (P1.out.mem_iff.1 hx))
                exact hwz.nth _
              have hkk : ¬ keyN f < keyN (nth zs (p - 1)) := by
                rcases HX.out with h | h
                · omega
                · unfold K at h; omega
              obtain ⟨x, hx⟩ : ∃ x, x = nth zs (p - 1) := ⟨_, rfl⟩
              rw [← hx] at cb wz hkk
              unfold fl at cb
              simp only [add_plain] at cb
              have hd := cmp_le hkk
              clear hx hkk hb1
              by_cases hcp : c2 = p
              · obtain rfl : p = k := by omega
                obtain rfl : p = c2 := hcp.symm
                have R1 : Hid (Reads wr wr.heap.size 1 (some ⟨g, 0, none⟩) p ((zs.take p).map fl)) := (OW.out.reads_take hpk).out
                have R3 : Hid (Reads wr wr.heap.size 1 (some ⟨g, 0, none⟩) 0 ((zs.drop p).map fl)) := by
                  have h := Reads.cut OW.out.reads (k := p) (cap := p) hpk (by omega)
                  rw [Nat.mul_one, ← List.map_drop, Nat.sub_self] at h
                  first | (rw [if_pos rfl] at h; exact h) | (rw [if_neg (by omega)] at h; refine Eq.mp ?_ h; congr 1; first | rfl | (simp [Addr.add]; done) | (simp only [Option.map_some, Addr.add]; split <;> simp_all))
                go_wp2_with (first
                  | (go_at_call 23; refine (rcmp_any x f wz.out wf.out _).mono ?_; rintro e w' ⟨rfl, rfl⟩)
                  | (at_builtin
                     refine wpList_append_any _ rfl (.const (.slice none 0 0)) (.tmp 32) _ rfl w.heap.size 26 i0 _ 1 8 Try.underlying22 hi0 hz0 hz1 hz2 rfl (by omega) (.slice none 0 0) 0 [] rfl O0.out wr.heap.size (some ⟨g, 0, none⟩) p (p) ((zs.take p).map fl) rfl R1.out H1.out (by simp only [maxLen]; omega) (by omega) WB.out ?_
                     intro v1 w1 hown1 hg1 hat1
                     have W1 : Hid (wr.heap.size ≤ w1.heap.size) := hg1.size
                     have O1' : Hid ((w1.alloc (.cells #[.float .f64 f] 26)).ownsRow w.heap.size 26 1 v1 (0 + p) ([] ++ (zs.take p).map fl)) := hown1.alloc _
                     have R2 := hide (reads_one w1 f)
                     have HG1 := hide hg1
                     have HA1 := hide hat1
                     clear hown1 hg1 hat1)
                  | (at_builtin
                     refine wpList_append_any _ rfl (.tmp 34) (.tmp 36) _ rfl w.heap.size 26 i0 _ 1 8 Try.underlying22 hi0 hz0 hz1 hz2 rfl (by omega) v1 (0 + p) ([] ++ (zs.take p).map fl) rfl O1'.out (w1.heap.size + 1) (some ⟨w1.heap.size, 0, none⟩) 1 1 ([f].map fl) rfl R2.out H2.out (by simp only [maxLen]; omega) (by omega) (by have := WB.out; have := W1.out; simp; omega) ?_
                     intro v2 w2 hown2 hg2 hat2
                     have R4 := hide (R3.out.below (rchain HG1.out HA1.out hg2 hat2).1)
                     have W2 := hide (Nat.le_trans WB.out (rchain HG1.out HA1.out hg2 hat2).1.size)
                     have O2 := hide hown2
                     have HG2 := hide hg2
                     have HA2 := hide hat2
                     clear hown2 hg2 hat2)
                  | (at_builtin
                     refine wpList_append_any _ rfl (.tmp 38) (.tmp 41) _ rfl w.heap.size 26 i0 _ 1 8 Try.underlying22 hi0 hz0 hz1 hz2 rfl (by omega) v2 (0 + p + 1) ([] ++ (zs.take p).map fl ++ [f].map fl) rfl O2.out wr.heap.size (some ⟨g, 0, none⟩) 0 (0) ((zs.drop p).map fl) rfl R4.out H3.out (by simp only [maxLen]; omega) (by omega) W2.out ?_
                     intro v3 w3 hown3 hg3 _hat3
                     have HR3 := hide (rord_step B1.out HG1.out HA1.out HG2.out HA2.out hg3 (by rw [Nat.sub_self]; exact hown3) hzl.out hpk (by rw [HL.out]; exact hkn) P1.out U1.out HP.out HX.out HF.out)
                     clear hown3 hg3))
                go_roundw
                case rel => exact ⟨p + 1, by go_num, by omega, HR3⟩
                case measure => simp [intOf]; omega
              · have hlt : p < c2 := by omega
                have R1 : Hid (Reads wr wr.heap.size 1 (some ⟨g, 0, none⟩) p ((zs.take p).map fl)) := (OW.out.reads_take hpk).out
                have R3 : Hid (Reads wr wr.heap.size 1 (some ⟨g, p, none⟩) (k - p) ((zs.drop p).map fl)) := by
                  have h := Reads.cut OW.out.reads (k := p) (cap := c2) hpk (by omega)
                  rw [Nat.mul_one, ← List.map_drop] at h
                  first | (rw [if_pos rfl] at h; exact h) | (rw [if_neg (by omega)] at h; refine Eq.mp ?_ h; congr 1; first | rfl | (simp [Addr.add]; done) | (simp only [Option.map_some, Addr.add]; split <;> simp_all))
                go_wp2_with (first
                  | (go_at_call 23; refine (rcmp_any x f wz.out wf.out _).mono ?_; rintro e w' ⟨rfl, rfl⟩)
                  | (at_builtin
                     refine wpList_append_any _ rfl (.const (.slice none 0 0)) (.tmp 32) _ rfl w.heap.size 26 i0 _ 1 8 Try.underlying22 hi0 hz0 hz1 hz2 rfl (by omega) (.slice none 0 0) 0 [] rfl O0.out wr.heap.size (some ⟨g, 0, none⟩) p (c2) ((zs.take p).map fl) rfl R1.out H1.out (by simp only [maxLen]; omega) (by omega) WB.out ?_
                     intro v1 w1 hown1 hg1 hat1
                     have W1 : Hid (wr.heap.size ≤ w1.heap.size) := hg1.size
                     have O1' : Hid ((w1.alloc (.cells #[.float .f64 f] 26)).ownsRow w.heap.size 26 1 v1 (0 + p) ([] ++ (zs.take p).map fl)) := hown1.alloc _
                     have R2 := hide (reads_one w1 f)
                     have HG1 := hide hg1
                     have HA1 := hide hat1
                     clear hown1 hg1 hat1)
                  | (at_builtin
                     refine wpList_append_any _ rfl (.tmp 34) (.tmp 36) _ rfl w.heap.size 26 i0 _ 1 8 Try.underlying22 hi0 hz0 hz1 hz2 rfl (by omega) v1 (0 + p) ([] ++ (zs.take p).map fl) rfl O1'.out (w1.heap.size + 1) (some ⟨w1.heap.size, 0, none⟩) 1 1 ([f].map fl) rfl R2.out H2.out (by simp only [maxLen]; omega) (by omega) (by have := WB.out; have := W1.out; simp; omega) ?_
                     intro v2 w2 hown2 hg2 hat2
                     have R4 := hide (R3.out.below (rchain HG1.out HA1.out hg2 hat2).1)
                     have W2 := hide (Nat.le_trans WB.out (rchain HG1.out HA1.out hg2 hat2).1.size)
                     have O2 := hide hown2
                     have HG2 := hide hg2
                     have HA2 := hide hat2
                     clear hown2 hg2 hat2)
                  | (at_builtin
                     refine wpList_append_any _ rfl (.tmp 38) (.tmp 41) _ rfl w.heap.size 26 i0 _ 1 8 Try.underlying22 hi0 hz0 hz1 hz2 rfl (by omega) v2 (0 + p + 1) ([] ++ (zs.take p).map fl ++ [f].map fl) rfl O2.out wr.heap.size (some ⟨g, p, none⟩) (k - p) (c2 - p) ((zs.drop p).map fl) rfl R4.out H3.out (by simp only [maxLen]; omega) (by omega) W2.out ?_
                     intro v3 w3 hown3 hg3 _hat3
                     have HR3 := hide (rord_step B1.out HG1.out HA1.out HG2.out HA2.out hg3 hown3 hzl.out hpk (by rw [HL.out]; exact hkn) P1.out U1.out HP.out HX.out HF.out)
                     clear hown3 hg3))
                go_roundw
                case rel => exact ⟨k + 1, by go_num, by omega, HR3⟩
                case measure => simp [intOf]; omega
    · have hkz : ¬ (k : Int) < (n : Int) := by omega
      have hke : Hid (k = n) := by show _ = _; omega
      go_wp2_with fail
      go_ret
      obtain ⟨zs, h1, h2, h3, h4⟩ := HO.out
      obtain ⟨B, c2, rfl, ho⟩ := Own.of_row h1
      rw [hke.out] at ho h3 h2 ⊢
      rw [← HL.out, List.take_length] at h2
      exact ⟨B, c2, zs, rfl, h4, ho, h2, h3⟩
end Go.Proofs.Ytfopmdnpjokjcaa
