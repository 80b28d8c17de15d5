import Derived.Test.YtfopmdnpjokjcaaSymG
namespace Go.Proofs.Ytfopmdnpjokjcaa
open Go.RowKit Plain

theorem sym_any (N : Nat) : SymSaid N := by
  induction N with
  | zero => intro w0 w g cap x y z a m b L xs hN _ _ _ _ _ _ h1 h2; omega
  | succ N ih =>
    intro w0 w g cap x y z a m b L xs hN ex ey ez eL hr hw ham hmb hb hl hu1 hu2
    subst ex ey ez eL
    by_cases n1 : m = a + 1
    · exact symL_any w0 w g cap a m b xs hr hw n1 hmb hb hl hu2
    · by_cases n2 : b = m + 1
      · exact symR_any w0 w g cap a m b xs hr hw ham n1 n2 hb hl hu1
      · exact symG_any N ih w0 w g cap a m b xs hN hr hw ham hmb hb hl hu1 hu2 n1 n2

theorem sym_at (w0 w : World) (g cap : Nat) (x y z : Int) (a m b L : Nat) (xs : List Nat) (ex : x = a) (ey : y = m) (ez : z = b) (eL : L = xs.length) (hr : SRow w0 w g xs) (hw : Words xs)
    (ham : a < m) (hmb : m < b) (hb : b ≤ xs.length) (hl : xs.length ≤ 1000) (hu1 : Up a m xs) (hu2 : Up m b xs) :
    Calls Try.prog 41 #[.slice (some ⟨g, 0, none⟩) L cap, .int .i64 x, .int .i64 y, .int .i64 z, .func (.func 15) #[] #[]] w (InsPost w0 g a b xs) :=
  sym_any (b - a) w0 w g cap x y z a m b L xs (Nat.le_refl _) ex ey ez eL hr hw ham hmb hb hl hu1 hu2
theorem ins_at (w0 w : World) (g cap : Nat) (x y : Int) (a b L : Nat) (xs : List Nat) (ex : x = a) (ey : y = b) (eL : L = xs.length) (hr : SRow w0 w g xs) (hw : Words xs) (hab : a ≤ b) (hb : b ≤ xs.length) (hl : xs.length ≤ 1000) :
    Calls Try.prog 40 #[.slice (some ⟨g, 0, none⟩) L cap, .int .i64 x, .int .i64 y, .func (.func 15) #[] #[]] w (InsPost w0 g a b xs) := by
  subst ex ey eL
  exact ins_any w0 w g cap a b xs hr hw hab hb hl

theorem dvd_next {s p a : Nat} (hp : s ∣ p) (ha : s ∣ a) (h : p < a) : p + s ≤ a := by
  have h1 : s ∣ a - p := Nat.dvd_sub ha hp
  have := Nat.le_of_dvd (by omega) h1
  omega

/-- Behind a, blocks of s in order; ahead of it, blocks of t. -/
def Blk (t s a n : Nat) (xs : List Nat) : Prop := (∀ p, t ∣ p → p < a → Up p (min (p + t) n) xs) ∧ ∀ p, s ∣ p → a ≤ p → Up p (min (p + s) n) xs

theorem Up.empty {a b : Nat} (xs : List Nat) (h : b ≤ a + 1) : Up a b xs := fun p q hp hpq hq => by omega

/-- The first stage: a block has been put in order. -/
theorem Blk.ins {a b n : Nat} {xs ys : List Nat} (h : Blk 20 1 a n xs) (hd : 20 ∣ a) (hb : b = min (a + 20) n) (hab : a ≤ b) (hi : InR a b xs ys) (hu : Up a b ys) : Blk 20 1 (a + 20) n ys := by
  refine ⟨fun p hp hpa => ?_, fun p _ _ => Up.empty _ (by omega)⟩
  by_cases h1 : p < a
  · have := dvd_next hp hd h1
    exact (h.1 p hp h1).same fun q _ hq => hi.2.2 q (by omega)
  · have : p = a := by
      rcases Nat.lt_or_eq_of_le (show a ≤ p by omega) with h2 | h2
      · have := dvd_next hd hp h2; omega
      · exact h2.symm
    subst this
    rw [hb] at hu; exact hu

/-- The second: two blocks have been merged. -/
theorem Blk.merge {s a b n : Nat} {xs ys : List Nat} (h : Blk (2 * s) s a n xs) (hs : 0 < s) (hd : 2 * s ∣ a) (hb : b = min (a + 2 * s) n) (hi : InR a b xs ys) (hu : Up a b ys) : Blk (2 * s) s (a + 2 * s) n ys := by
  refine ⟨fun p hp hpa => ?_, fun p hp hpa => ?_⟩
  · by_cases h1 : p < a
    · have := dvd_next hp hd h1
      exact (h.1 p hp h1).same fun q _ hq => hi.2.2 q (by omega)
    · have : p = a := by
        rcases Nat.lt_or_eq_of_le (show a ≤ p by omega) with h2 | h2
        · have := dvd_next hd hp h2; omega
        · exact h2.symm
      subst this
      rw [hb] at hu; exact hu
  · exact (h.2 p hp (by omega)).same fun q hq _ => hi.2.2 q (by omega)

/-- A stage is over: blocks of one size alone. -/
theorem Blk.over {t s a n : Nat} {xs : List Nat} (h : Blk t s a n xs) (ha : n ≤ a) : Blk (2 * t) t 0 n xs := by
  refine ⟨fun p _ hp => by omega, fun p hp _ => ?_⟩
  by_cases h1 : p < a
  · exact h.1 p hp h1
  · exact Up.empty _ (by omega)

theorem dvd_of_two {s a : Nat} (h : 2 * s ∣ a) : s ∣ a := Nat.dvd_trans (Nat.dvd_mul_left s 2) h

theorem Blk.left {s a n : Nat} {xs : List Nat} (h : Blk (2 * s) s a n xs) (hd : 2 * s ∣ a) : Up a (min (a + s) n) xs := h.2 a (dvd_of_two hd) (Nat.le_refl _)
theorem Blk.right {s a n : Nat} {xs : List Nat} (h : Blk (2 * s) s a n xs) (hd : 2 * s ∣ a) : Up (a + s) (min (a + 2 * s) n) xs := by
  have := h.2 (a + s) (Nat.dvd_add (dvd_of_two hd) (Nat.dvd_refl s)) (by omega)
  rwa [show a + s + s = a + 2 * s by omega] at this

set_option maxRecDepth 100000 in
set_option maxHeartbeats 4000000 in
theorem stable_any (w0 w : World) (g cap : Nat) (xs : List Nat) (hr : SRow w0 w g xs) (hw : Words xs) (hl : xs.length ≤ 1000) :
    Calls Try.prog 38 #[.slice (some ⟨g, 0, none⟩) xs.length cap, .int .i64 xs.length, .func (.func 15) #[] #[]] w (InsPost w0 g 0 xs.length xs) := by
  have HR := hide hr
  have HW := hide hw
  clear hr hw
  obtain ⟨n, hn⟩ : ∃ n, n = xs.length := ⟨_, rfl⟩
  have HN := hide hn
  rw [← hn] at hl ⊢
  clear hn
  go_enter Try.func38, Try.ntmps38
  go_wp2_with fail
  go_loopw [7, 8] (fun u v wr => ∃ (a b : Nat) (zs : List Nat), u = .int .i64 a ∧ v = .int .i64 b ∧ a ≤ n ∧ a + 20 ≤ b ∧ b ≤ a + 20 ∧ Hid (20 ∣ a) ∧ Hid (SRow w0 wr g zs) ∧ Hid (InR 0 n xs zs) ∧ Hid (Blk 20 1 a n zs)) (fun u _ _ => (n - intOf u).toNat)
  case atStart => exact ⟨0, 20, xs, rfl, rfl, by omega, by omega, by omega, ⟨0, rfl⟩, HR, hide (InR.refl _ _ _), hide ⟨fun p _ hp => by omega, fun p _ _ => Up.empty _ (by omega)⟩⟩
  case round =>
    clear HR
    obtain ⟨a, b, zs, rfl, rfl, han, hb1, hb2, HD, HZ, HI, HB⟩ := hrel
    have L1 : Hid (zs.length = n) := HI.out.1.trans HN.out.symm
    have WZ := hide (HW.out.perm HI.out.2.1)
    by_cases hbn : b ≤ n
    · have hz : (b : Int) ≤ (n : Int) := by omega
      go_wp2_with fail
      refine (ins_at w0 _ g cap _ _ a b _ zs rfl rfl L1.out.symm HZ.out WZ.out (by omega) (by rw [L1.out]; omega) (by rw [L1.out]; omega)).mono ?_
      rintro e1 w1 ⟨rfl, ys, h1, h2, h3⟩
      have HY := hide h1
      have IY := hide h2
      have UY := hide h3
      clear h1 h2 h3
      go_wp2_with fail
      go_roundw
      case rel =>
        have e : b = a + 20 := by omega
        have hd := HD.out
        have hb := HB.out.ins HD.out (b := b) (by omega) (by omega) IY.out UY.out
        refine ⟨b, b + 20, ys, rfl, by go_num, by omega, by omega, by omega, ?_, HY, hide (HI.out.trans (IY.out.wide (by omega) hbn)), ?_⟩
        · show 20 ∣ b
          rw [e]; exact Nat.dvd_add hd (Nat.dvd_refl _)
        · show Blk 20 1 b n ys
          rw [← e] at hb; exact hb
      case measure => simp [intOf]; omega
    · have hz : ¬ (b : Int) ≤ (n : Int) := by omega
      go_wp2_with fail
      refine (ins_at w0 _ g cap _ _ a n _ zs rfl rfl L1.out.symm HZ.out WZ.out (by omega) (by rw [L1.out]; exact Nat.le_refl _) (by rw [L1.out]; omega)).mono ?_
      rintro e1 w1 ⟨rfl, ys, h1, h2, h3⟩
      have HY := hide h1
      have IY := hide (HI.out.trans (h2.wide (Nat.zero_le _) (Nat.le_refl _)))
      have BY := hide ((HB.out.ins HD.out (b := n) (by omega) han h2 h3).over (by omega))
      clear h1 h2 h3 HB HZ HI L1 WZ HD
      go_wp2_with fail
      go_loopw [6, 7, 8, 9] (fun q _ _ _ wr => ∃ (s : Nat) (zs : List Nat), q = .int .i64 s ∧ 0 < s ∧ s ≤ 2000 ∧ Hid (SRow w0 wr g zs) ∧ Hid (InR 0 n xs zs) ∧ Hid (Blk (2 * s) s 0 n zs)) (fun q _ _ _ _ => (n - intOf q).toNat)
      case atStart => exact ⟨20, ys, rfl, by omega, by omega, HY, IY, BY⟩
      case round =>
        clear HY IY BY
        obtain ⟨s, zs, rfl, hs0, hs1, HZ, HI, HB⟩ := hrel
        by_cases hsn : s < n
        · have hsz : (s : Int) < (n : Int) := by omega
          go_wp2_with fail
          go_loopw [7, 8] (fun u v wr => ∃ (a b : Nat) (zs : List Nat), u = .int .i64 a ∧ v = .int .i64 b ∧ a ≤ n ∧ a + 2 * s ≤ b ∧ b ≤ a + 2 * s ∧ Hid (2 * s ∣ a) ∧ Hid (SRow w0 wr g zs) ∧ Hid (InR 0 n xs zs) ∧ Hid (Blk (2 * s) s a n zs)) (fun u _ _ => (n - intOf u).toNat)
          case atStart => exact ⟨0, 2 * s, zs, rfl, by go_num, by omega, by omega, by omega, ⟨0, rfl⟩, HZ, HI, HB⟩
          case round =>
            clear HZ HI HB
            obtain ⟨a, b, zs, rfl, rfl, han, hb1, hb2, HD, HZ, HI, HB⟩ := hrel
            have L1 : Hid (zs.length = n) := HI.out.1.trans HN.out.symm
            have WZ := hide (HW.out.perm HI.out.2.1)
            by_cases hbn : b ≤ n
            · have hz : (b : Int) ≤ (n : Int) := by omega
              have HLf : Hid (Up a (a + s) zs) := by
                have := HB.out.left HD.out
                rw [Nat.min_eq_left (by omega)] at this; exact this
              have HRt : Hid (Up (a + s) b zs) := by
                have := HB.out.right HD.out
                rw [Nat.min_eq_left (by omega), show a + 2 * s = b by omega] at this; exact this
              go_wp2_with fail
              refine (sym_at w0 _ g cap _ _ _ a (a + s) b _ zs rfl (by omega) rfl L1.out.symm HZ.out WZ.out (by omega) (by omega) (by rw [L1.out]; omega) (by rw [L1.out]; omega) HLf.out HRt.out).mono ?_
              rintro e1 w1 ⟨rfl, ys, h1, h2, h3⟩
              have HY := hide h1
              have IY := hide h2
              have UY := hide h3
              clear h1 h2 h3
              go_wp2_with fail
              go_roundw
              case rel =>
                have e : b = a + 2 * s := by omega
                have hd := HD.out
                have hb := HB.out.merge hs0 HD.out (b := b) (by omega) IY.out UY.out
                refine ⟨b, b + 2 * s, ys, rfl, by go_num, by omega, by omega, by omega, ?_, HY, hide (HI.out.trans (IY.out.wide (by omega) hbn)), ?_⟩
                · show 2 * s ∣ b
                  rw [e]; exact Nat.dvd_add hd (Nat.dvd_refl _)
                · show Blk (2 * s) s b n ys
                  rw [← e] at hb; exact hb
              case measure => simp [intOf]; omega
            · have hz : ¬ (b : Int) ≤ (n : Int) := by omega
              by_cases hm : a + s < n
              · have hmz : (a : Int) + (s : Int) < (n : Int) := by omega
                have HLf : Hid (Up a (a + s) zs) := by
                  have := HB.out.left HD.out
                  rw [Nat.min_eq_left (by omega)] at this; exact this
                have HRt : Hid (Up (a + s) n zs) := by
                  have := HB.out.right HD.out
                  rw [Nat.min_eq_right (by omega)] at this; exact this
                go_wp2_with fail
                refine (sym_at w0 _ g cap _ _ _ a (a + s) n _ zs rfl (by omega) rfl L1.out.symm HZ.out WZ.out (by omega) (by omega) (by rw [L1.out]; omega) (by rw [L1.out]; omega) HLf.out HRt.out).mono ?_
                rintro e1 w1 ⟨rfl, ys, h1, h2, h3⟩
                have HY := hide h1
                have IY := hide h2
                have UY := hide h3
                clear h1 h2 h3
                go_wp2_with fail
                go_roundw
                case rel => exact ⟨2 * s, ys, by first | rfl | go_num | (congr 1; omega), by omega, by omega, HY, hide (HI.out.trans (IY.out.wide (by omega) (Nat.le_refl _))), hide ((HB.out.merge hs0 HD.out (b := n) (by omega) IY.out UY.out).over (by omega))⟩
                case measure => simp [intOf]; omega
              · have hmz : ¬ (a : Int) + (s : Int) < (n : Int) := by omega
                have HLf : Hid (Up a n zs) := by
                  have := HB.out.left HD.out
                  rw [Nat.min_eq_right (by omega)] at this; exact this
                go_wp2_with fail
                go_roundw
                case rel => exact ⟨2 * s, zs, by first | rfl | go_num | (congr 1; omega), by omega, by omega, HZ, HI, hide ((HB.out.merge hs0 HD.out (b := n) (by omega) (InR.refl _ _ _) HLf.out).over (by omega))⟩
                case measure => simp [intOf]; omega
        · have hsz : ¬ (s : Int) < (n : Int) := by omega
          have HU : Hid (Up 0 n zs) := by
            have := HB.out.2 0 ⟨0, rfl⟩ (Nat.le_refl _)
            rw [Nat.min_eq_right (by omega)] at this; exact this
          go_wp2_with fail
          go_end0
          exact ⟨rfl, zs, HZ.out, HI.out, HU.out⟩
end Go.Proofs.Ytfopmdnpjokjcaa
