/-
  frac.Same of two rows that are alike; the plain law and the walk of abaculuslaw37.ShareWide.
-/
import Derived.Test.YtbjemjopcoajcaaGreatDoorShareKn
import Derived.Test.YtbjemjopcoajcaaGreatDoorShareMixedW
import Derived.Test.YtbjemjopcoajcaaGreatDoorFracCmp
namespace Go.Proofs.YtbjemjopcoajcaaGreatDoor
open Go.RowKit
set_option linter.unusedSimpArgs false
set_option linter.unusedVariables false

theorem cmpQ_eq (q : Rat) : cmpQ q q = 0 := by unfold cmpQ; simp
/-! ### sums of single worths -/
def sumB (w : List Rat) (s : Nat) : Nat → Rat
  | 0 => 0
  | j + 1 => if bitOn s j then sumB w s j + w.getD j 0 else sumB w s j
theorem bitT (k c : Nat) : bitOn k c = k.testBit c := by
  rw [Nat.testBit_eq_decide_div_mod_eq]
  rfl
theorem bitOn_add {n k c : Nat} (hn : n ≤ 10) (hk : k < 2 ^ n) (hc : c < n) (h : bitOn k c = false) (i : Nat) : bitOn (k + 2 ^ c) i = (bitOn k i || decide (c = i)) := by
  rw [← (with_lt hn hk hc h).2, bitT, bitT, Nat.testBit_or, Nat.testBit_two_pow]
theorem sumB_add (w : List Rat) {n k c : Nat} (hn : n ≤ 10) (hk : k < 2 ^ n) (hc : c < n) (h : bitOn k c = false) : ∀ j, sumB w (k + 2 ^ c) j = if c < j then sumB w k j + w.getD c 0 else sumB w k j := by
  intro j
  induction j with
  | zero => rfl
  | succ j ih =>
    show (if bitOn (k + 2 ^ c) j then sumB w (k + 2 ^ c) j + w.getD j 0 else sumB w (k + 2 ^ c) j) = if c < j + 1 then (if bitOn k j then sumB w k j + w.getD j 0 else sumB w k j) + w.getD c 0 else (if bitOn k j then sumB w k j + w.getD j 0 else sumB w k j)
    rw [bitOn_add hn hk hc h j, ih]
    by_cases hcj : c = j
    · subst hcj
      rw [h]
      simp
    · rw [decide_eq_false hcj, Bool.or_false]
      by_cases hlt : c < j
      · have hl2 : c < j + 1 := by omega
        simp only [if_pos hlt, if_pos hl2]
        cases bitOn k j with
        | true =>
          show sumB w k j + w.getD c 0 + w.getD j 0 = sumB w k j + w.getD j 0 + w.getD c 0
          rw [Rat.add_assoc, Rat.add_assoc, Rat.add_comm (w.getD c 0)]
        | false => rfl
      · have hl2 : ¬ c < j + 1 := by omega
        simp only [if_neg hlt, if_neg hl2]
theorem sumB_size {M : Nat} {w : List Rat} (hw : ∀ x ∈ w, QS M x) (hM : 1 ≤ M) (s : Nat) : ∀ j, QS (j * (M + 1) + 1) (sumB w s j) := by
  intro j
  induction j with
  | zero => exact QS.zero _ (by omega)
  | succ j ih =>
    unfold sumB
    have e : (j + 1) * (M + 1) + 1 = (j * (M + 1) + 1) + M + 1 := by rw [Nat.add_mul]; omega
    split
    · rw [e]
      exact ih.add (QS.getD hw hM _)
    · exact ih.mono (by omega)
def wideL (w : List Rat) (n m : Nat) : List Rat := (List.range m).map fun s => sumB w s n
theorem wideL_at (w : List Rat) (n : Nat) {m s : Nat} (h : s < m) : (wideL w n m)[s]? = some (sumB w s n) := by
  unfold wideL
  rw [List.getElem?_map, List.getElem?_range h]
  rfl
/-- the shares of a sum of single worths -/
theorem wide_shares {w : List Rat} {n m : Nat} (hw : w.length = n) (hn : n ≤ 10) (hm : 2 ^ n = m) : sharesQ (wideL w n m) n = w := by
  apply List.ext_getElem?
  intro c
  by_cases hc : c < n
  · rw [sharesQ_at _ hc, shareQ_single (wideL w n m) (w.getD c 0) hn hc]
    · rw [List.getD_eq_getElem?_getD, List.getElem?_eq_getElem (by omega)]
      rfl
    · intro k hk hb
      have h1 := (with_lt hn hk hc hb).1
      rw [hm] at hk h1
      have e1 : (wideL w n m).getD (k + 2 ^ c) 0 = sumB w (k + 2 ^ c) n := by rw [List.getD_eq_getElem?_getD, wideL_at w n h1]; rfl
      have e2 : (wideL w n m).getD k 0 = sumB w k n := by rw [List.getD_eq_getElem?_getD, wideL_at w n hk]; rfl
      rw [e1, e2, sumB_add w hn (by rw [hm]; exact hk) hc hb n, if_pos hc, Rat.add_comm, Rat.sub_eq_add_neg, Rat.add_assoc, Rat.add_neg_cancel, Rat.add_zero]
  · rw [List.getElem?_eq_none (by rw [sharesQ_len]; omega), List.getElem?_eq_none (by omega)]
/-! ### frac.Same -/
set_option maxRecDepth 100000 in
set_option maxHeartbeats 2000000 in
theorem compare_same (A A' : Option Addr) (n c c' B B' : Nat) (l : List Rat) (w : World) (h : ReadsQ w B A n l) (h' : ReadsQ w B' A' n l) (hB : B ≤ w.heap.size) (hB' : B' ≤ w.heap.size) (hn : n ≤ 1000000) (hq : ∀ x ∈ l, QS 549755813888 x) :
    Calls Tryz.prog 59 #[.slice A n c, .slice A' n c', .func (.func 18) #[] #[]] w fun e w' => e = .returned (.int .i64 0) ∧ Below w.heap.size w w' := by
  have H := Lib.hid h
  have H' := Lib.hid h'
  have HQ := Lib.hid hq
  have HLN := Lib.hid h.len
  clear h h' hq
  go_enter Tryz.func59, Tryz.ntmps59
  go_wp2_with fail
  go_loopw [13] (fun p wr => ∃ k : Nat, k ≤ n ∧ p = .int .i64 (k : Int) ∧ Below w.heap.size w wr) (fun p _ => n - (intOf p).toNat)
  case atStart => exact ⟨0, by omega, rfl, Below.refl _ _⟩
  case round =>
    obtain ⟨k, hk, rfl, hbw⟩ := hrel
    rename World => wr
    by_cases hkn : k < n
    · have k1 : (k : Int) < (n : Int) := by omega
      have k2 : ¬ (n : Int) ≤ (k : Int) := by omega
      obtain ⟨x, hx⟩ : ∃ x, l[k]? = some x := ⟨_, List.getElem?_eq_getElem (by have := HLN.out; omega)⟩
      obtain ⟨ad, gx, ox, rfl, hP, hgB, hat⟩ := ReadsQ.at_ (H.out.below (hbw.mono hB)) hx
      obtain ⟨ad', gy, oy, rfl, hP', hgB', hat'⟩ := ReadsQ.at_ (H'.out.below (hbw.mono hB')) hx
      have hat2 := hat'.alloc (.cells #[.bool (decide (x.num < 0)), .int .u64 (lo x.num.natAbs : Int), .string (mo x.num.natAbs), .int .u64 (lo ((qden x)) : Int), .string (mo ((qden x)))] 52)
      obtain ⟨x0, x1, x2, x3, x4⟩ := hat.c5
      obtain ⟨y0, y1, y2, y3, y4⟩ := hat2.c5
      have hxs := HQ.out x (List.mem_of_getElem? hx)
      have hcm := fun w => frac_cmp x x w hxs hxs
      rw [cmpQ_eq] at hcm
      unfold qV at hcm
      have HCM := Lib.hid hcm
      have HB2 := Lib.hid (hbw.trans ((balloc2 wr (.cells #[.bool (decide (x.num < 0)), .int .u64 (lo x.num.natAbs : Int), .string (mo x.num.natAbs), .int .u64 (lo ((qden x)) : Int), .string (mo ((qden x)))] 52) (.cells #[.bool (decide (x.num < 0)), .int .u64 (lo x.num.natAbs : Int), .string (mo x.num.natAbs), .int .u64 (lo ((qden x)) : Int), .string (mo ((qden x)))] 52)).mono hbw.size))
      clear hx hat hat' hat2 hxs hcm hbw
      go_wp2_with fail
      refine (HCM.out _).mono ?_
      rintro e w1 ⟨rfl, hw1⟩
      have HB3 := Lib.hid (bthen HB2.out hw1)
      clear hw1 x0 x1 x2 x3 x4 y0 y1 y2 y3 y4
      go_wp2
      exact ⟨⟨k + 1, by omega, by go_num, HB3.out⟩, by simp [intOf]; omega⟩
    · obtain rfl : k = n := by omega
      have k1 : ¬ (k : Int) < (k : Int) := by omega
      have HBW := Lib.hid hbw
      clear hbw
      go_wp2
      go_ret
      exact ⟨rfl, HBW.out⟩
set_option maxRecDepth 100000 in
set_option maxHeartbeats 2000000 in
theorem frac_same (A A' : Option Addr) (n c c' B B' : Nat) (l : List Rat) (w : World) (h : ReadsQ w B A n l) (h' : ReadsQ w B' A' n l) (hB : B ≤ w.heap.size) (hB' : B' ≤ w.heap.size) (hn : n ≤ 1000000) (hq : ∀ x ∈ l, QS 549755813888 x) :
    Calls Tryz.prog 27 #[.slice A n c, .slice A' n c'] w (Ret (.bool true) w) := by
  have HC := Lib.hid (compare_same A A' n c c' B B' l w h h' hB hB' hn hq)
  clear h h' hB hB' hq
  go_enter Tryz.func27, Tryz.ntmps27
  go_wp2_with fail
  refine HC.out.mono ?_
  rintro e w1 ⟨rfl, hw1⟩
  go_wp2
  go_ret
  exact ⟨rfl, hw1⟩
/-! ### the walk -/
theorem partF_set0 (f : Nat → Rat) {n c : Nat} (hc : c < n) : (partF f n c).set c 0 = partF f n c := by
  have hl : ((List.range c).map f).length = c := by simp
  unfold partF
  rw [List.set_append_right _ _ (by omega), hl, Nat.sub_self, show n - c = (n - (c + 1)) + 1 from by omega, List.replicate_succ, List.set_cons_zero]
theorem pow_ne2048 : ∀ n, 1 ≤ n → n ≤ 10 → 2048 ≠ 2 ^ n := fun n h1 h2 => (show ∀ n, n < 11 → 2048 ≠ 2 ^ n from by decide) n (by omega)
set_option maxRecDepth 100000 in
set_option maxHeartbeats 4000000 in
theorem shareWide_walk (A : Option Addr) (n1 c1 : Nat) (zl : List Int) (zn : Int) (w : World) (h1 : ReadsZ w w.heap.size A n1 zl) (hn1 : n1 ≤ 9223372036854775807)
    (n0 : -9223372036854775808 ≤ zn) (n9 : zn ≤ 9223372036854775807) (hT : Tab w) (hF : TabF w) :
    Calls Tryz.prog 6 #[.slice A n1 c1, .int .i64 zn] w (Ret (.bool true) w) := by
  obtain ⟨k0, hk0, hp0⟩ := pick_of zn 11 w n0 n9 (by omega) (by omega)
  obtain ⟨n, hn⟩ : ∃ n, k0 + 1 = n := ⟨_, rfl⟩
  obtain ⟨m, hm⟩ : ∃ m, 2 ^ n = m := ⟨_, rfl⟩
  have hn11 : n ≤ 11 := by omega
  have hn1' : 1 ≤ n := by omega
  have hmb : m ≤ 2048 := by
    rw [← hm]
    exact Nat.pow_le_pow_right (n := 2) (by omega) hn11
  have e1 : (k0 : Int) + 1 = (n : Int) := by omega
  have e2 : IntKind.i64.wrap (n : Int) = (n : Int) := IntWalk.i64_in _ (by omega)
  have e3 : (2 : Int) ^ n = (m : Int) := by rw [pow_cast, hm]
  have e4 : IntKind.i64.wrap (m : Int) = (m : Int) := IntWalk.i64_in _ (by omega)
  have e5 : (n : Int) < 64 := by omega
  have HP := Lib.hid hp0
  have H1 := Lib.hid h1
  have HM := Lib.hid hm
  have HT := Lib.hid hT
  have HF := Lib.hid hF
  clear hp0 h1 hm hT hF hn n0 n9
  go_enter Tryz.func6, Tryz.ntmps6
  go_wp2_with fail
  refine (HP.out w).mono ?_
  rintro e w' ⟨rfl, rfl⟩
  go_wp2_with fail
  refine (hand_row A n1 c1 _ zl n w H1.out (Nat.le_refl _) hn1 (by omega)).mono ?_
  rintro e x1 ⟨v1, rfl, ho1, hf1, hb1⟩
  obtain ⟨B1, d1, rfl, _, _⟩ := ho1.form
  have hr1 := ho1.reads
  rw [rowOf_len] at hr1 ⊢
  have R1 := Lib.hid hr1
  have HB1 := Lib.hid hb1
  clear ho1 hf1 hb1 hr1 HP H1
  go_wp2_with fail
  refine (hand_inRow B1 n d1 _ (rowOf zl n) x1 R1.out (Nat.le_refl _) (by omega) (fun x hx => (rowOf_size zl n x hx).mono (by omega)) (HT.out.next HB1.out)).mono ?_
  rintro e x2 ⟨u, rfl, hq, hg, hb2⟩
  rw [List.take_of_length_le (by rw [rowOf_len]; omega)] at hq
  obtain ⟨B2, d2, rfl, _, _⟩ := OwnW.form hq
  have hr2 := OwnW.reads hq
  obtain ⟨wl, hwl⟩ : ∃ wl, rowOf zl n = wl := ⟨_, rfl⟩
  have hll : wl.length = n := by rw [← hwl, rowOf_len]
  have hls : ∀ x ∈ wl, QS 5 x := by rw [← hwl]; exact rowOf_size zl n
  rw [hwl, hll] at hr2
  rw [rowOf_len]
  have R2 := Lib.hid hr2
  have HLL := Lib.hid hll
  have HLS := Lib.hid hls
  have HB2 := Lib.hid (bthen HB1.out hb2)
  clear hq hg hb2 hr2 R1 HB1 hwl hll hls
  obtain ⟨w1, hmk, ho1, hb1⟩ := make_q m (by omega) x2
  have hg6 : x2.heap.size < w1.heap.size := (OwnW.lt ho1 _ rfl)
  go_wp2_with fail
  clear hmk
  obtain ⟨g6, hg6e⟩ : ∃ g6, x2.heap.size = g6 := ⟨_, rfl⟩
  rw [hg6e] at ho1 hg6 ⊢
  have hg6w : x2.heap.size ≤ g6 := by omega
  have HBX := Lib.hid hb1
  have HO1 := Lib.hid ho1
  clear hg6e hb1 ho1
  go_loopw [7] (fun p wr => ∃ s : Nat, s ≤ m ∧ p = .int .i64 (s : Int) ∧ OwnQ wr (.slice (some ⟨g6, 0, none⟩) m m) (partF (fun s => sumB wl s n) m s) ∧ Below x2.heap.size x2 wr) (fun p _ => m - (intOf p).toNat)
  case atStart => exact ⟨0, by omega, rfl, by rw [partF_none]; exact HO1.out, HBX.out⟩
  case round =>
    obtain ⟨s, hs, rfl, ho6, hbw⟩ := hrel
    rename World => wr
    clear HO1 HBX
    by_cases hsm : s < m
    · have s1 : (s : Int) < (m : Int) := by omega
      have hset0 := partF_set0 (fun s => sumB wl s n) hsm
      have hsets := partF_succ (fun s => sumB wl s n) hsm
      have HST := Lib.hid hsets
      rw [← hset0] at ho6
      have HO := Lib.hid ho6
      have HBW := Lib.hid hbw
      clear hset0 hsets ho6 hbw
      go_wp2_with fail
      go_loopw [8] (fun p wq => ∃ i : Nat, i ≤ n ∧ p = .int .i64 (i : Int) ∧ OwnQ wq (.slice (some ⟨g6, 0, none⟩) m m) ((partF (fun s => sumB wl s n) m s).set s (sumB wl s i)) ∧ Below x2.heap.size x2 wq) (fun p _ => n - (intOf p).toNat)
      case atStart => exact ⟨0, by omega, rfl, HO.out, HBW.out⟩
      case round =>
        obtain ⟨i, hi, rfl, ho6, hbw⟩ := hrel
        rename World => wq
        clear HO HBW
        by_cases hin : i < n
        · have i1 : (i : Int) < (n : Int) := by omega
          have i2 : (i : Int) < 64 := by omega
          have hb1 := bit_eq1 (k := s) (c := i) (by omega)
          obtain ⟨ac, hac⟩ : ∃ ac, sumB wl s i = ac := ⟨_, rfl⟩
          have hsz : QS 549755813888 ac := by
            rw [← hac]
            refine (sumB_size HLS.out (by omega) s i).mono ?_
            have := Nat.mul_le_mul_right (5 + 1) (show i ≤ 11 by omega)
            omega
          cases hbit : bitOn s i with
          | true =>
            rw [hbit] at hb1
            obtain ⟨x, hx⟩ : ∃ x, wl[i]? = some x := ⟨_, List.getElem?_eq_getElem (by have := HLL.out; omega)⟩
            have hsx : QS 5 x := HLS.out x (List.mem_of_getElem? hx)
            have hnext : sumB wl s (i + 1) = ac + x := by rw [sumB, if_pos hbit, hac, getD_of hx]
            have hsz2 : QS 100 ac := by
              rw [← hac]
              refine (sumB_size HLS.out (by omega) s i).mono ?_
              have := Nat.mul_le_mul_right (5 + 1) (show i ≤ 11 by omega)
              omega
            have hadd := fun w (hT : Tab w) => frac_add ac x w (hsz2.mono (by omega)) (hsx.mono (by omega)) hT
            rw [hac] at ho6
            have hcur : ((partF (fun s => sumB wl s n) m s).set s ac)[s]? = some ac := List.getElem?_set_self (by rw [partF_len _ (by omega)]; exact hsm)
            have b1 := OwnQ.at_ ho6 hcur
            obtain ⟨ad, gx, ox, rfl, hP, hgB, b2⟩ := ReadsQ.at_ (R2.out.below hbw) hx
            generalize ac + x = ac2 at *
            unfold qV at hadd
            have HADD := Lib.hid hadd
            have HN := Lib.hid hnext
            have tT := HT.out.next (bthen HB2.out hbw)
            have ne1 : ¬ g6 = gx := by omega
            have ne2 : ¬ gx = g6 := by omega
            clear hadd hnext hsz hsz2 hsx hx hcur hac hbit
            go_upto_region 11 with fail
            obtain ⟨b1q0, b1q1, b1q2, b1q3, b1q4⟩ := b1.c5; have c1 := b1.drew; have c1l := c1.lt; obtain ⟨b2q0, b2q1, b2q2, b2q3, b2q4⟩ := b2.c5; have c2 := b2.drew; have c2l := c2.lt; have hc := bdrew0 wq; go_region_with (first | (go_at_call 26; (with_reducible refine (HADD.out _ (tT.next hc)).mono ?_); rintro e w1 ⟨rfl, hw1⟩; have c1 := c1.below hw1 c1.lt; (try clear c1q0 c1q1 c1q2 c1q3 c1q4); obtain ⟨c1q0, c1q1, c1q2, c1q3, c1q4⟩ := c1.c5; (try clear c1l); have c1l := c1.lt; have c2 := c2.below hw1 c2.lt; (try clear c2q0 c2q1 c2q2 c2q3 c2q4); obtain ⟨c2q0, c2q1, c2q2, c2q3, c2q4⟩ := c2.c5; (try clear c2l); have c2l := c2.lt; have hc := bthen hc hw1; have o6 := OwnW.next ho6 hc; have f0 := OwnQ.frozen o6 (s * 5); have f1 := OwnQ.frozen o6 (s * 5 + 1); have f2 := OwnQ.frozen o6 (s * 5 + 2); have f3 := OwnQ.frozen o6 (s * 5 + 3); have f4 := OwnQ.frozen o6 (s * 5 + 4)))
            all_goals
              go_wp2
              exact ⟨⟨i + 1, by omega, by go_num, by rw [HN.out]; have st := OwnQ.store o6 s ac2; rw [List.set_set] at st; exact st, bset5' (hbw.trans (hc.mono hbw.size)) (by omega) _ _ _ _ _⟩, by simp [intOf]; omega⟩
          | false =>
            rw [hbit] at hb1
            have hnext : sumB wl s (i + 1) = sumB wl s i := by rw [sumB, if_neg (by rw [hbit]; simp)]
            rw [← hnext] at ho6
            have HO := Lib.hid ho6
            have HBW := Lib.hid hbw
            clear hnext hsz hac ho6 hbw hbit
            go_wp2
            exact ⟨⟨i + 1, by omega, by go_num, HO.out, HBW.out⟩, by simp [intOf]; omega⟩
        · obtain rfl : i = n := by omega
          have i1 : ¬ (i : Int) < (i : Int) := by omega
          rw [HST.out] at ho6
          have HO := Lib.hid ho6
          have HBW := Lib.hid hbw
          clear ho6 hbw
          go_wp2
          exact ⟨⟨s + 1, by omega, by go_num, HO.out, HBW.out⟩, by simp [intOf]; omega⟩
    · obtain rfl : s = m := by omega
      have k1 : ¬ (s : Int) < (s : Int) := by omega
      have hok : OwnQ wr (.slice (some ⟨g6, 0, none⟩) s s) (wideL wl n s) := by rw [partF_all] at ho6; exact ho6
      have hr := OwnW.reads hok
      have hwl : (wideL wl n s).length = s := by simp [wideL]
      rw [hwl] at hr
      have R := Lib.hid hr
      have HBW := Lib.hid hbw
      clear hok hr hwl ho6 hbw
      go_wp2_with fail
      by_cases hn10 : n ≤ 10
      · have k2 : ¬ (n : Int) > 10 := by omega
        have k3 : ¬ 10 < (n : Int) := by omega
        refine (share_shares (some ⟨g6, 0, none⟩) s s n _ 100 (wideL wl n s) wr R.out (Nat.le_refl _) HM.out.symm hn1' hn10 (by omega) (by omega) ?_ (HT.out.next (bthen HB2.out HBW.out)) (HF.out.next (bthen HB2.out HBW.out))).mono ?_
        · intro x hx
          obtain ⟨k, _, rfl⟩ := List.mem_map.1 hx
          refine (sumB_size HLS.out (by omega) k n).mono ?_
          have := Nat.mul_le_mul_right (5 + 1) hn11
          omega
        rintro e x3 ⟨u, rfl, hq, hg, hb3⟩
        rw [wide_shares HLL.out hn10 HM.out] at hq
        obtain ⟨B3, d3, rfl, _, _⟩ := OwnW.form hq
        have HQ := Lib.hid hq
        have HB3 := Lib.hid (bthen (bthen HB2.out HBW.out) hb3)
        have HX3 := Lib.hid (HBW.out.trans (hb3.mono HBW.out.size))
        rw [HLL.out]
        clear hq hg hb3 R HBW
        go_wp2_with fail
        refine (share_known x3 (HT.out.next HB3.out) (HF.out.next HB3.out)).mono ?_
        rintro e x4 ⟨rfl, hb4⟩
        have hq4 := OwnW.reads (OwnW.next HQ.out hb4)
        rw [HLL.out] at hq4
        have HX4 := HX3.out.trans (hb4.mono HX3.out.size)
        have r4 := R2.out.below HX4
        have HSM := Lib.hid (frac_same B3 B2 n d3 d2 _ _ wl x4 hq4 r4 (Nat.le_refl _) HX4.size (by omega) (fun x hx => (HLS.out x hx).mono (by omega)))
        have HB4 := Lib.hid (bthen HB3.out hb4)
        clear hq4 HX4 r4 hb4 HQ HX3 HB3
        go_wp2_with fail
        refine HSM.out.mono ?_
        rintro e x5 ⟨rfl, hb5⟩
        have HB5 := Lib.hid (bthen HB4.out hb5)
        clear hb5 HSM
        go_wp2
        go_ret
        exact ⟨rfl, HB5.out⟩
      · have k2 : (n : Int) > 10 := by omega
        have k3 : 10 < (n : Int) := by omega
        have hs48 : s = 2048 := by
          rw [← HM.out, show n = 11 from by omega]
        refine (share_shares_no (some ⟨g6, 0, none⟩) s s wr (by rw [hs48]; exact pow_ne2048)).mono ?_
        rintro e w' ⟨rfl, rfl⟩
        have HB3 := Lib.hid (bthen HB2.out HBW.out)
        clear hs48 R HBW
        go_wp2_with fail
        refine (share_known wr (HT.out.next HB3.out) (HF.out.next HB3.out)).mono ?_
        rintro e x4 ⟨rfl, hb4⟩
        have HB4 := Lib.hid (bthen HB3.out hb4)
        clear hb4 HB3
        go_wp2
        go_ret
        exact ⟨rfl, HB4.out⟩
end Go.Proofs.YtbjemjopcoajcaaGreatDoor
