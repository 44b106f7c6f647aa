/-
  The walk of abaculuslaw37.ShareMixed.
-/
import Derived.Test.YtbjemjopcoajcaaGreatDoorShareKn
import Derived.Test.YtbjemjopcoajcaaGreatDoorShareMix
import Derived.Test.YtbjemjopcoajcaaGreatDoorHandPick
namespace Go.Proofs.YtbjemjopcoajcaaGreatDoor
open Go.RowKit
set_option linter.unusedSimpArgs false
set_option linter.unusedVariables false

theorem Tryz.eltBool : Elt Tryz.prog 26 4 (.bool false) 1 := ⟨Tryz.underlying26, by kernel_rfl, by kernel_rfl⟩
def haveL (t k : Nat) : List Bool := (List.range k).map (bitOn t)
theorem haveL_succ (t k : Nat) : haveL t (k + 1) = haveL t k ++ [bitOn t k] := by
  unfold haveL
  rw [List.range_succ, List.map_append]
  rfl
theorem haveL_len (t k : Nat) : (haveL t k).length = k := by simp [haveL]
theorem low_step : ∀ t, t < 64 → ∀ k, k < 6 → t % 2 ^ (k + 1) = if bitOn t k then t % 2 ^ k ||| 2 ^ k else t % 2 ^ k := by decide
theorem low_bit : ∀ t, t < 64 → ∀ n, n < 7 → ∀ k, k < n → bitOn (t % 2 ^ n) k = bitOn t k := by decide
theorem low_lt (t k : Nat) : t % 2 ^ k < 2 ^ k := Nat.mod_lt _ (Nat.two_pow_pos k)
theorem pick_of (z : Int) (m : Nat) (w : World) (b0 : -9223372036854775808 ≤ z) (b1 : z ≤ 9223372036854775807) (hm : 1 ≤ m) (hm2 : m ≤ 4611686018427387904) :
    ∃ n : Nat, n < m ∧ ∀ w, Calls Tryz.prog 9 #[.int .i64 z, .int .i64 (m : Int)] w fun e w' => e = .returned (.int .i64 (n : Int)) ∧ w = w' := by
  have h0 : 0 ≤ z % (m : Int) := Int.emod_nonneg _ (by omega)
  have h1 : z % (m : Int) < (m : Int) := Int.emod_lt_of_pos _ (by omega)
  obtain ⟨n, hn⟩ := Int.eq_ofNat_of_zero_le h0
  refine ⟨n, by omega, fun w => ?_⟩
  have := hand_pick z m w b0 b1 hm hm2
  rw [hn] at this
  exact this
theorem mixed_same {x y : List Rat} {t n : Nat} (ht : t < 64) (hn : n < 7) : (List.range n).map (mixAt x y (haveL t n)) = (List.range n).map (mixS x y (t % 2 ^ n)) := by
  apply List.map_congr_left
  intro i hi
  have hi := List.mem_range.1 hi
  unfold mixAt mixS
  rw [low_bit t ht n hn i hi]
  have : (haveL t n).getD i false = bitOn t i := by
    unfold haveL
    rw [List.getD_eq_getElem?_getD, List.getElem?_map, List.getElem?_range hi]
    rfl
  rw [this]
theorem mixed_size {m : Nat} {x y : List Rat} {s : List Bool} {n : Nat} (hx : ∀ q ∈ x, QS m q) (hy : ∀ q ∈ y, QS m q) (hm : 1 ≤ m) : ∀ q ∈ (List.range n).map (mixAt x y s), QS m q := by
  intro q hq
  obtain ⟨i, _, rfl⟩ := List.mem_map.1 hq
  unfold mixAt
  split
  · exact QS.getD hx hm _
  · exact QS.getD hy hm _
set_option maxRecDepth 100000 in
set_option maxHeartbeats 4000000 in
theorem shareMixed_walk (A1 A2 : Option Addr) (n1 c1 n2 c2 : Nat) (za zb : List Int) (zn zs zo : Int) (w : World) (h1 : ReadsZ w w.heap.size A1 n1 za) (h2 : ReadsZ w w.heap.size A2 n2 zb) (hn1 : n1 ≤ 9223372036854775807) (hn2 : n2 ≤ 9223372036854775807)
    (n0 : -9223372036854775808 ≤ zn) (n9 : zn ≤ 9223372036854775807) (s0 : -9223372036854775808 ≤ zs) (s9 : zs ≤ 9223372036854775807) (o0 : -9223372036854775808 ≤ zo) (o9 : zo ≤ 9223372036854775807) (hT : Tab w) (hF : TabF w) :
    Calls Tryz.prog 3 #[.slice A1 n1 c1, .slice A2 n2 c2, .int .i64 zn, .int .i64 zs, .int .i64 zo] w (Ret (.bool true) w) := by
  obtain ⟨n, hn, hpn⟩ := pick_of zn 4 w n0 n9 (by omega) (by omega)
  obtain ⟨t, ht, hpt⟩ := pick_of zs 16 w s0 s9 (by omega) (by omega)
  obtain ⟨o, ho, hpo⟩ := pick_of zo 6 w o0 o9 (by omega) (by omega)
  have HP := Lib.hid hpn
  have HPT := Lib.hid hpt
  have HPO := Lib.hid hpo
  have H1 := Lib.hid h1
  have H2 := Lib.hid h2
  have HT := Lib.hid hT
  have HF := Lib.hid hF
  clear hpn hpt hpo h1 h2 hT hF n0 n9 s0 s9 o0 o9
  go_enter Tryz.func3, Tryz.ntmps3
  go_wp2_with fail
  refine (HP.out w).mono ?_
  rintro e w' ⟨rfl, rfl⟩
  go_wp2_with fail
  refine (hand_row A1 n1 c1 _ za n w H1.out (Nat.le_refl _) hn1 (by omega)).mono ?_
  rintro e x1 ⟨v1, rfl, ho1, hf1, hb1⟩
  obtain ⟨B1, d1, rfl, _, _⟩ := ho1.form
  rw [rowOf_len] at *
  go_wp2_with fail
  refine (hand_row A2 n2 c2 _ zb n x1 (H2.out.below hb1) hb1.size hn2 (by omega)).mono ?_
  rintro e x2 ⟨v2, rfl, ho2, hf2, hb2⟩
  obtain ⟨B2, d2, rfl, _, _⟩ := ho2.form
  rw [rowOf_len] at *
  have hr1 := (ho1.next hb2).reads
  have hr2 := ho2.reads
  rw [rowOf_len] at hr1 hr2
  have R1 := Lib.hid hr1
  have R2 := Lib.hid hr2
  have HB2 := Lib.hid (bthen hb1 hb2)
  clear ho1 hf1 ho2 hf2 hb1 hb2 hr1 hr2 H1 H2 HP
  go_wp2_with fail
  go_loopw [13, 14, 15] (fun v s i wr => ∃ k : Nat, k ≤ n ∧ i = .int .i64 (k : Int) ∧ s = .int .i64 ((t % 2 ^ k : Nat) : Int) ∧ Own wr 4 bv v (haveL t k) ∧ (∀ b, v.ownBlock = some b → x2.heap.size ≤ b) ∧ Below x2.heap.size x2 wr) (fun _ _ i _ => n - (intOf i).toNat)
  case atStart => exact ⟨0, by omega, rfl, by simp [Nat.mod_one], Own.nil_ _ _ _, (fun b h => by cases h), Below.refl _ _⟩
  case round =>
    obtain ⟨k, hk, rfl, rfl, hown, hfr, hbel⟩ := hrel
    rename World => wr
    by_cases hkn : k < n
    · have k1 : (k : Int) < (n : Int) := by omega
      have k2 : (k : Int) < 64 := by omega
      have hb1 := bit_eq1 (k := t) (c := k) (by omega)
      have hls := low_step t (by omega) k (by omega)
      have hll := low_lt t k
      have hpk : 2 ^ k ≤ 8 := by
        have := Nat.pow_le_pow_right (n := 2) (by omega) (show k ≤ 3 by omega)
        omega
      have hor := or_walk (k := t % 2 ^ k) (c := k) (by omega) (by omega)
      have hpw := pow_wrap (k := k) (by omega)
      have HSC := Lib.hid (haveL_succ t k)
      have HO := Lib.hid hown
      have HFR := Lib.hid hfr
      have HBL := Lib.hid hbel
      have HLS := Lib.hid hls
      generalize hsv : t % 2 ^ k = sv at *
      clear hown hfr hbel hls hll hsv
      cases hbit : bitOn t k with
      | true =>
        rw [hbit] at hb1 HSC HLS
        clear hbit
        go_wp2_with fail
        refine (HPT.out wr).mono ?_
        rintro e w' ⟨rfl, rfl⟩
        obtain ⟨k9, hk9⟩ : ∃ k9, k + 1 = k9 := ⟨_, rfl⟩
        have k3 : (k : Int) < (k9 : Int) := by omega
        rw [hk9] at HSC HLS
        have HK9 := Lib.hid hk9
        clear hk9
        go_wp2_with (
          at_builtin
          refine app1 Tryz.eltBool rfl (.tmp 31) (.tmp 39) rfl wr _ (haveL t k) true _ rfl rfl HO.out rfl rfl (by rw [haveL_len]; unfold maxLen; omega) (by rw [haveL_len]; omega) ?_
          intro v' w2 hown2 hgr
          have hbel2 := hgr.below HBL.out.size HFR.out
          have hfr2 := hgr.fresh HBL.out.size HFR.out
          rw [← HSC.out] at hown2
          obtain ⟨A', c', rfl, _, _⟩ := Own.form hown2
          rw [haveL_len] at *
          obtain ⟨g', rfl⟩ := Own.addr hown2 (by rw [haveL_len]; have := HK9.out; omega)
          have hc := Own.cellf (k := k) (x := true) (by rw [haveL_len]; exact hown2) (by rw [HSC.out, List.getElem?_append_right (by rw [haveL_len]; omega), haveL_len, Nat.sub_self]; rfl)
          have HO2 := Lib.hid hown2
          have HFR2 := Lib.hid hfr2
          have HBL2 := Lib.hid (HBL.out.trans hbel2)
          clear hown2 hfr2 hbel2 hgr HO HFR HBL)
        exact ⟨⟨k9, by have := HK9.out; omega, by rw [← HK9.out]; go_num, by rw [HLS.out]; simp, HO2.out, HFR2.out, HBL2.out⟩, by simp [intOf]; omega⟩
      | false =>
        rw [hbit] at hb1 HSC HLS
        clear hbit
        go_wp2_with fail
        refine (HPT.out wr).mono ?_
        rintro e w' ⟨rfl, rfl⟩
        obtain ⟨k9, hk9⟩ : ∃ k9, k + 1 = k9 := ⟨_, rfl⟩
        have k3 : (k : Int) < (k9 : Int) := by omega
        rw [hk9] at HSC HLS
        have HK9 := Lib.hid hk9
        clear hk9
        go_wp2_with (
          at_builtin
          refine app1 Tryz.eltBool rfl (.tmp 31) (.tmp 39) rfl wr _ (haveL t k) false _ rfl rfl HO.out rfl rfl (by rw [haveL_len]; unfold maxLen; omega) (by rw [haveL_len]; omega) ?_
          intro v' w2 hown2 hgr
          have hbel2 := hgr.below HBL.out.size HFR.out
          have hfr2 := hgr.fresh HBL.out.size HFR.out
          rw [← HSC.out] at hown2
          obtain ⟨A', c', rfl, _, _⟩ := Own.form hown2
          rw [haveL_len] at *
          obtain ⟨g', rfl⟩ := Own.addr hown2 (by rw [haveL_len]; have := HK9.out; omega)
          have hc := Own.cellf (k := k) (x := false) (by rw [haveL_len]; exact hown2) (by rw [HSC.out, List.getElem?_append_right (by rw [haveL_len]; omega), haveL_len, Nat.sub_self]; rfl)
          have HO2 := Lib.hid hown2
          have HFR2 := Lib.hid hfr2
          have HBL2 := Lib.hid (HBL.out.trans hbel2)
          clear hown2 hfr2 hbel2 hgr HO HFR HBL)
        exact ⟨⟨k9, by have := HK9.out; omega, by rw [← HK9.out]; go_num, by rw [HLS.out]; simp, HO2.out, HFR2.out, HBL2.out⟩, by simp [intOf]; omega⟩
    · obtain rfl : k = n := by omega
      have k1 : ¬ (k : Int) < (k : Int) := by omega
      have HO := Lib.hid hown
      have HFR := Lib.hid hfr
      have HBL := Lib.hid hbel
      clear hown hfr hbel
      generalize hsv : t % 2 ^ k = sv at *
      have ht1 : (rowOf za k).take k = rowOf za k := List.take_of_length_le (by rw [rowOf_len]; omega)
      have ht2 : (rowOf zb k).take k = rowOf zb k := List.take_of_length_le (by rw [rowOf_len]; omega)
      have HSV := Lib.hid hsv
      clear hsv
      go_wp2_with fail
      refine (HPO.out wr).mono ?_
      rintro e w' ⟨rfl, rfl⟩
      by_cases ho5 : o = 5
      · subst ho5
        have o1 : (((5 : Nat) : Int) == 5) = true := rfl
        obtain ⟨k9, hk9⟩ : ∃ k9, k + 1 = k9 := ⟨_, rfl⟩
        have hne : ((k9 : Int) == (k : Int)) = false := by simp; omega
        have hne2 : ¬ (k9 : Int) = (k : Int) := by omega
        have hne3 : ¬ k9 = k := by omega
        have hne4 : ((k9 : Int) != (k : Int)) = true := by simp; omega
        have HK9 := Lib.hid hk9
        clear hk9
        go_wp2_with (
          at_builtin
          refine app1 Tryz.eltBool rfl (.tmp 53) (.tmp 54) rfl wr _ (haveL t k) true _ rfl rfl HO.out rfl rfl (by rw [haveL_len]; unfold maxLen; omega) (by rw [haveL_len]; omega) ?_
          intro v' w2 hown2 hgr
          have hbel2 := hgr.below HBL.out.size HFR.out
          have hform : ∃ A' c', v' = .slice A' k9 c' := by
            obtain ⟨A', c', h, _⟩ := Own.form hown2
            rw [List.length_append, haveL_len] at h
            exact ⟨A', c', by rw [h, ← HK9.out]; rfl⟩
          obtain ⟨A', c', rfl⟩ := hform
          have HBL := Lib.hid (HBL.out.trans hbel2)
          clear hown2 hgr hbel2 HO HFR)
        go_wp2_with fail
        refine (hand_inRow B1 k d1 _ (rowOf za k) w2 (R1.out.below HBL.out) HBL.out.size (by omega) (fun x hx => (rowOf_size za k x hx).mono (by omega)) (HT.out.next (bthen HB2.out HBL.out))).mono ?_
        rintro e x3 ⟨u1, rfl, hq1, hg1, hb3⟩
        rw [ht1] at hq1
        obtain ⟨C1, e1, rfl, _, _⟩ := OwnW.form hq1
        rw [rowOf_len] at *
        go_wp2_with fail
        refine (hand_inRow B2 k d2 _ (rowOf zb k) x3 ((R2.out.below HBL.out).below (hb3.mono HBL.out.size)) (Nat.le_trans HBL.out.size hb3.size) (by omega) (fun x hx => (rowOf_size zb k x hx).mono (by omega)) (HT.out.next (bthen HB2.out (bthen HBL.out hb3)))).mono ?_
        rintro e x4 ⟨u2, rfl, hq2, hg2, hb4⟩
        rw [ht2] at hq2
        obtain ⟨C2, e2, rfl, _, _⟩ := OwnW.form hq2
        rw [rowOf_len] at *
        have HB4 := Lib.hid (bthen HB2.out (bthen (bthen HBL.out hb3) hb4))
        go_wp2_with fail
        refine (share_mixed_no C1 C2 A' k k9 e1 e2 c' x4 (by have := HK9.out; omega) (by omega) (by have := HK9.out; omega)).mono ?_
        rintro e w' ⟨rfl, rfl⟩
        clear hq1 hq2 hg1 hg2 hb3 hb4
        rcases Nat.lt_or_ge k 1 with hk0 | hk0
        · have k0 : (k : Int) < 1 := by omega
          go_wp2_with fail
          refine (share_known x4 (HT.out.next HB4.out) (HF.out.next HB4.out)).mono ?_
          rintro e x5 ⟨rfl, hb5⟩
          have HB5 := Lib.hid (bthen HB4.out hb5)
          clear hb5
          go_wp2
          go_ret
          exact ⟨rfl, HB5.out⟩
        · have k0 : ¬ (k : Int) < 1 := by omega
          go_wp2_with fail
          refine (share_known x4 (HT.out.next HB4.out) (HF.out.next HB4.out)).mono ?_
          rintro e x5 ⟨rfl, hb5⟩
          have HB5 := Lib.hid (bthen HB4.out hb5)
          clear hb5
          go_wp2
          go_ret
          exact ⟨rfl, HB5.out⟩
      · have o1 : ((o : Int) == 5) = false := by simp; omega
        have o2 : ¬ (o : Int) = 5 := by omega
        have hown := HO.out
        obtain ⟨A', c', rfl, _, _⟩ := Own.form hown
        rw [haveL_len] at *
        have HO := Lib.hid hown
        clear hown
        rcases Nat.lt_or_ge k 1 with hk0 | hk0
        · have k0 : (k : Int) < 1 := by omega
          go_wp2_with fail
          refine (hand_inRow B1 k d1 _ (rowOf za k) wr (R1.out.below HBL.out) HBL.out.size (by omega) (fun x hx => (rowOf_size za k x hx).mono (by omega)) (HT.out.next (bthen HB2.out HBL.out))).mono ?_
          rintro e x3 ⟨u1, rfl, hq1, hg1, hb3⟩
          rw [ht1] at hq1
          obtain ⟨C1, e1, rfl, _, _⟩ := OwnW.form hq1
          rw [rowOf_len] at *
          go_wp2_with fail
          refine (hand_inRow B2 k d2 _ (rowOf zb k) x3 ((R2.out.below HBL.out).below (hb3.mono HBL.out.size)) (Nat.le_trans HBL.out.size hb3.size) (by omega) (fun x hx => (rowOf_size zb k x hx).mono (by omega)) (HT.out.next (bthen HB2.out (bthen HBL.out hb3)))).mono ?_
          rintro e x4 ⟨u2, rfl, hq2, hg2, hb4⟩
          rw [ht2] at hq2
          obtain ⟨C2, e2, rfl, _, _⟩ := OwnW.form hq2
          rw [rowOf_len] at *
          have HB4 := Lib.hid (bthen HB2.out (bthen (bthen HBL.out hb3) hb4))
          go_wp2_with fail
          refine (share_mixed_no C1 C2 A' k k e1 e2 c' x4 (by omega) (by omega) (by omega)).mono ?_
          rintro e w' ⟨rfl, rfl⟩
          clear hq1 hq2 hg1 hg2 hb3 hb4
          go_wp2_with fail
          refine (share_known x4 (HT.out.next HB4.out) (HF.out.next HB4.out)).mono ?_
          rintro e x5 ⟨rfl, hb5⟩
          have HB5 := Lib.hid (bthen HB4.out hb5)
          clear hb5
          go_wp2
          go_ret
          exact ⟨rfl, HB5.out⟩
        · have k1 : ¬ (k : Int) < 1 := by omega
          have hkk : ((k : Int) == (k : Int)) = true := by simp
          have HB0 := Lib.hid (Nat.le_refl 0)
          go_wp2_with fail
          refine (hand_inRow B1 k d1 _ (rowOf za k) wr (R1.out.below HBL.out) HBL.out.size (by omega) (fun x hx => (rowOf_size za k x hx).mono (by omega)) (HT.out.next (bthen HB2.out HBL.out))).mono ?_
          rintro e x3 ⟨u1, rfl, hq1, hg1, hb3⟩
          rw [ht1] at hq1
          obtain ⟨C1, e1, rfl, _, _⟩ := OwnW.form hq1
          rw [rowOf_len] at *
          go_wp2_with fail
          refine (hand_inRow B2 k d2 _ (rowOf zb k) x3 ((R2.out.below HBL.out).below (hb3.mono HBL.out.size)) (Nat.le_trans HBL.out.size hb3.size) (by omega) (fun x hx => (rowOf_size zb k x hx).mono (by omega)) (HT.out.next (bthen HB2.out (bthen HBL.out hb3)))).mono ?_
          rintro e x4 ⟨u2, rfl, hq2, hg2, hb4⟩
          rw [ht2] at hq2
          obtain ⟨C2, e2, rfl, _, _⟩ := OwnW.form hq2
          rw [rowOf_len] at *
          have HB4 := Lib.hid (bthen HB2.out (bthen (bthen HBL.out hb3) hb4))
          go_wp2_with fail
          have hr3 := OwnW.reads (OwnW.next hq1 hb4)
          have hr4 := OwnW.reads hq2
          have hr5 := ((Own.reads HO.out).below hb3).below (hb4.mono hb3.size)
          rw [rowOf_len] at hr3 hr4
          rw [haveL_len] at hr5
          have hw4 : wr.heap.size ≤ x4.heap.size := Nat.le_trans hb3.size hb4.size
          refine (share_mixed C1 C2 A' k e1 e2 c' x4.heap.size (rowOf za k) (rowOf zb k) (haveL t k) x4 hr3 hr4 (hr5.more hw4) (Nat.le_refl _) (by omega) (by omega)).mono ?_
          rintro e x5 ⟨v5, rfl, ho5', hf5, hb5⟩
          rw [mixed_same (by omega) (by omega), HSV.out] at ho5'
          obtain ⟨C5, e5, rfl, _, _⟩ := OwnW.form ho5'
          have R1' := Lib.hid ((((R1.out.below HBL.out).below (hb3.mono HBL.out.size)).below (hb4.mono (Nat.le_trans HBL.out.size hb3.size))).below (hb5.mono (Nat.le_trans HBL.out.size hw4)))
          have R2' := Lib.hid ((((R2.out.below HBL.out).below (hb3.mono HBL.out.size)).below (hb4.mono (Nat.le_trans HBL.out.size hb3.size))).below (hb5.mono (Nat.le_trans HBL.out.size hw4)))
          have HX := Lib.hid (Nat.le_trans (Nat.le_trans HBL.out.size hw4) hb5.size)
          have HB5 := Lib.hid (bthen HB4.out hb5)
          have HM := Lib.hid ho5'
          clear ho5' hf5 hb5 hr3 hr4 hr5 hw4 hq1 hq2 hg1 hg2 hb3 hb4 HB4 HO HFR HBL
          simp only [List.length_map, List.length_range]
          go_wp2_with fail
          refine (share_known x5 (HT.out.next HB5.out) (HF.out.next HB5.out)).mono ?_
          rintro e x6 ⟨rfl, hb6⟩
          have HM6 := Lib.hid (OwnW.next HM.out hb6)
          have r1 := R1'.out.below (hb6.mono HX.out)
          have r2 := R2'.out.below (hb6.mono HX.out)
          have hx6 : x2.heap.size ≤ x6.heap.size := Nat.le_trans HX.out hb6.size
          have HB6 := Lib.hid (bthen HB5.out hb6)
          have hsl : sv < 4611686018427387904 := by
            rw [← HSV.out]
            have := Nat.mod_le t (2 ^ k)
            omega
          clear hb6 HM R1' R2' HX
          go_wp2_with fail
          refine (ref_mixed B1 B2 k d1 d2 _ sv (rowOf za k) (rowOf zb k) x6 r1 r2 hx6 (by omega) hsl).mono ?_
          rintro e x7 ⟨v7, rfl, ho7, hf7, hb7⟩
          obtain ⟨C7, e7, rfl, _, _⟩ := ho7.form
          have hm7 := OwnW.reads (OwnW.next HM6.out hb7)
          have hr7 := ho7.reads
          have hsz : ∀ q ∈ (List.range k).map (mixS (rowOf za k) (rowOf zb k) sv), QS 1099511627776 q := by
            rw [← HSV.out, ← mixed_same (by omega) (by omega)]
            exact mixed_size (fun x hx => (rowOf_size za k x hx).mono (by omega)) (fun x hx => (rowOf_size zb k x hx).mono (by omega)) (by omega)
          have hsm := same_row C5 C7 k e5 e7 x7.heap.size x7.heap.size _ x7 (by simpa using hm7) (by simpa using hr7) (Nat.le_refl _) (Nat.le_refl _) (by omega) hsz
          have HSM := Lib.hid hsm
          have HB7 := Lib.hid (bthen HB6.out hb7)
          clear hsm hsz hm7 hr7 ho7 hf7 hb7 HM6 r1 r2 HB6
          simp only [List.length_map, List.length_range]
          go_wp2_with fail
          refine HSM.out.mono ?_
          rintro e x8 ⟨rfl, hb8⟩
          have HB8 := Lib.hid (bthen HB7.out hb8)
          clear HSM hb8 HB7
          go_wp2
          go_ret
          exact ⟨rfl, HB8.out⟩
end Go.Proofs.YtbjemjopcoajcaaGreatDoor
