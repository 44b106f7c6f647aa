/-
  abaculuslaw37.table; the walk of abaculuslaw37.ShareTwins.
-/
import Derived.Test.YtbjemjopcoajcaaGreatDoorShareKn
import Derived.Test.YtbjemjopcoajcaaGreatDoorShareMixedW
import Derived.Test.YtbjemjopcoajcaaGreatDoorFracCmp
namespace Go.Proofs.YtbjemjopcoajcaaGreatDoor
open Go.RowKit
set_option linter.unusedSimpArgs false
set_option linter.unusedVariables false

/-- how many numbers a table has -/
def tabM (k o : Nat) : Nat := 2 ^ (k + 1) + if o = 8 then 1 else 0
set_option maxRecDepth 100000 in
set_option maxHeartbeats 2000000 in
theorem law_table (A : Option Addr) (n c B : Nat) (zs : List Int) (z zo : Int) (k o : Nat) (w : World) (h : ReadsZ w B A n zs) (hB : B ≤ w.heap.size) (hn : n ≤ 9223372036854775807)
    (z0 : -9223372036854775808 ≤ z) (z9 : z ≤ 9223372036854775807) (o0 : -9223372036854775808 ≤ zo) (o9 : zo ≤ 9223372036854775807) (hk : z % 4 = (k : Int)) (ho : zo % 9 = (o : Int)) :
    Calls Tryz.prog 16 #[.slice A n c, .int .i64 z, .int .i64 zo] w fun e w' => ∃ v, e = .returned (.tuple #[v, .int .i64 ((k + 1 : Nat) : Int)]) ∧ RowRel w zs (tabM k o) v w' := by
  have hk4 : k < 4 := by omega
  have hp1 := hand_pick z 4 w z0 z9 (by omega) (by omega)
  have hp2 := hand_pick zo 9 w o0 o9 (by omega) (by omega)
  rw [show ((4 : Nat) : Int) = 4 from rfl, hk] at hp1
  rw [show ((9 : Nat) : Int) = 9 from rfl, ho] at hp2
  have HP1 := Lib.hid hp1
  have HP2 := Lib.hid hp2
  obtain ⟨k1, hk1⟩ : ∃ k1, k + 1 = k1 := ⟨_, rfl⟩
  obtain ⟨m, hm⟩ : ∃ m, 2 ^ k1 = m := ⟨_, rfl⟩
  have hmb : m ≤ 16 := by
    rw [← hm]
    exact Nat.pow_le_pow_right (n := 2) (by omega) (show k1 ≤ 4 by omega)
  have e1 : (k : Int) + 1 = (k1 : Int) := by omega
  have e2 : (2 : Int) ^ k1 = (m : Int) := by rw [pow_cast, hm]
  have e3 : IntKind.i64.wrap (k1 : Int) = (k1 : Int) := IntWalk.i64_in _ (by omega)
  have e4 : IntKind.i64.wrap (m : Int) = (m : Int) := IntWalk.i64_in _ (by omega)
  have e5 : (k1 : Int) < 64 := by omega
  have H := Lib.hid h
  unfold tabM
  rw [hk1, hm]
  clear hp1 hp2 hk ho h hk1 hm
  go_enter Tryz.func16, Tryz.ntmps16
  go_wp2_with fail
  refine HP1.out.mono ?_
  rintro e w' ⟨rfl, rfl⟩
  go_wp2_with fail
  refine HP2.out.mono ?_
  rintro e w' ⟨rfl, rfl⟩
  by_cases ho8 : o = 8
  · subst ho8
    have o1 : (((8 : Nat) : Int) == 8) = true := rfl
    obtain ⟨m1, hm1⟩ : ∃ m1, m + 1 = m1 := ⟨_, rfl⟩
    have hr := hand_row A n c B zs m1 w H.out hB hn (by omega)
    have HR := Lib.hid hr
    have e6 : (m : Int) + 1 = (m1 : Int) := by omega
    have e7 : IntKind.i64.wrap (m1 : Int) = (m1 : Int) := IntWalk.i64_in _ (by omega)
    have HM1 := Lib.hid hm1
    clear hr hm1
    go_wp2_with fail
    refine HR.out.mono ?_
    rintro e w1 ⟨v, rfl, hv⟩
    have HV := Lib.hid hv
    clear hv
    go_wp2
    go_returns
    exact ⟨_, rfl, by first | (rw [HM1.out]; exact HV.out) | (rw [if_pos rfl, HM1.out]; exact HV.out)⟩
  · have o1 : ((o : Int) == 8) = false := by simp; omega
    have o2 : ¬ (o : Int) = 8 := by omega
    have hr := hand_row A n c B zs m w H.out hB hn (by omega)
    have HR := Lib.hid hr
    clear hr
    have HO8 := Lib.hid ho8
    go_wp2_with fail
    refine HR.out.mono ?_
    rintro e w1 ⟨v, rfl, hv⟩
    have HV := Lib.hid hv
    clear hv
    go_wp2
    go_returns
    exact ⟨_, rfl, by first | exact HV.out | (rw [if_neg HO8.out, Nat.add_zero]; exact HV.out)⟩
/-! ### twins -/
def twinAt (v : List Rat) (a b s i : Nat) : Rat := if i < s then v.getD (swapAt a b i) 0 else v.getD i 0
def twinL (v : List Rat) (a b m s : Nat) : List Rat := (List.range m).map (twinAt v a b s)
theorem twinL_len (v : List Rat) (a b m s : Nat) : (twinL v a b m s).length = m := by simp [twinL]
theorem twinL_at (v : List Rat) (a b : Nat) {m i : Nat} (s : Nat) (h : i < m) : (twinL v a b m s)[i]? = some (twinAt v a b s i) := by
  unfold twinL
  rw [List.getElem?_map, List.getElem?_range h]
  rfl
theorem twinL_zero (v : List Rat) (a b : Nat) {m : Nat} (h : v.length = m) : twinL v a b m 0 = v := by
  apply List.ext_getElem?
  intro i
  by_cases hi : i < m
  · rw [twinL_at v a b 0 hi]
    unfold twinAt
    rw [if_neg (by omega), List.getD_eq_getElem?_getD, List.getElem?_eq_getElem (by omega)]
    rfl
  · rw [List.getElem?_eq_none (by rw [twinL_len]; omega), List.getElem?_eq_none (by omega)]
theorem twinL_set (v : List Rat) (a b : Nat) {m s : Nat} (hs : s < m) : (twinL v a b m s).set s (v.getD (swapAt a b s) 0) = twinL v a b m (s + 1) := by
  apply List.ext_getElem?
  intro i
  by_cases hi : i < m
  · rw [twinL_at v a b _ hi]
    by_cases h : s = i
    · subst h
      rw [List.getElem?_set_self (by rw [twinL_len]; exact hi)]
      unfold twinAt
      rw [if_pos (by omega)]
    · rw [List.getElem?_set_ne h, twinL_at v a b _ hi]
      unfold twinAt
      by_cases h2 : i < s
      · rw [if_pos h2, if_pos (by omega)]
      · rw [if_neg h2, if_neg (by omega)]
  · rw [List.getElem?_eq_none (by rw [List.length_set, twinL_len]; omega), List.getElem?_eq_none (by rw [twinL_len]; omega)]
theorem twinL_same (v : List Rat) (a b : Nat) {m s : Nat} (h : swapAt a b s = s) : twinL v a b m s = twinL v a b m (s + 1) := by
  unfold twinL
  apply List.map_congr_left
  intro i hi
  unfold twinAt
  by_cases h1 : i < s
  · rw [if_pos h1, if_pos (by omega)]
  · by_cases h2 : i = s
    · subst h2
      rw [if_neg h1, if_pos (by omega), h]
    · rw [if_neg h1, if_neg (by omega)]
def swapOk (n a b : Nat) : Bool := (List.range (2 ^ n)).all fun s => decide (swapAt a b (swapAt a b s) = swapAt a b s ∧ swapAt a b s < 2 ^ n ∧ (s ^^^ 2 ^ a ^^^ 2 ^ b) < 2 ^ n ∧ (s ^^^ 2 ^ a) < 16)
theorem swapOk_all : ∀ n, n < 5 → ∀ a, a < n → ∀ b, b < n → swapOk n a b = true := by decide +kernel
theorem swap_fix0 (n : Nat) (hn : n < 5) (a : Nat) (ha : a < n) (b : Nat) (hb : b < n) (s : Nat) (hs : s < 2 ^ n) : swapAt a b (swapAt a b s) = swapAt a b s ∧ swapAt a b s < 2 ^ n ∧ (s ^^^ 2 ^ a ^^^ 2 ^ b) < 2 ^ n ∧ (s ^^^ 2 ^ a) < 16 :=
  of_decide_eq_true (List.all_eq_true.1 (swapOk_all n hn a ha b hb) s (List.mem_range.2 hs))
theorem swap_fix (n : Nat) (hn : n < 5) (a : Nat) (ha : a < n) (b : Nat) (hb : b < n) (s : Nat) (hs : s < 2 ^ n) : swapAt a b (swapAt a b s) = swapAt a b s ∧ swapAt a b s < 2 ^ n ∧ (s / 2 ^ b % 2 < s / 2 ^ a % 2 → (s ^^^ 2 ^ a ^^^ 2 ^ b) < 2 ^ n ∧ (s ^^^ 2 ^ a) < 16) :=
  ⟨(swap_fix0 n hn a ha b hb s hs).1, (swap_fix0 n hn a ha b hb s hs).2.1, fun _ => (swap_fix0 n hn a ha b hb s hs).2.2⟩
/-- what the s-th round reads -/
theorem twinAt_swap (v : List Rat) {n a b s : Nat} (hn : n < 5) (ha : a < n) (hb : b < n) (hs : s < 2 ^ n) : twinAt v a b s (swapAt a b s) = v.getD (swapAt a b s) 0 := by
  unfold twinAt
  rw [(swap_fix n hn a ha b hb s hs).1]
  split <;> rfl
theorem cmpQ_self (q : Rat) : cmpQ q q = 0 := by unfold cmpQ; simp
theorem getD_size {m : Nat} {l : List Rat} (h : ∀ x ∈ l, QS m x) (hm : 1 ≤ m) (i : Nat) : QS m (l.getD i 0) := QS.getD h hm i
set_option maxRecDepth 100000 in
set_option maxHeartbeats 4000000 in
theorem shareTwins_walk (A : Option Addr) (n1 c1 : Nat) (zl : List Int) (zn za zb : Int) (w : World) (h1 : ReadsZ w w.heap.size A n1 zl) (hn1 : n1 ≤ 9223372036854775807)
    (n0 : -9223372036854775808 ≤ zn) (n9 : zn ≤ 9223372036854775807) (a0 : -9223372036854775808 ≤ za) (a9 : za ≤ 9223372036854775807) (b0 : -9223372036854775808 ≤ zb) (b9 : zb ≤ 9223372036854775807) (hT : Tab w) (hF : TabF w) :
    Calls Tryz.prog 4 #[.slice A n1 c1, .int .i64 zn, .int .i64 za, .int .i64 zb] w (Ret (.bool true) w) := by
  obtain ⟨k3, hk3, hp3⟩ := pick_of zn 3 w n0 n9 (by omega) (by omega)
  obtain ⟨kt, hkt⟩ : ∃ kt, k3 + 1 = kt := ⟨_, rfl⟩
  obtain ⟨n, hn⟩ : ∃ n, kt + 1 = n := ⟨_, rfl⟩
  obtain ⟨m, hm⟩ : ∃ m, 2 ^ n = m := ⟨_, rfl⟩
  have hn4 : n ≤ 4 := by omega
  have hn2 : 2 ≤ n := by omega
  have hmb : m ≤ 16 := by
    rw [← hm]
    exact Nat.pow_le_pow_right (n := 2) (by omega) hn4
  have hm0 : 1 ≤ m := by rw [← hm]; exact Nat.two_pow_pos n
  obtain ⟨a, ha, hpa⟩ := pick_of za n w a0 a9 (by omega) (by omega)
  obtain ⟨b, hb, hpb⟩ := pick_of zb n w b0 b9 (by omega) (by omega)
  have htab := law_table A n1 c1 _ zl (kt : Int) 0 kt 0 w h1 (Nat.le_refl _) hn1 (by omega) (by omega) (by omega) (by omega) (by omega) (by omega)
  have htm : tabM kt 0 = m := by unfold tabM; rw [hn, hm]; rfl
  rw [hn, htm] at htab
  have e1 : (k3 : Int) + 1 = (kt : Int) := by omega
  have e2 : IntKind.i64.wrap (kt : Int) = (kt : Int) := IntWalk.i64_in _ (by omega)
  have HP3 := Lib.hid hp3
  have HPA := Lib.hid hpa
  have HPB := Lib.hid hpb
  have HTAB := Lib.hid htab
  have HM := Lib.hid hm
  have HT := Lib.hid hT
  have HF := Lib.hid hF
  clear hp3 hpa hpb htab htm hm h1 hT hF hkt hn n0 n9 a0 a9 b0 b9
  go_enter Tryz.func4, Tryz.ntmps4
  go_wp2_with fail
  refine (HP3.out w).mono ?_
  rintro e w' ⟨rfl, rfl⟩
  go_wp2_with fail
  refine HTAB.out.mono ?_
  rintro e x1 ⟨v, rfl, ho1, hf1, hb1⟩
  obtain ⟨A', d1, rfl, _, _⟩ := ho1.form
  obtain ⟨g, rfl⟩ := OwnR.addr ho1 (by rw [rowOf_len]; omega)
  rw [rowOf_len] at *
  have hgw : w.heap.size ≤ g := hf1 g rfl
  clear HTAB HP3 hf1
  go_wp2_with fail
  refine (HPA.out x1).mono ?_
  rintro e w' ⟨rfl, rfl⟩
  go_wp2_with fail
  refine (HPB.out x1).mono ?_
  rintro e w' ⟨rfl, rfl⟩
  clear HPA HPB
  obtain ⟨lv, hlv⟩ : ∃ lv, rowOf zl m = lv := ⟨_, rfl⟩
  have hll : lv.length = m := by rw [← hlv, rowOf_len]
  have hls : ∀ x ∈ lv, QS 5 x := by rw [← hlv]; exact rowOf_size zl m
  have ho2 : OwnR x1 (.slice (some ⟨g, 0, none⟩) m d1) (twinL lv a b m 0) := by rw [twinL_zero lv a b hll, ← hlv]; exact ho1
  have HO1 := Lib.hid ho2
  have HB1 := Lib.hid hb1
  have HLS := Lib.hid hls
  have HLL := Lib.hid hll
  clear ho1 hb1 ho2 hls hll hlv
  go_wp2_with fail
  go_loopw [11] (fun p wr => ∃ s : Nat, s ≤ m ∧ p = .int .i64 (s : Int) ∧ OwnR wr (.slice (some ⟨g, 0, none⟩) m d1) (twinL lv a b m s) ∧ Below w.heap.size w wr) (fun p _ => m - (intOf p).toNat)
  case atStart => exact ⟨0, by omega, rfl, HO1.out, HB1.out⟩
  case round =>
    obtain ⟨s, hs, rfl, ho, hbw⟩ := hrel
    rename World => wr
    clear HO1 HB1
    by_cases hsm : s < m
    · have s1 : (s : Int) < (m : Int) := by omega
      have s2 : s < 2 ^ n := by rw [HM.out]; exact hsm
      obtain ⟨f1, f2, f3⟩ := swap_fix n (by omega) a ha b hb s s2
      have q1 := bit_walk s a (by omega)
      have q2 := bit_walk s b (by omega)
      have ga : (a : Int) < 64 := by omega
      have gb : (b : Int) < 64 := by omega
      have hread := twinAt_swap lv (by omega) ha hb s2
      have hset := twinL_set lv a b hsm
      by_cases hpq : s / 2 ^ b % 2 < s / 2 ^ a % 2
      · obtain ⟨f4, f5⟩ := f3 hpq
        have hsw : swapAt a b s = s ^^^ 2 ^ a ^^^ 2 ^ b := by unfold swapAt; rw [if_pos hpq]
        have h2a : 2 ^ a ≤ 16 := Nat.pow_le_pow_right (n := 2) (by omega) (show a ≤ 4 by omega)
        have h2b : 2 ^ b ≤ 16 := Nat.pow_le_pow_right (n := 2) (by omega) (show b ≤ 4 by omega)
        have x1' := xor_i64n s (2 ^ a) (by omega) (by omega)
        have x2' := xor_i64n (s ^^^ 2 ^ a) (2 ^ b) (by omega) (by omega)
        rw [← pow_cast] at x1' x2'
        have w1' := pow_wrap (k := a) (by omega)
        have w2' := pow_wrap (k := b) (by omega)
        rw [hsw] at f2 hread hset
        rw [HM.out] at f2
        generalize s ^^^ 2 ^ a = t1 at *
        generalize t1 ^^^ 2 ^ b = j at *
        generalize s / 2 ^ a % 2 = pa at *
        generalize s / 2 ^ b % 2 = pb at *
        have hpq2 : (pb : Int) < (pa : Int) := by omega
        have j1 : (j : Int) < (m : Int) := by omega
        have hj : (twinL lv a b m s)[j]? = some (lv.getD j 0) := by rw [twinL_at lv a b s f2, hread]
        have hss := twinL_at lv a b s hsm
        obtain ⟨r, y0, y1, y2, hiq⟩ := OwnR.cell3 ho hj
        obtain ⟨r', z0, z1, z2, _⟩ := OwnR.cell3 ho hss
        have v0 := OwnR.frozen ho (s * 3)
        have v1 := OwnR.frozen ho (s * 3 + 1)
        have v2 := OwnR.frozen ho (s * 3 + 2)
        have hst := OwnR.store ho s r hiq
        rw [hset] at hst
        have HST := Lib.hid hst
        have HBW := Lib.hid hbw
        clear f1 f2 f3 f4 f5 hread hset hsw hj hss hiq hst ho hbw hpq s2
        go_wp2
        exact ⟨⟨s + 1, by omega, by go_num, HST.out, ((HBW.out.setCell (p := ⟨g, s * 3, none⟩) hgw _).setCell (p := ⟨g, s * 3 + 1, none⟩) hgw _).setCell (p := ⟨g, s * 3 + 2, none⟩) hgw _⟩, by simp [intOf]; omega⟩
      · have hsw : swapAt a b s = s := by unfold swapAt; rw [if_neg hpq]
        have hsa := twinL_same (m := m) lv a b hsw
        rw [hsa] at ho
        have HO := Lib.hid ho
        have HBW := Lib.hid hbw
        generalize s / 2 ^ a % 2 = pa at *
        generalize s / 2 ^ b % 2 = pb at *
        have hpq2 : ¬ (pb : Int) < (pa : Int) := by omega
        clear f1 f2 f3 hread hset hsw hsa ho hbw hpq s2
        go_wp2
        exact ⟨⟨s + 1, by omega, by go_num, HO.out, HBW.out⟩, by simp [intOf]; omega⟩
    · obtain rfl : s = m := by omega
      have k1 : ¬ (s : Int) < (s : Int) := by omega
      obtain ⟨tl, htl⟩ : ∃ tl, twinL lv a b s s = tl := ⟨_, rfl⟩
      have htn : tl.length = s := by rw [← htl, twinL_len]
      have hts : ∀ x ∈ tl, QS 5 x := by
        rw [← htl]
        intro x hx
        obtain ⟨i, _, rfl⟩ := List.mem_map.1 hx
        unfold twinAt
        split <;> exact getD_size HLS.out (by omega) _
      have htw : ∀ k, k < 2 ^ n → tl.getD k 0 = lv.getD (swapAt a b k) 0 := by
        intro k hk
        rw [HM.out] at hk
        rw [← htl, getD_of (twinL_at lv a b s hk)]
        unfold twinAt
        rw [if_pos hk]
      have htt := twins (v := lv) (t := tl) (by rw [HLL.out, HM.out]) hn4 ha hb htw
      rw [htl] at ho
      have hr := ho.reads
      rw [htn] at hr
      have R := Lib.hid hr
      have HBW := Lib.hid hbw
      have HTT := Lib.hid htt
      have HTS := Lib.hid hts
      have HTN := Lib.hid htn
      clear htl ho hbw hr htw htt hts htn
      go_wp2_with fail
      refine (hand_inRow _ s d1 _ tl wr R.out (Nat.le_refl _) (by omega) (fun x hx => (HTS.out x hx).mono (by omega)) (HT.out.next HBW.out)).mono ?_
      rintro e x2 ⟨u, rfl, hq, hg, hb2⟩
      rw [List.take_of_length_le (by have := HTN.out; omega)] at hq
      obtain ⟨B2, d2, rfl, _, _⟩ := OwnW.form hq
      have hr2 := OwnW.reads hq
      rw [HTN.out] at hr2 ⊢
      have R2 := Lib.hid hr2
      have HB2 := Lib.hid (bthen HBW.out hb2)
      clear hq hg hb2 hr2 R HBW
      go_wp2_with fail
      refine (share_shares B2 s d2 n _ 5 tl x2 R2.out (Nat.le_refl _) HM.out.symm (by omega) (by omega) (by omega) (by omega) HTS.out (HT.out.next HB2.out) (HF.out.next HB2.out)).mono ?_
      rintro e x3 ⟨u, rfl, hq, hg, hb3⟩
      obtain ⟨B3, d3, rfl, _, _⟩ := OwnW.form hq
      obtain ⟨g3, rfl⟩ := OwnQ.addr hq (by rw [sharesQ_len]; omega)
      rw [sharesQ_len] at *
      obtain ⟨xq, hxq⟩ : ∃ xq, shareQ tl n a = xq := ⟨_, rfl⟩
      have hxs : QS 549755813888 xq := by rw [← hxq]; exact (shareQ_size (n := n) HTS.out (by omega) (by omega) a).mono (by omega)
      have hca := sharesQ_at tl ha
      have hcb := sharesQ_at tl hb
      rw [← HTT.out] at hcb
      rw [hxq] at hca hcb
      have hcm := fun w => frac_cmp xq xq w hxs hxs
      rw [cmpQ_self] at hcm
      unfold qV at hcm
      have b1 := OwnQ.at_ hq hca
      have b2 := OwnQ.at_ hq hcb
      have HCM := Lib.hid hcm
      have HB3 := Lib.hid (bthen HB2.out hb3)
      have HKN : Hid (∀ w', Below x3.heap.size x3 w' → Calls Tryz.prog 13 #[] w' (Ret (.bool true) w')) := Lib.hid fun w' hb => share_known w' (HT.out.next (bthen HB3.out hb)) (HF.out.next (bthen HB3.out hb))
      have hnn : ((n : Int) == (n : Int)) = true := by simp
      have a1 : (a : Int) < (n : Int) := by omega
      have a2 : (b : Int) < (n : Int) := by omega
      clear hq hg hb3 hca hcb hxq hxs hcm HT HF HTT R2 HB2 HTS HTN
      go_upto_region 10 with fail
      obtain ⟨b1q0, b1q1, b1q2, b1q3, b1q4⟩ := b1.c5; have c1 := b1.drew; have c1l := c1.lt; obtain ⟨b2q0, b2q1, b2q2, b2q3, b2q4⟩ := b2.c5; have c2 := b2.drew; have c2l := c2.lt; have hc := bdrew0 x3; go_region_held3 (fun w' => w'.cell? ⟨g3, a * 5, none⟩ = some (.bool (decide (xq.num < 0))) ∧ w'.cell? ⟨g3, a * 5 + 1, none⟩ = some (.int .u64 (lo xq.num.natAbs : Int)) ∧ w'.cell? ⟨g3, a * 5 + 2, none⟩ = some (.string (mo xq.num.natAbs)) ∧ w'.cell? ⟨g3, a * 5 + 3, none⟩ = some (.int .u64 (lo ((qden xq)) : Int)) ∧ w'.cell? ⟨g3, a * 5 + 4, none⟩ = some (.string (mo ((qden xq)))) ∧ w'.cell? ⟨g3, b * 5, none⟩ = some (.bool (decide (xq.num < 0))) ∧ w'.cell? ⟨g3, b * 5 + 1, none⟩ = some (.int .u64 (lo xq.num.natAbs : Int)) ∧ w'.cell? ⟨g3, b * 5 + 2, none⟩ = some (.string (mo xq.num.natAbs)) ∧ w'.cell? ⟨g3, b * 5 + 3, none⟩ = some (.int .u64 (lo ((qden xq)) : Int)) ∧ w'.cell? ⟨g3, b * 5 + 4, none⟩ = some (.string (mo ((qden xq))))) (go_keep) (first | (go_at_call 13; (with_reducible refine (HKN.out _ hc).mono ?_); rintro e w1 ⟨rfl, hw1⟩; have c1 := c1.below hw1 c1.lt; (try clear c1q0 c1q1 c1q2 c1q3 c1q4); obtain ⟨c1q0, c1q1, c1q2, c1q3, c1q4⟩ := c1.c5; (try clear c1l); have c1l := c1.lt; have c2 := c2.below hw1 c2.lt; (try clear c2q0 c2q1 c2q2 c2q3 c2q4); obtain ⟨c2q0, c2q1, c2q2, c2q3, c2q4⟩ := c2.c5; (try clear c2l); have c2l := c2.lt; have hc := bthen hc hw1) | (go_at_call 18; (with_reducible refine (HCM.out _).mono ?_); rintro e w2 ⟨rfl, hw2⟩; have c1 := c1.below hw2 c1.lt; (try clear c1q0 c1q1 c1q2 c1q3 c1q4); obtain ⟨c1q0, c1q1, c1q2, c1q3, c1q4⟩ := c1.c5; (try clear c1l); have c1l := c1.lt; have c2 := c2.below hw2 c2.lt; (try clear c2q0 c2q1 c2q2 c2q3 c2q4); obtain ⟨c2q0, c2q1, c2q2, c2q3, c2q4⟩ := c2.c5; (try clear c2l); have c2l := c2.lt; have hc := bthen hc hw2))
      all_goals
        go_wp2
        go_ret
        exact ⟨rfl, bthen HB3.out hc⟩
end Go.Proofs.YtbjemjopcoajcaaGreatDoor
