/-
  The plain law and the walk of abaculuslaw37.ShareFair.
-/
import Derived.Test.YtbjemjopcoajcaaGreatDoorShareTwinsW
import Derived.Test.YtbjemjopcoajcaaGreatDoorPermuted
namespace Go.Proofs.YtbjemjopcoajcaaGreatDoor
open Go.RowKit
set_option linter.unusedSimpArgs false
set_option linter.unusedVariables false

/-! ### a column that adds nothing -/
def dumbAt (v : List Rat) (d s i : Nat) : Rat := if i < s ∧ bitOn i d = true then v.getD (i - 2 ^ d) 0 else v.getD i 0
def dumbL (v : List Rat) (d m s : Nat) : List Rat := (List.range m).map (dumbAt v d s)
theorem dumbL_len (v : List Rat) (d m s : Nat) : (dumbL v d m s).length = m := by simp [dumbL]
theorem dumbL_at (v : List Rat) (d : Nat) {m i : Nat} (s : Nat) (h : i < m) : (dumbL v d m s)[i]? = some (dumbAt v d s i) := by
  unfold dumbL
  rw [List.getElem?_map, List.getElem?_range h]
  rfl
theorem dumbL_zero (v : List Rat) (d : Nat) {m : Nat} (h : v.length = m) : dumbL v d m 0 = v := by
  apply List.ext_getElem?
  intro i
  by_cases hi : i < m
  · rw [dumbL_at v d 0 hi]
    unfold dumbAt
    rw [if_neg (by omega), List.getD_eq_getElem?_getD, List.getElem?_eq_getElem (by omega)]
    rfl
  · rw [List.getElem?_eq_none (by rw [dumbL_len]; omega), List.getElem?_eq_none (by omega)]
theorem dumbL_set (v : List Rat) (d : Nat) {m s : Nat} (hs : s < m) (hb : bitOn s d = true) : (dumbL v d m s).set s (v.getD (s - 2 ^ d) 0) = dumbL v d m (s + 1) := by
  apply List.ext_getElem?
  intro i
  by_cases hi : i < m
  · rw [dumbL_at v d _ hi]
    by_cases h : s = i
    · subst h
      rw [List.getElem?_set_self (by rw [dumbL_len]; exact hi)]
      unfold dumbAt
      rw [if_pos ⟨by omega, hb⟩]
    · rw [List.getElem?_set_ne h, dumbL_at v d _ hi]
      unfold dumbAt
      by_cases h2 : i < s ∧ bitOn i d = true
      · rw [if_pos h2, if_pos ⟨by omega, h2.2⟩]
      · rw [if_neg h2, if_neg (fun h3 => h2 ⟨by omega, h3.2⟩)]
  · rw [List.getElem?_eq_none (by rw [List.length_set, dumbL_len]; omega), List.getElem?_eq_none (by rw [dumbL_len]; omega)]
theorem dumbL_same (v : List Rat) (d : Nat) {m s : Nat} (hb : bitOn s d = false) : dumbL v d m s = dumbL v d m (s + 1) := by
  unfold dumbL
  apply List.map_congr_left
  intro i hi
  unfold dumbAt
  by_cases h2 : i < s ∧ bitOn i d = true
  · rw [if_pos h2, if_pos ⟨by omega, h2.2⟩]
  · rw [if_neg h2, if_neg (fun h3 => h2 ⟨by
      have : i ≠ s := fun e => by rw [e, hb] at h3; simp at h3
      omega, h3.2⟩)]
def offOk (s d : Nat) : Bool := !bitOn s d || (decide (2 ^ d ≤ s) && !bitOn (s - 2 ^ d) d && decide (bits .andNot .i64 (s : Int) ((2 : Int) ^ d) = ((s - 2 ^ d : Nat) : Int)))
theorem offOk_all : ∀ s, s < 16 → ∀ d, d < 4 → offOk s d = true := by decide +kernel
theorem off_bit {s d : Nat} (hs : s < 16) (hd : d < 4) (h : bitOn s d = true) : 2 ^ d ≤ s ∧ bitOn (s - 2 ^ d) d = false ∧ bits .andNot .i64 (s : Int) ((2 : Int) ^ d) = ((s - 2 ^ d : Nat) : Int) := by
  have := offOk_all s hs d hd
  unfold offOk at this
  rw [h] at this
  simp at this
  exact ⟨this.1.1, this.1.2, this.2⟩
theorem dumbAt_off (v : List Rat) (d s i : Nat) (h : bitOn i d = false) : dumbAt v d s i = v.getD i 0 := by
  unfold dumbAt
  rw [if_neg (by rw [h]; simp)]
theorem bitOn_on {n k c : Nat} (hn : n ≤ 10) (hk : k < 2 ^ n) (hc : c < n) (h : bitOn k c = false) : bitOn (k + 2 ^ c) c = true := by
  rw [← (with_lt hn hk hc h).2, bitOn_test, Nat.testBit_or, Nat.testBit_two_pow]
  simp
/-- the share of a column that adds nothing -/
theorem dumb_share (v : List Rat) {n m d : Nat} (hn : n ≤ 10) (hd : d < n) (hm : 2 ^ n = m) : shareQ (dumbL v d m m) n d = 0 := by
  rw [shareQ_sets _ hn hd]
  refine setsQ_dumb _ hn hd (fun k hk hb => ?_) _ (Nat.le_refl _)
  have h1 := (with_lt hn hk hd hb).1
  have h2 := bitOn_on hn hk hd hb
  rw [hm] at hk h1
  have e1 : (dumbL v d m m).getD (k + 2 ^ d) 0 = v.getD k 0 := by
    rw [getD_of (dumbL_at v d m h1)]
    unfold dumbAt
    rw [if_pos ⟨h1, h2⟩, Nat.add_sub_cancel]
  rw [e1, getD_of (dumbL_at v d m hk), dumbAt_off v d m k hb]
/-! ### two tables together -/
def addL (x y : List Rat) (k : Nat) : List Rat := (List.range k).map fun i => x.getD i 0 + y.getD i 0
theorem addL_len (x y : List Rat) (k : Nat) : (addL x y k).length = k := by simp [addL]
theorem addL_succ (x y : List Rat) (k : Nat) : addL x y (k + 1) = addL x y k ++ [x.getD k 0 + y.getD k 0] := by
  unfold addL
  rw [List.range_succ, List.map_append]
  rfl
theorem addL_at (x y : List Rat) {k i : Nat} (h : i < k) : (addL x y k)[i]? = some (x.getD i 0 + y.getD i 0) := by
  unfold addL
  rw [List.getElem?_map, List.getElem?_range h]
  rfl
theorem add_shares (x y : List Rat) {n m c : Nat} (hn : n ≤ 10) (hc : c < n) (hm : 2 ^ n = m) : shareQ (addL x y m) n c = shareQ x n c + shareQ y n c := by
  rw [shareQ_sets _ hn hc, shareQ_sets _ hn hc, shareQ_sets _ hn hc]
  exact setsQ_add x y (addL x y m) hn hc (fun k hk => by rw [hm] at hk; exact getD_of (addL_at x y hk)) _ (Nat.le_refl _)
theorem sumQ_fold (l : List Rat) : sumQ l = l.foldl (· + ·) 0 := rfl
set_option maxRecDepth 100000 in
set_option maxHeartbeats 8000000 in
theorem shareFair_walk (A1 A2 A3 : Option Addr) (n1 c1 n2 c2 n3 c3 : Nat) (zl zm zo : List Int) (zn zd : Int) (w : World) (h1 : ReadsZ w w.heap.size A1 n1 zl) (h2 : ReadsZ w w.heap.size A2 n2 zm) (h3 : ReadsZ w w.heap.size A3 n3 zo)
    (hn1 : n1 ≤ 9223372036854775807) (hn2 : n2 ≤ 9223372036854775807) (hn3 : n3 ≤ 9223372036854775807)
    (b0 : -9223372036854775808 ≤ zn) (b9 : zn ≤ 9223372036854775807) (d0 : -9223372036854775808 ≤ zd) (d9 : zd ≤ 9223372036854775807) (hT : Tab w) (hF : TabF w) :
    Calls Tryz.prog 7 #[.slice A1 n1 c1, .slice A2 n2 c2, .slice A3 n3 c3, .int .i64 zn, .int .i64 zd] w (Ret (.bool true) w) := by
  obtain ⟨kk, hkk⟩ : ∃ kk : Nat, zn % 4 = (kk : Int) := ⟨(zn % 4).toNat, by omega⟩
  obtain ⟨n, hn⟩ : ∃ n, kk + 1 = n := ⟨_, rfl⟩
  obtain ⟨m, hm⟩ : ∃ m, 2 ^ n = m := ⟨_, rfl⟩
  have hn4 : n ≤ 4 := by omega
  have hn1' : 1 ≤ n := by omega
  have hmb : m ≤ 16 := by
    rw [← hm]
    exact Nat.pow_le_pow_right (n := 2) (by omega) hn4
  have hm0 : 1 ≤ m := by rw [← hm]; exact Nat.two_pow_pos n
  obtain ⟨d, hd, hpd⟩ := pick_of zd n w d0 d9 (by omega) (by omega)
  have htm : tabM kk 0 = m := by unfold tabM; rw [hn, hm]; rfl
  have htab := law_table A1 n1 c1 _ zl zn 0 kk 0 w h1 (Nat.le_refl _) hn1 b0 b9 (by omega) (by omega) hkk (by omega)
  have htab2 := fun w' (hb : Below w.heap.size w w') => law_table A2 n2 c2 _ zm zn 0 kk 0 w' (h2.below hb) hb.size hn2 b0 b9 (by omega) (by omega) hkk (by omega)
  rw [hn, htm] at htab
  rw [hn, htm] at htab2
  have HPD := Lib.hid hpd
  have HTAB := Lib.hid htab
  have HTAB2 := Lib.hid htab2
  have HM := Lib.hid hm
  have HT := Lib.hid hT
  have HF := Lib.hid hF
  have H3 := Lib.hid h3
  clear hpd htab htab2 hm htm hkk hn h1 h2 h3 hT hF b0 b9 d0 d9
  go_enter Tryz.func7, Tryz.ntmps7
  go_wp2_with fail
  refine HTAB.out.mono ?_
  rintro e x1 ⟨v, rfl, ho1, hf1, hb1⟩
  obtain ⟨Ax, dx, rfl, _, _⟩ := ho1.form
  have hrx := ho1.reads
  rw [rowOf_len] at hrx ⊢
  have RX := Lib.hid hrx
  have HB1 := Lib.hid hb1
  clear HTAB ho1 hf1 hrx hb1
  go_wp2_with fail
  refine (HTAB2.out x1 HB1.out).mono ?_
  rintro e x2 ⟨v, rfl, ho1, hf1, hb1⟩
  obtain ⟨Ay, dy, rfl, _, _⟩ := ho1.form
  obtain ⟨g, rfl⟩ := OwnR.addr ho1 (by rw [rowOf_len]; omega)
  rw [rowOf_len] at ho1 hf1 ⊢
  have hgw : x1.heap.size ≤ g := hf1 g rfl
  obtain ⟨lx, hlx⟩ : ∃ lx, rowOf zl m = lx := ⟨_, rfl⟩
  obtain ⟨ly, hly⟩ : ∃ ly, rowOf zm m = ly := ⟨_, rfl⟩
  have hxl : lx.length = m := by rw [← hlx, rowOf_len]
  have hxs : ∀ x ∈ lx, QS 5 x := by rw [← hlx]; exact rowOf_size zl m
  have hyl : ly.length = m := by rw [← hly, rowOf_len]
  have hys : ∀ x ∈ ly, QS 5 x := by rw [← hly]; exact rowOf_size zm m
  rw [hlx] at RX
  rw [hly, ← dumbL_zero ly d hyl] at ho1
  have HXL := Lib.hid hxl
  have HXS := Lib.hid hxs
  have HYS := Lib.hid hys
  have HO1 := Lib.hid ho1
  have HB2 := Lib.hid hb1
  clear hxl hxs hyl hys hlx hly ho1 hf1 hb1 HTAB2
  go_wp2_with fail
  refine (HPD.out x2).mono ?_
  rintro e w' ⟨rfl, rfl⟩
  clear HPD
  go_wp2_with fail
  go_loopw [15] (fun p wr => ∃ s : Nat, s ≤ m ∧ p = .int .i64 (s : Int) ∧ OwnR wr (.slice (some ⟨g, 0, none⟩) m dy) (dumbL ly d m s) ∧ Below x1.heap.size x1 wr) (fun p _ => m - (intOf p).toNat)
  case atStart => exact ⟨0, by omega, rfl, HO1.out, HB2.out⟩
  case round =>
    obtain ⟨s, hs, rfl, ho, hbw⟩ := hrel
    rename World => wr
    clear HO1 HB2
    by_cases hsm : s < m
    · have s1 : (s : Int) < (m : Int) := by omega
      have q1 := bit_eq1 (k := s) (c := d) (by omega)
      have ga : (d : Int) < 64 := by omega
      cases hbit : bitOn s d with
      | true =>
        obtain ⟨f1, f2, f3⟩ := off_bit (s := s) (d := d) (by omega) (by omega) hbit
        have hset := dumbL_set ly d hsm hbit
        have w1' := pow_wrap (k := d) (by omega)
        obtain ⟨j, hj⟩ : ∃ j, s - 2 ^ d = j := ⟨_, rfl⟩
        rw [hj] at f2 f3 hset
        have hjs : j < m := by rw [← hj]; exact Nat.lt_of_le_of_lt (Nat.sub_le _ _) hsm
        have j1 : (j : Int) < (m : Int) := by omega
        have hjr : (dumbL ly d m s)[j]? = some (ly.getD j 0) := by rw [dumbL_at ly d s hjs, dumbAt_off ly d s j f2]
        have hss := dumbL_at ly d s hsm
        obtain ⟨r, y0, y1, y2, hiq⟩ := OwnR.cell3 ho hjr
        obtain ⟨r', z0, z1, z2, _⟩ := OwnR.cell3 ho hss
        have v0 := OwnR.frozen ho (s * 3)
        have v1 := OwnR.frozen ho (s * 3 + 1)
        have v2 := OwnR.frozen ho (s * 3 + 2)
        have hst := OwnR.store ho s r hiq
        rw [hset] at hst
        rw [hbit] at q1
        have HST := Lib.hid hst
        have HBW := Lib.hid hbw
        clear f1 f2 hset hjr hss hiq hst ho hbw hbit hj
        go_wp2
        exact ⟨⟨s + 1, by omega, by go_num, HST.out, ((HBW.out.setCell (p := ⟨g, s * 3, none⟩) hgw _).setCell (p := ⟨g, s * 3 + 1, none⟩) hgw _).setCell (p := ⟨g, s * 3 + 2, none⟩) hgw _⟩, by simp [intOf]; omega⟩
      | false =>
        rw [hbit] at q1
        rw [dumbL_same ly d hbit] at ho
        have HO := Lib.hid ho
        have HBW := Lib.hid hbw
        clear ho hbw hbit
        go_wp2
        exact ⟨⟨s + 1, by omega, by go_num, HO.out, HBW.out⟩, by simp [intOf]; omega⟩
    · obtain rfl : s = m := by omega
      have k1 : ¬ (s : Int) < (s : Int) := by omega
      obtain ⟨ty, hty⟩ : ∃ ty, dumbL ly d s s = ty := ⟨_, rfl⟩
      have htyl : ty.length = s := by rw [← hty, dumbL_len]
      have htys : ∀ x ∈ ty, QS 5 x := by
        rw [← hty]
        intro x hx
        obtain ⟨i, _, rfl⟩ := List.mem_map.1 hx
        unfold dumbAt
        split <;> exact getD_size HYS.out (by omega) _
      have hdum := dumb_share ly (n := n) (m := s) (d := d) (by omega) hd HM.out
      rw [hty] at ho hdum
      have hry := ho.reads
      rw [htyl] at hry
      have RY := Lib.hid hry
      have RX2 := Lib.hid (RX.out.below hbw)
      have HXW := Lib.hid hbw
      have HDUM := Lib.hid hdum
      have HTYL := Lib.hid htyl
      have HTYS := Lib.hid htys
      have HBW := Lib.hid (HB1.out.trans (hbw.mono HB1.out.size))
      clear hty htyl htys hdum ho hry hbw HYS
      go_wp2_with fail
      go_loopw [16, 17] (fun v p wz => ∃ k : Nat, k ≤ s ∧ p = .int .i64 (k : Int) ∧ OwnQ wz v (addL lx ty k) ∧ (∀ b, v.ownBlock = some b → wr.heap.size ≤ b) ∧ Below wr.heap.size wr wz) (fun _ p _ => s - (intOf p).toNat)
      case atStart => exact ⟨0, by omega, rfl, OwnW.nil_ _ _ _ _, (fun b h => by cases h), Below.refl _ _⟩
      case round =>
        obtain ⟨k, hk, rfl, hown, hfr, hbel⟩ := hrel
        rename World => wz
        by_cases hks : k < s
        · have k2 : (k : Int) < (s : Int) := by omega
          obtain ⟨xq, hx⟩ : ∃ xq, lx[k]? = some xq := ⟨_, List.getElem?_eq_getElem (by have := HXL.out; omega)⟩
          obtain ⟨yq, hy⟩ : ∃ yq, ty[k]? = some yq := ⟨_, List.getElem?_eq_getElem (by have := HTYL.out; omega)⟩
          have hxz := HXW.out.size
          obtain ⟨ad, gx, ox, r1, rfl, hP, hgB, ha1, hi1⟩ := (RX2.out.below (hbel.mono hxz)).at_ hx hks
          obtain ⟨ad', gy, oy, r2, hA2, hP', hgB', ha2, hi2⟩ := (RY.out.below hbel).at_ hy hks
          obtain rfl := Option.some.inj hA2
          rw [add_zero_off] at hP'
          injection hP' with e1 e2 _
          subst e1 e2
          obtain ⟨sq, hsq⟩ : ∃ sq, xq + yq = sq := ⟨_, rfl⟩
          have hsc := addL_succ lx ty k
          rw [getD_of hx, getD_of hy, hsq] at hsc
          have hx5 : QS 5 xq := HXS.out xq (List.mem_of_getElem? hx)
          have hy5 : QS 5 yq := HTYS.out yq (List.mem_of_getElem? hy)
          have hs11 : QS 11 sq := by rw [← hsq]; exact (hx5.add hy5).mono (by omega)
          have hadd := ref_add xq yq wz.heap.size _ _ wz.drew ((hi1.more (Nat.le_trans hxz hbel.size)).next (Nat.le_refl _) (bdrew0 wz)) ((hi2.more hbel.size).next (Nat.le_refl _) (bdrew0 wz)) (Nat.le_refl _) (hx5.mono (by omega)) (hy5.mono (by omega))
          rw [hsq] at hadd
          have hin := fun w V (h : IsQ w w.heap.size V sq) (hT : Tab w) => hand_in sq _ V w h (Nat.le_refl _) (hs11.mono (by omega)) hT
          obtain ⟨rg, rA, rl, rc, rA', rl', rc'⟩ := r1
          obtain ⟨tg, tA, tl, tc, tA', tl', tc'⟩ := r2
          obtain ⟨x0, x1', x2'⟩ := ha1.c3
          obtain ⟨y0, y1, y2⟩ := ha2.c3
          unfold RC.v at hadd
          unfold qV at hin
          simp only [] at x0 x1' x2' y0 y1 y2 hadd
          have HADD := Lib.hid hadd
          have HIN := Lib.hid hin
          have HSC := Lib.hid hsc
          have HO := Lib.hid hown
          have HFR := Lib.hid hfr
          have HBL := Lib.hid hbel
          have HLK := Lib.hid (show (addL lx ty k).length ≤ 1000000 from by rw [addL_len]; omega)
          have hTz := HT.out.next (HBW.out.trans (hbel.mono HBW.out.size))
          clear hadd hin hsc hown hfr hbel ha1 ha2 hi1 hi2 hx hy hsq hx5 hy5 hs11 hA2
          go_upto_region 13 with fail
          go_region_law (first | (refine stepQ rfl (.tmp 73) (.tmp 84) rfl w6 _ (addL lx ty k) sq (by simp [Act.eval, Act.put]) ho6 (by simp [Act.eval, Act.put]) HLK.out ?_; intro v7 w7 ho7 hg7; have hb7 := grewA (HBL.out.trans (hc6.mono HBL.out.size)) hg7 HFR.out; have hf7 := hg7.fresh (Nat.le_trans HBL.out.size hc6.size) HFR.out) | (go_simp; go_at_call 29; (with_reducible refine HADD.out.mono ?_); rintro e w5 ⟨v5, rfl, hR5, hw5⟩; obtain ⟨g5, A5, l5, c5, A5', l5', c5', hv5⟩ := hR5.shape; subst hv5; have hc5 := bthen (bdrew0 wz) hw5) | (go_simp; go_at_call 28; (with_reducible refine (HIN.out w5 _ hR5 (hTz.next hc5)).mono ?_); rintro e w6 ⟨rfl, hw6⟩; have hc6 := bthen hc5 hw6; have ho6 := OwnW.next HO.out hc6))
          all_goals
            go_wp2
            exact ⟨⟨k + 1, by omega, by go_num, by rw [HSC.out]; exact ho7, hf7, hb7⟩, by simp [intOf]; omega⟩
        · obtain rfl : k = s := by omega
          have k2 : ¬ (k : Int) < (k : Int) := by omega
          obtain ⟨lz, hlz⟩ : ∃ lz, addL lx ty k = lz := ⟨_, rfl⟩
          have hzl : lz.length = k := by rw [← hlz, addL_len]
          have hzs : ∀ x ∈ lz, QS 11 x := by
            rw [← hlz]
            intro x hx
            obtain ⟨i, _, rfl⟩ := List.mem_map.1 hx
            exact ((getD_size HXS.out (by omega) _).add (getD_size HTYS.out (by omega) _)).mono (by omega)
          have hadds : ∀ c, c < n → shareQ lz n c = shareQ lx n c + shareQ ty n c := by
            rw [← hlz]
            exact fun c hc => add_shares lx ty (by omega) hc HM.out
          rw [hlz] at hown
          obtain ⟨Az, cz, rfl, _, _⟩ := OwnW.form hown
          obtain ⟨gz, rfl⟩ := OwnQ.addr hown (by rw [hzl]; omega)
          rw [hzl] at hown hfr ⊢
          have hzr := OwnW.reads hown
          rw [hzl] at hzr
          have HZ := Lib.hid hown
          have RZ := Lib.hid hzr
          have RXz := Lib.hid (RX2.out.below (hbel.mono HXW.out.size))
          have RYz := Lib.hid (RY.out.below hbel)
          have SX := Lib.hid (Nat.le_trans HXW.out.size hbel.size)
          have SY := Lib.hid hbel.size
          have HBZ := Lib.hid (HBW.out.trans (hbel.mono HBW.out.size))
          have HZL := Lib.hid hzl
          have HZS := Lib.hid hzs
          have HADDS := Lib.hid hadds
          clear hlz hzl hzs hadds hown hfr hzr hbel RX2 RY HXW HBW
          go_wp2_with fail
          refine (hand_inRow _ k dx _ lx wz RXz.out SX.out (by omega) (fun x hx => (HXS.out x hx).mono (by omega)) (HT.out.next HBZ.out)).mono ?_
          rintro e y1 ⟨u, rfl, hq, hg, hb1⟩
          rw [List.take_of_length_le (by have := HXL.out; omega)] at hq
          obtain ⟨Bx, ex, rfl, _, _⟩ := OwnW.form hq
          have hqr := OwnW.reads hq
          rw [HXL.out] at hqr ⊢
          have RQ := Lib.hid hqr
          have HBC := Lib.hid hb1
          clear hq hqr hg hb1
          go_wp2_with fail
          refine (share_shares Bx k ex n _ 5 lx y1 RQ.out (Nat.le_refl _) HM.out.symm (by omega) (by omega) (by omega) (by omega) HXS.out (HT.out.next (bthen HBZ.out HBC.out)) (HF.out.next (bthen HBZ.out HBC.out))).mono ?_
          rintro e y2 ⟨u, rfl, hq, hg, hb2⟩
          obtain ⟨Ca, fa, rfl, _, _⟩ := OwnW.form hq
          obtain ⟨ga, rfl⟩ := OwnQ.addr hq (by rw [sharesQ_len]; omega)
          rw [sharesQ_len] at hq ⊢
          have HA := Lib.hid hq
          have HBC := Lib.hid (HBC.out.trans (hb2.mono HBC.out.size))
          clear hq hg hb2 RQ
          go_wp2_with fail
          refine (hand_inRow _ k dy _ ty y2 (RYz.out.below (HBC.out.mono SY.out)) (Nat.le_trans SY.out HBC.out.size) (by omega) (fun x hx => (HTYS.out x hx).mono (by omega)) (HT.out.next (bthen HBZ.out HBC.out))).mono ?_
          rintro e y3 ⟨u, rfl, hq, hg, hb3⟩
          rw [List.take_of_length_le (by have := HTYL.out; omega)] at hq
          obtain ⟨By, ey, rfl, _, _⟩ := OwnW.form hq
          have hqr := OwnW.reads hq
          rw [HTYL.out] at hqr ⊢
          have RQ := Lib.hid hqr
          have HA := Lib.hid (OwnW.next HA.out hb3)
          have HBC := Lib.hid (HBC.out.trans (hb3.mono HBC.out.size))
          clear hq hqr hg hb3
          go_wp2_with fail
          refine (share_shares By k ey n _ 5 ty y3 RQ.out (Nat.le_refl _) HM.out.symm (by omega) (by omega) (by omega) (by omega) HTYS.out (HT.out.next (bthen HBZ.out HBC.out)) (HF.out.next (bthen HBZ.out HBC.out))).mono ?_
          rintro e y4 ⟨u, rfl, hq, hg, hb4⟩
          obtain ⟨Cb, fb, rfl, _, _⟩ := OwnW.form hq
          obtain ⟨gb, rfl⟩ := OwnQ.addr hq (by rw [sharesQ_len]; omega)
          rw [sharesQ_len] at hq ⊢
          have HB' := Lib.hid hq
          have HA := Lib.hid (OwnW.next HA.out hb4)
          have HBC := Lib.hid (HBC.out.trans (hb4.mono HBC.out.size))
          clear hq hg hb4 RQ
          go_wp2_with fail
          refine (share_shares _ k cz n _ 11 lz y4 (RZ.out.below HBC.out) HBC.out.size HM.out.symm (by omega) (by omega) (by omega) (by omega) HZS.out (HT.out.next (bthen HBZ.out HBC.out)) (HF.out.next (bthen HBZ.out HBC.out))).mono ?_
          rintro e y5 ⟨u, rfl, hq, hg, hb5⟩
          obtain ⟨Cc, fc, rfl, _, _⟩ := OwnW.form hq
          obtain ⟨gc, rfl⟩ := OwnQ.addr hq (by rw [sharesQ_len]; omega)
          rw [sharesQ_len] at hq ⊢
          have HC := Lib.hid hq
          have HB' := Lib.hid (OwnW.next HB'.out hb5)
          have HA := Lib.hid (OwnW.next HA.out hb5)
          have HBC := Lib.hid (HBC.out.trans (hb5.mono HBC.out.size))
          clear hq hg hb5
          go_wp2_with fail
          refine (law_permuted A3 n3 c3 _ zo n y5 (H3.out.below (bthen HBZ.out HBC.out)) (bthen HBZ.out HBC.out).size hn3 (by omega)).mono ?_
          rintro e y6 ⟨u, rfl, lord, hlo, hq, hg, hb6⟩
          obtain ⟨f1, f2, f3, f4⟩ := orders_fine n (by omega) lord hlo
          obtain ⟨Co, fo, rfl, _, _⟩ := Own.form hq
          have hor := Own.reads hq
          rw [f1] at hor ⊢
          have RO := Lib.hid hor
          have HLO := Lib.hid hlo
          have HF3 := Lib.hid f3
          have HND := Lib.hid f2
          have HC := Lib.hid (OwnW.next HC.out hb6)
          have HB' := Lib.hid (OwnW.next HB'.out hb6)
          have HA := Lib.hid (OwnW.next HA.out hb6)
          have HBC := Lib.hid (HBC.out.trans (hb6.mono HBC.out.size))
          clear hq hg hb6 hor hlo f1 f2 f3 f4
          go_wp2_with fail
          refine (share_turns _ Co k cz n fo y6.heap.size 11 lz lord y6 ((RZ.out.below HBC.out).more HBC.out.size) RO.out (Nat.le_refl _) HM.out.symm (by omega) (by omega) HF3.out (by omega) HZS.out (HT.out.next (bthen HBZ.out HBC.out))).mono ?_
          rintro e y7 ⟨hb7, hres⟩
          have hres2 : ∃ v, e = .returned (.tuple #[v, .int .i64 0]) ∧ OwnQ y7 v (turnsGo lz lord 0 (List.replicate n 0)) := by
            rcases hres with ⟨_, v, he, ho, _⟩ | ⟨hn, _⟩
            · exact ⟨v, he, ho⟩
            · exact absurd HND.out hn
          obtain ⟨v, rfl, hq⟩ := hres2
          have htl : (turnsGo lz lord 0 (List.replicate n 0)).length = n := by rw [turnsGo_len]; simp
          obtain ⟨Ct, ft, rfl, _, _⟩ := OwnW.form hq
          obtain ⟨gt, rfl⟩ := OwnQ.addr hq (by rw [htl]; omega)
          rw [htl] at hq ⊢
          have HTU := Lib.hid hq
          have HC := Lib.hid (OwnW.next HC.out hb7)
          have HB' := Lib.hid (OwnW.next HB'.out hb7)
          have HA := Lib.hid (OwnW.next HA.out hb7)
          have HBC := Lib.hid (HBC.out.trans (hb7.mono HBC.out.size))
          clear hq htl hres hb7 RO HND HF3
          have nn : ((n : Int) == (n : Int)) = true := by simp
          have nn2 : ((n : Int) != (n : Int)) = false := by simp
          have HBY := Lib.hid (bthen HBZ.out HBC.out)
          go_wp2_with fail
          go_loopw [27] (fun p wq => ∃ i : Nat, i ≤ n ∧ p = .int .i64 (i : Int) ∧ Below y7.heap.size y7 wq) (fun p _ => n - (intOf p).toNat)
          case atStart => exact ⟨0, by omega, rfl, Below.refl _ _⟩
          case round =>
            obtain ⟨i, hi, rfl, hbq⟩ := hrel
            rename World => wq
            by_cases hin : i < n
            · have i1 : (i : Int) < (n : Int) := by omega
              obtain ⟨xa, hxa⟩ : ∃ xa, shareQ lx n i = xa := ⟨_, rfl⟩
              obtain ⟨xb, hxb⟩ : ∃ xb, shareQ ty n i = xb := ⟨_, rfl⟩
              obtain ⟨xc, hxc⟩ : ∃ xc, shareQ lz n i = xc := ⟨_, rfl⟩
              have hsum := HADDS.out i hin
              rw [hxa, hxb, hxc] at hsum
              have s1' : QS 1000000 xa := by rw [← hxa]; exact (shareQ_size (n := n) HXS.out (by omega) (by omega) i).mono (by omega)
              have s2' : QS 1000000 xb := by rw [← hxb]; exact (shareQ_size (n := n) HTYS.out (by omega) (by omega) i).mono (by omega)
              have s3' : QS 1000000 xc := by rw [← hxc]; exact (shareQ_size (n := n) HZS.out (by omega) (by omega) i).mono (by omega)
              have hadd := fun w (hT : Tab w) => frac_add xa xb w (s1'.mono (by omega)) (s2'.mono (by omega)) hT
              rw [← hsum] at hadd
              have hcm := fun w => frac_cmp xc xc w (s3'.mono (by omega)) (s3'.mono (by omega))
              rw [cmpQ_self] at hcm
              unfold qV at hadd hcm
              have ca := sharesQ_at lx hin
              have cb := sharesQ_at ty hin
              have cc := sharesQ_at lz hin
              rw [hxa] at ca
              rw [hxb] at cb
              rw [hxc] at cc
              have b1 := OwnQ.at_ (OwnW.next HA.out hbq) ca
              have b2 := OwnQ.at_ (OwnW.next HB'.out hbq) cb
              have b3 := OwnQ.at_ (OwnW.next HC.out hbq) cc
              have HADD := Lib.hid hadd
              have HCM := Lib.hid hcm
              have HBQ := Lib.hid hbq
              have tT := HT.out.next (bthen HBY.out hbq)
              clear hadd hcm hsum ca cb cc hxa hxb hxc s1' s2' s3' hbq
              go_upto_region 24 with fail
              obtain ⟨b1q0, b1q1, b1q2, b1q3, b1q4⟩ := b1.c5; have c1 := b1.drew; have c1l := c1.lt; obtain ⟨b2q0, b2q1, b2q2, b2q3, b2q4⟩ := b2.c5; have c2 := b2.drew; have c2l := c2.lt; obtain ⟨b3q0, b3q1, b3q2, b3q3, b3q4⟩ := b3.c5; have c3 := b3.drew; have c3l := c3.lt; have hc := bdrew0 wq; go_region_held3 (fun w' => w'.cell? ⟨ga, i * 5, none⟩ = some (.bool (decide (xa.num < 0))) ∧ w'.cell? ⟨ga, i * 5 + 1, none⟩ = some (.int .u64 (lo xa.num.natAbs : Int)) ∧ w'.cell? ⟨ga, i * 5 + 2, none⟩ = some (.string (mo xa.num.natAbs)) ∧ w'.cell? ⟨ga, i * 5 + 3, none⟩ = some (.int .u64 (lo ((qden xa)) : Int)) ∧ w'.cell? ⟨ga, i * 5 + 4, none⟩ = some (.string (mo ((qden xa)))) ∧ w'.cell? ⟨gb, i * 5, none⟩ = some (.bool (decide (xb.num < 0))) ∧ w'.cell? ⟨gb, i * 5 + 1, none⟩ = some (.int .u64 (lo xb.num.natAbs : Int)) ∧ w'.cell? ⟨gb, i * 5 + 2, none⟩ = some (.string (mo xb.num.natAbs)) ∧ w'.cell? ⟨gb, i * 5 + 3, none⟩ = some (.int .u64 (lo ((qden xb)) : Int)) ∧ w'.cell? ⟨gb, i * 5 + 4, none⟩ = some (.string (mo ((qden xb)))) ∧ w'.cell? ⟨gc, i * 5, none⟩ = some (.bool (decide (xc.num < 0))) ∧ w'.cell? ⟨gc, i * 5 + 1, none⟩ = some (.int .u64 (lo xc.num.natAbs : Int)) ∧ w'.cell? ⟨gc, i * 5 + 2, none⟩ = some (.string (mo xc.num.natAbs)) ∧ w'.cell? ⟨gc, i * 5 + 3, none⟩ = some (.int .u64 (lo ((qden xc)) : Int)) ∧ w'.cell? ⟨gc, i * 5 + 4, none⟩ = some (.string (mo ((qden xc))))) (go_keep) (first | (go_at_call 26; (with_reducible refine (HADD.out _ (tT.next hc)).mono ?_); rintro e w1 ⟨rfl, hw1⟩; have c1 := c1.below hw1 c1.lt; (try clear c1q0 c1q1 c1q2 c1q3 c1q4); obtain ⟨c1q0, c1q1, c1q2, c1q3, c1q4⟩ := c1.c5; (try clear c1l); have c1l := c1.lt; have c2 := c2.below hw1 c2.lt; (try clear c2q0 c2q1 c2q2 c2q3 c2q4); obtain ⟨c2q0, c2q1, c2q2, c2q3, c2q4⟩ := c2.c5; (try clear c2l); have c2l := c2.lt; have c3 := c3.below hw1 c3.lt; (try clear c3q0 c3q1 c3q2 c3q3 c3q4); obtain ⟨c3q0, c3q1, c3q2, c3q3, c3q4⟩ := c3.c5; (try clear c3l); have c3l := c3.lt; have hc := bthen hc hw1) | (go_at_call 18; (with_reducible refine (HCM.out _).mono ?_); rintro e w2 ⟨rfl, hw2⟩; have c1 := c1.below hw2 c1.lt; (try clear c1q0 c1q1 c1q2 c1q3 c1q4); obtain ⟨c1q0, c1q1, c1q2, c1q3, c1q4⟩ := c1.c5; (try clear c1l); have c1l := c1.lt; have c2 := c2.below hw2 c2.lt; (try clear c2q0 c2q1 c2q2 c2q3 c2q4); obtain ⟨c2q0, c2q1, c2q2, c2q3, c2q4⟩ := c2.c5; (try clear c2l); have c2l := c2.lt; have c3 := c3.below hw2 c3.lt; (try clear c3q0 c3q1 c3q2 c3q3 c3q4); obtain ⟨c3q0, c3q1, c3q2, c3q3, c3q4⟩ := c3.c5; (try clear c3l); have c3l := c3.lt; have hc := bthen hc hw2))
              all_goals
                go_wp2
                exact ⟨⟨i + 1, by omega, by go_num, HBQ.out.trans (hc.mono HBQ.out.size)⟩, by simp [intOf]; omega⟩
            · obtain rfl : i = n := by omega
              have i1 : ¬ (i : Int) < (i : Int) := by omega
              obtain ⟨kp, hkp⟩ : ∃ kp, k - 1 = kp := ⟨_, rfl⟩
              have e1 : (k : Int) - 1 = (kp : Int) := by omega
              have e2 : IntKind.i64.wrap (kp : Int) = (kp : Int) := IntWalk.i64_in _ (by omega)
              have p1 : (kp : Int) < (k : Int) := by omega
              have p2 : (0 : Int) < (k : Int) := by omega
              have p3 : 0 < k := by omega
              obtain ⟨zt, hzt⟩ : ∃ zt, lz[kp]? = some zt := ⟨_, List.getElem?_eq_getElem (by have := HZL.out; omega)⟩
              obtain ⟨z0, hz0⟩ : ∃ z0, lz[0]? = some z0 := ⟨_, List.getElem?_eq_getElem (by have := HZL.out; omega)⟩
              obtain ⟨al, hal⟩ : ∃ al, zt - z0 = al := ⟨_, rfl⟩
              have hall : lz.getD (2 ^ i - 1) 0 - lz.getD 0 0 = al := by rw [HM.out, hkp, getD_of hzt, getD_of hz0, hal]
              have t1 : QS 11 zt := HZS.out zt (List.mem_of_getElem? hzt)
              have t2 : QS 11 z0 := HZS.out z0 (List.mem_of_getElem? hz0)
              have t3 : QS 23 al := by rw [← hal]; exact (t1.sub t2).mono (by omega)
              have hsub := fun w (hT : Tab w) => frac_sub zt z0 w (t1.mono (by omega)) (t2.mono (by omega)) hT
              rw [hal] at hsub
              have hcm := fun w => frac_cmp al al w (t3.mono (by omega)) (t3.mono (by omega))
              rw [cmpQ_self] at hcm
              have hzw : OwnQ wq (.slice (some ⟨gz, 0, none⟩) k cz) lz := OwnW.next (OwnW.next HZ.out HBC.out) hbq
              have b1 := OwnQ.at_ hzw hzt
              have b2 := OwnQ.at0 hzw hz0
              obtain ⟨bq, hbqe⟩ : ∃ bq, shareQ ty i d = bq := ⟨_, rfl⟩
              have hb00 : bq = 0 := by rw [← hbqe]; exact HDUM.out
              have hsg := fun w => frac_sign bq w (by rw [hb00]; exact QS.zero _ (by omega))
              rw [show bq.num.sign = 0 from by rw [hb00]; rfl] at hsg
              have hcb := sharesQ_at ty hd
              rw [hbqe] at hcb
              have f1 := fair_sum (v := lz) (by rw [HZL.out, HM.out]) hn4 (by omega)
              have f2 := turns_sum (v := lz) (o := lord) (by rw [HZL.out, HM.out]) hn4 (by omega) HLO.out
              rw [hall, ← sumQ_fold] at f1 f2
              have cl := (OwnW.reads (OwnW.next HC.out hbq))
              have tl := (OwnW.reads (OwnW.next HTU.out hbq))
              rw [sharesQ_len] at cl
              rw [show (turnsGo lz lord 0 (List.replicate i 0)).length = i from by rw [turnsGo_len]; simp] at tl
              have hsz1 : ∀ x ∈ sharesQ lz i, QS 1000000 x := fun x hx => (sharesQ_size (n := i) HZS.out (by omega) (by omega) x hx).mono (by omega)
              have hsz2 : ∀ x ∈ turnsGo lz lord 0 (List.replicate i 0), QS 1000000 x := fun x hx => (turns_size HZS.out (by omega) lord 0 (List.replicate i 0) (fun y hy => by rw [(List.mem_replicate.1 hy).2]; exact QS.zero _ (by omega)) x hx).mono (by omega)
              have HBYQ := Lib.hid (bthen HBY.out hbq)
              have hsu1 : ∀ w', Below wq.heap.size wq w' → Calls Tryz.prog 32 #[.slice (some ⟨gc, 0, none⟩) i fc] w' (Ret (qV al) w') := fun w' hb => by
                have := hand_sum _ i fc wq.heap.size 1000000 _ w' (cl.below hb) hb.size (by omega) (by omega) hsz1 (HT.out.next (bthen HBYQ.out hb))
                rw [f1] at this
                exact this
              have hsu2 : ∀ w', Below wq.heap.size wq w' → Calls Tryz.prog 32 #[.slice (some ⟨gt, 0, none⟩) i ft] w' (Ret (qV al) w') := fun w' hb => by
                have := hand_sum _ i ft wq.heap.size 1000000 _ w' (tl.below hb) hb.size (by omega) (by omega) hsz2 (HT.out.next (bthen HBYQ.out hb))
                rw [f2] at this
                exact this
              have hkn : ∀ w', Below wq.heap.size wq w' → Calls Tryz.prog 13 #[] w' (Ret (.bool true) w') := fun w' hb => share_known w' (HT.out.next (bthen HBYQ.out hb)) (HF.out.next (bthen HBYQ.out hb))
              have b3 := OwnQ.at_ (OwnW.next HB'.out hbq) hcb
              unfold qV at hsub hcm hsg hsu1 hsu2
              have HSUB := Lib.hid hsub
              have HCM := Lib.hid hcm
              have HSG := Lib.hid hsg
              have HSU1 := Lib.hid hsu1
              have HSU2 := Lib.hid hsu2
              have HKN := Lib.hid hkn
              have tT := HT.out.next HBYQ.out
              have d1 : (d : Int) < (i : Int) := by omega
              clear hsub hcm hsg hsu1 hsu2 hkn hzw hb00 hbqe hcb f1 f2 cl tl hsz1 hsz2 hbq hzt hz0 hal hall t1 t2 t3 hkp
              clear HA HC HTU HB' HADDS HDUM HZS HZL HTYS HTYL HXS HXL HLO HZ RZ RXz RYz
              go_upto_region 26 with fail
              go_cut [28] (fun v wc => Born wq 52 #[.bool (decide (al.num < 0)), .int .u64 (lo al.num.natAbs : Int), .string (mo al.num.natAbs), .int .u64 (lo ((qden al)) : Int), .string (mo ((qden al)))] v wc)
              case first =>
                obtain ⟨b1q0, b1q1, b1q2, b1q3, b1q4⟩ := b1.c5; have c1 := b1.drew; have c1l := c1.lt; obtain ⟨b2q0, b2q1, b2q2, b2q3, b2q4⟩ := b2.c5; have c2 := b2.drew; have c2l := c2.lt; have hc := bdrew0 wq; go_region_held3 (fun w' => w'.cell? ⟨gz, kp * 5, none⟩ = some (.bool (decide (zt.num < 0))) ∧ w'.cell? ⟨gz, kp * 5 + 1, none⟩ = some (.int .u64 (lo zt.num.natAbs : Int)) ∧ w'.cell? ⟨gz, kp * 5 + 2, none⟩ = some (.string (mo zt.num.natAbs)) ∧ w'.cell? ⟨gz, kp * 5 + 3, none⟩ = some (.int .u64 (lo ((qden zt)) : Int)) ∧ w'.cell? ⟨gz, kp * 5 + 4, none⟩ = some (.string (mo ((qden zt)))) ∧ w'.cell? ⟨gz, 0, none⟩ = some (.bool (decide (z0.num < 0))) ∧ w'.cell? ⟨gz, 1, none⟩ = some (.int .u64 (lo z0.num.natAbs : Int)) ∧ w'.cell? ⟨gz, 2, none⟩ = some (.string (mo z0.num.natAbs)) ∧ w'.cell? ⟨gz, 3, none⟩ = some (.int .u64 (lo ((qden z0)) : Int)) ∧ w'.cell? ⟨gz, 4, none⟩ = some (.string (mo ((qden z0))))) (go_keep) (first | (go_at_call 31; (first | with_reducible refine (HSUB.out _ (tT.next hc)).mono ?_ | (have hga : wq.heap.size ≤ wq.heap.size := hc.size; have ca : Blk _ wq.heap.size _ _ := Blk.new wq.drew 52 #[.bool false, .int .u64 0, .string ⟨#[]⟩, .int .u64 0, .string ⟨#[]⟩]; have c1na := nelt (show _ < wq.heap.size from c1l) (Nat.le_refl _); have c1 := c1.alloc (.cells #[.bool false, .int .u64 0, .string ⟨#[]⟩, .int .u64 0, .string ⟨#[]⟩] 52); have c2na := nelt (show _ < wq.heap.size from c2l) (Nat.le_refl _); have c2 := c2.alloc (.cells #[.bool false, .int .u64 0, .string ⟨#[]⟩, .int .u64 0, .string ⟨#[]⟩] 52); have hc := bthen hc (balloc1 _ (.cells #[.bool false, .int .u64 0, .string ⟨#[]⟩, .int .u64 0, .string ⟨#[]⟩] 52)); with_reducible refine (HSUB.out _ (tT.next hc)).mono ?_) | (have hga : wq.heap.size ≤ wq.heap.size := hc.size; have ca : Blk (wq.alloc (.cells #[.bool false, .int .u64 0, .string ⟨#[]⟩, .int .u64 0, .string ⟨#[]⟩] 52)).drew wq.heap.size _ _ := Blk.new wq.drew 52 #[.bool false, .int .u64 0, .string ⟨#[]⟩, .int .u64 0, .string ⟨#[]⟩]; have c1na := nelt (show _ < wq.heap.size from c1l) (Nat.le_refl _); have c1 : AtQ (wq.alloc (.cells #[.bool false, .int .u64 0, .string ⟨#[]⟩, .int .u64 0, .string ⟨#[]⟩] 52)).drew _ _ _ := c1.alloc (.cells #[.bool false, .int .u64 0, .string ⟨#[]⟩, .int .u64 0, .string ⟨#[]⟩] 52); have c2na := nelt (show _ < wq.heap.size from c2l) (Nat.le_refl _); have c2 : At0 (wq.alloc (.cells #[.bool false, .int .u64 0, .string ⟨#[]⟩, .int .u64 0, .string ⟨#[]⟩] 52)).drew _ _ _ := c2.alloc (.cells #[.bool false, .int .u64 0, .string ⟨#[]⟩, .int .u64 0, .string ⟨#[]⟩] 52); have hc : Below wq.heap.size wq (wq.alloc (.cells #[.bool false, .int .u64 0, .string ⟨#[]⟩, .int .u64 0, .string ⟨#[]⟩] 52)).drew := bthen hc (balloc1 _ (.cells #[.bool false, .int .u64 0, .string ⟨#[]⟩, .int .u64 0, .string ⟨#[]⟩] 52)); with_reducible refine (HSUB.out _ (tT.next hc)).mono ?_)); rintro e w1 ⟨rfl, hw1⟩; (try have ca := ca.below hw1 ca.lt); have c1 := c1.below hw1 c1.lt; (try clear c1q0 c1q1 c1q2 c1q3 c1q4); obtain ⟨c1q0, c1q1, c1q2, c1q3, c1q4⟩ := c1.c5; (try clear c1l); have c1l := c1.lt; have c2 := c2.below hw1 c2.lt; (try clear c2q0 c2q1 c2q2 c2q3 c2q4); obtain ⟨c2q0, c2q1, c2q2, c2q3, c2q4⟩ := c2.c5; (try clear c2l); have c2l := c2.lt; have hc := bthen hc hw1; (try (have cal := ca.lt; obtain ⟨caq0, caq1, caq2, caq3, caq4, caf0, caf1, caf2, caf3, caf4, cas0, cas1, cas2, cas3, cas4⟩ := ca.f5))))
                all_goals
                  go_wp2
                  go_meet
                  first | with_reducible exact born_end hc | with_reducible exact one5 hc ca hga | with_reducible exact one5 (bthen hc (balloc1 _ _)) (Blk.new _ _ _) hc.size
              case rest =>
                obtain ⟨g28, rfl, hg28, b28, hb28⟩ := hcut
                rename World => W2
                have b3 := b3.below hb28 b3.lt
                have s28 := hb28.size
                clear b1 b2
                go_upto_region 27 with fail
                obtain ⟨b3q0, b3q1, b3q2, b3q3, b3q4⟩ := b3.c5; have c3 := b3.drew; have c3l := c3.lt; obtain ⟨b28q0, b28q1, b28q2, b28q3, b28q4⟩ := b28.c5; have c28 := b28.drew; have c28l := c28.lt; have hc := bdrew0 W2; go_region_held3 (fun w' => w'.cell? ⟨gb, d * 5, none⟩ = some (.bool (decide (bq.num < 0))) ∧ w'.cell? ⟨gb, d * 5 + 1, none⟩ = some (.int .u64 (lo bq.num.natAbs : Int)) ∧ w'.cell? ⟨gb, d * 5 + 2, none⟩ = some (.string (mo bq.num.natAbs)) ∧ w'.cell? ⟨gb, d * 5 + 3, none⟩ = some (.int .u64 (lo ((qden bq)) : Int)) ∧ w'.cell? ⟨gb, d * 5 + 4, none⟩ = some (.string (mo ((qden bq)))) ∧ w'.cell? ⟨g28, 0, none⟩ = some (.bool (decide (al.num < 0))) ∧ w'.cell? ⟨g28, 1, none⟩ = some (.int .u64 (lo al.num.natAbs : Int)) ∧ w'.cell? ⟨g28, 2, none⟩ = some (.string (mo al.num.natAbs)) ∧ w'.cell? ⟨g28, 3, none⟩ = some (.int .u64 (lo ((qden al)) : Int)) ∧ w'.cell? ⟨g28, 4, none⟩ = some (.string (mo ((qden al))))) (go_keep) (first | (go_at_call 13; (with_reducible refine (HKN.out _ (hb28.trans (hc.mono s28))).mono ?_); rintro e w1 ⟨rfl, hw1⟩; have c3 := c3.below hw1 c3.lt; (try clear c3q0 c3q1 c3q2 c3q3 c3q4); obtain ⟨c3q0, c3q1, c3q2, c3q3, c3q4⟩ := c3.c5; (try clear c3l); have c3l := c3.lt; have c28 := c28.below hw1 c28.lt; (try clear c28q0 c28q1 c28q2 c28q3 c28q4); obtain ⟨c28q0, c28q1, c28q2, c28q3, c28q4⟩ := c28.c5; (try clear c28l); have c28l := c28.lt; have hc := bthen hc hw1) | (go_at_call 22; (with_reducible refine (HSG.out _).mono ?_); rintro e w2 ⟨rfl, hw2⟩; have c3 := c3.below hw2 c3.lt; (try clear c3q0 c3q1 c3q2 c3q3 c3q4); obtain ⟨c3q0, c3q1, c3q2, c3q3, c3q4⟩ := c3.c5; (try clear c3l); have c3l := c3.lt; have c28 := c28.below hw2 c28.lt; (try clear c28q0 c28q1 c28q2 c28q3 c28q4); obtain ⟨c28q0, c28q1, c28q2, c28q3, c28q4⟩ := c28.c5; (try clear c28l); have c28l := c28.lt; have hc := bthen hc hw2) | (go_at_call 32; (with_reducible refine (HSU1.out _ (hb28.trans (hc.mono s28))).mono ?_); rintro e w3 ⟨rfl, hw3⟩; have c3 := c3.below hw3 c3.lt; (try clear c3q0 c3q1 c3q2 c3q3 c3q4); obtain ⟨c3q0, c3q1, c3q2, c3q3, c3q4⟩ := c3.c5; (try clear c3l); have c3l := c3.lt; have c28 := c28.below hw3 c28.lt; (try clear c28q0 c28q1 c28q2 c28q3 c28q4); obtain ⟨c28q0, c28q1, c28q2, c28q3, c28q4⟩ := c28.c5; (try clear c28l); have c28l := c28.lt; have hc := bthen hc hw3) | (go_at_call 32; (with_reducible refine (HSU2.out _ (hb28.trans (hc.mono s28))).mono ?_); rintro e w4 ⟨rfl, hw4⟩; have c3 := c3.below hw4 c3.lt; (try clear c3q0 c3q1 c3q2 c3q3 c3q4); obtain ⟨c3q0, c3q1, c3q2, c3q3, c3q4⟩ := c3.c5; (try clear c3l); have c3l := c3.lt; have c28 := c28.below hw4 c28.lt; (try clear c28q0 c28q1 c28q2 c28q3 c28q4); obtain ⟨c28q0, c28q1, c28q2, c28q3, c28q4⟩ := c28.c5; (try clear c28l); have c28l := c28.lt; have hc := bthen hc hw4) | (go_at_call 18; (with_reducible refine (HCM.out _).mono ?_); rintro e w5 ⟨rfl, hw5⟩; have c3 := c3.below hw5 c3.lt; (try clear c3q0 c3q1 c3q2 c3q3 c3q4); obtain ⟨c3q0, c3q1, c3q2, c3q3, c3q4⟩ := c3.c5; (try clear c3l); have c3l := c3.lt; have c28 := c28.below hw5 c28.lt; (try clear c28q0 c28q1 c28q2 c28q3 c28q4); obtain ⟨c28q0, c28q1, c28q2, c28q3, c28q4⟩ := c28.c5; (try clear c28l); have c28l := c28.lt; have hc := bthen hc hw5))
                all_goals
                  go_wp2
                  go_ret
                  exact ⟨rfl, bthen (bthen HBYQ.out hb28) hc⟩
end Go.Proofs.YtbjemjopcoajcaaGreatDoor
