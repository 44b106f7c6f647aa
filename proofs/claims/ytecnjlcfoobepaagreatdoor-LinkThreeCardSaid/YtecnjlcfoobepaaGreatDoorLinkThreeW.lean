import Derived.Test.YtecnjlcfoobepaaGreatDoorLinkFarP
namespace Go.Proofs.YtecnjlcfoobepaaGreatDoor
open Go.RowKit
set_option linter.unusedSimpArgs false
set_option linter.unusedVariables false
set_option maxRecDepth 100000 in
set_option maxHeartbeats 4000000 in
theorem linkThree_walk (A : Option Addr) (n1 c1 : Nat) (zl : List Int) (zn zw zh za zb zc : Int) (w : World) (h1 : ArgZ w A n1 c1 zl) (hn : I64 zn) (hz : I64 zw) (hh : I64 zh) (h4 : I64 za) (h5 : I64 zb) (h6 : I64 zc) (hT : Tab w) :
  Calls Tryz.prog 6 #[.slice A n1 c1, .int .i64 zn, .int .i64 zw, .int .i64 zh, .int .i64 za, .int .i64 zb, .int .i64 zc] w (Ret (.bool true) w) := by
 obtain ⟨k0, hk0, hp0⟩ := pick_of zh 3 w hh.1 hh.2 (by omega) (by omega)
 obtain ⟨how, hhow⟩ : ∃ how, k0 + 1 = how := ⟨_, rfl⟩
 have e1 : (k0 : Int) + 1 = (how : Int) := by omega
 obtain ⟨f, hF, hdr⟩ := law_drawn A n1 c1 zl zn zw w h1 hn hz
 have hlj := lj_of how hF
 have HDR := Lib.hid (fun w' => hdr how w' (by omega))
 generalize buildJ how f = l at *
 obtain ⟨m, hm⟩ : ∃ m, f.length = m := ⟨_, rfl⟩
 obtain ⟨nj, hnj⟩ : ∃ nj, l.length = nj := ⟨_, rfl⟩
 have hm1 := hF.one
 have hm7 := hF.most
 have hlen := hlj.len
 rw [hm] at hm1 hm7 hlen
 rw [hnj] at hlen
 obtain ⟨a, ha, hpa⟩ := pick_of za m w h4.1 h4.2 (by omega) (by omega)
 obtain ⟨b, hb, hpb⟩ := pick_of zb m w h5.1 h5.2 (by omega) (by omega)
 obtain ⟨c, hc, hpc⟩ := pick_of zc m w h6.1 h6.2 (by omega) (by omega)
 have HP := Lib.hid hp0
 have HPA := Lib.hid hpa
 have HPB := Lib.hid hpb
 have HPC := Lib.hid hpc
 have HT := Lib.hid hT
 have HM := Lib.hid hm
 have HNJ := Lib.hid hnj
 have hx := lj_far hlj a b
 have hy := lj_far hlj b c
 have hz3 := lj_far hlj a c
 have hxy := far_three (how := how) hlj.sym hlj.pos (a := a) (b := b) (c := c) (by omega) (by omega) (by omega)
 have hba : farB how f b a = farB how f a b := farV_comm _ _ _ _ _
 have HJ := Lib.hid hlj
 clear hp0 hdr h1 hn hz hh hF hT hhow h4 h5 h6 hpa hpb hpc hm hnj hlj
 obtain ⟨x, ex⟩ : ∃ x, farB how f a b = x := ⟨_, rfl⟩
 obtain ⟨y, ey⟩ : ∃ y, farB how f b c = y := ⟨_, rfl⟩
 obtain ⟨z, ez⟩ : ∃ z, farB how f a c = z := ⟨_, rfl⟩
 rw [ex] at hx hba hxy
 rw [ey] at hy hxy
 rw [ez] at hz3 hxy
 have hqx := hx.2
 have hqy := hy.2
 have hqz := hz3.2
 have hmx := fun w => frac_max x y w (hqx.mono (by omega)) (hqy.mono (by omega))
 have hqm : QS 5529 (if x < y then y else x) := by split <;> assumption
 have hxy : z ≤ (if x < y then y else x) := hxy
 generalize (if x < y then y else x) = mx at *
 have hc1 := fun w => frac_cmp z mx w (hqz.mono (by omega)) (hqm.mono (by omega))
 have hc2 := fun w => frac_cmp x x w (hqx.mono (by omega)) (hqx.mono (by omega))
 have e0 : cmpQ x x = 0 := by unfold cmpQ; simp
 rw [e0] at hc2
 have hlt := cmp_gt mx z
 generalize cmpQ z mx = cv at *
 have q9 : decide (cv ≤ 0) = true := decide_eq_true (by
  rcases Int.lt_or_le 0 cv with h | h
  ·exact absurd (hlt.1 h) (Rat.not_lt.2 hxy)
  ·exact h)
 unfold qV at hmx hc1 hc2
 have HMX := Lib.hid hmx
 have HC1 := Lib.hid hc1
 have HC2 := Lib.hid hc2
 have HEX := Lib.hid ex
 have HEY := Lib.hid ey
 have HEZ := Lib.hid ez
 have HBA := Lib.hid hba
 clear hmx hc1 hc2 hx hy hz3 hxy hqx hqy hqz hqm hlt ex ey ez hba e0
 go_enter Tryz.func6, Tryz.ntmps6
 go_wp2_with fail
 refine (HP.out _).mono ?_
 rintro e w1 ⟨rfl, rfl⟩
 go_wp2_with fail
 refine (HDR.out _ HT.out (Below.refl _ _)).mono ?_
 rintro e w1 ⟨vf, vj, rfl, hof, hoj, -, hb1⟩
 obtain ⟨A3, c3, rfl⟩ := OwnS.form hof
 obtain ⟨A4, c4, hv, -⟩ := OwnW.form hoj
 subst hv
 rw [HNJ.out] at hoj
 rw [HM.out, HNJ.out]
 have hT1 := HT.out.next hb1
 have hX := lj_walk HJ.out hoj hT1 HM.out hm7 a b ha hb
 have hY := lj_walk HJ.out hoj hT1 HM.out hm7 b c hb hc
 have hZ := lj_walk HJ.out hoj hT1 HM.out hm7 a c ha hc
 have hR := lj_walk HJ.out hoj hT1 HM.out hm7 b a hb ha
 rw [HEX.out] at hX
 rw [HEY.out] at hY
 rw [HEZ.out] at hZ
 rw [HBA.out] at hR
 unfold qV at hX hY hZ hR
 have HX := Lib.hid hX
 have HY := Lib.hid hY
 have HZ := Lib.hid hZ
 have HR := Lib.hid hR
 have HKN : Hid (∀ w', Below w1.heap.size w1 w' → Calls Tryz.prog 18 #[] w' (Ret (.bool true) w')) := Lib.hid fun w' hb => law_known w' (hT1.next hb)
 have HB1 := Lib.hid hb1
 clear hof hoj hb1 hT1 hX hY hZ hR HDR HP HEX HEY HEZ HBA
 have HREFL := Lib.hid (Below.refl w1.heap.size w1)
 go_wp2_with fail
 refine (HPA.out _).mono ?_
 rintro e w2 ⟨rfl, rfl⟩
 go_wp2_with fail
 refine (HPB.out _).mono ?_
 rintro e w2 ⟨rfl, rfl⟩
 go_wp2_with fail
 refine (HPC.out _).mono ?_
 rintro e w2 ⟨rfl, rfl⟩
 clear HPA HPB HPC
 go_upto_region 6 with fail
 go_cut [19, 20] (fun p e wc => e = .int .i64 0 ∧ ∃ g0, p = .pointer (some ⟨g0, 0, none⟩) ∧ Blk wc g0 56 #[.bool (decide (x.num < 0)), .int .u64 (lo x.num.natAbs : Int), .string (mo x.num.natAbs), .int .u64 (lo ((qden x)) : Int), .string (mo ((qden x)))] ∧ Below w1.heap.size w1 wc)
 case first =>
  go_wp2_with fail
  refine (HX.out _ HREFL.out).mono ?_
  rintro e wd ⟨rfl, hw⟩
  have HN := Lib.hid (bthen (bthen HREFL.out hw) (balloc1 wd (.cells #[.bool (decide (x.num < 0)), .int .u64 (lo x.num.natAbs : Int), .string (mo x.num.natAbs), .int .u64 (lo ((qden x)) : Int), .string (mo ((qden x)))] 56)))
  clear hw
  go_wp2
  go_meet
  exact ⟨rfl, wd.heap.size, rfl, Blk.new wd 56 #[.bool (decide (x.num < 0)), .int .u64 (lo x.num.natAbs : Int), .string (mo x.num.natAbs), .int .u64 (lo ((qden x)) : Int), .string (mo ((qden x)))], HN.out⟩
 case rest =>
 obtain ⟨rfl, g0, rfl, b0, hn0⟩ := hcut
 rename World => v0
 have HN0 := Lib.hid hn0
 clear hn0
 clear HX HREFL
 go_upto_region 7 with fail
 go_cut [21, 22] (fun p e wc => e = .int .i64 0 ∧ ∃ g1, p = .pointer (some ⟨g1, 0, none⟩) ∧ Blk wc g0 56 #[.bool (decide (x.num < 0)), .int .u64 (lo x.num.natAbs : Int), .string (mo x.num.natAbs), .int .u64 (lo ((qden x)) : Int), .string (mo ((qden x)))] ∧ Blk wc g1 56 #[.bool (decide (y.num < 0)), .int .u64 (lo y.num.natAbs : Int), .string (mo y.num.natAbs), .int .u64 (lo ((qden y)) : Int), .string (mo ((qden y)))] ∧ Below w1.heap.size w1 wc)
 case first =>
  go_wp2_with fail
  refine (HY.out _ HN0.out).mono ?_
  rintro e wd ⟨rfl, hw⟩
  have b0 := Lib.hid ((b0.below hw b0.lt).alloc (.cells #[.bool (decide (y.num < 0)), .int .u64 (lo y.num.natAbs : Int), .string (mo y.num.natAbs), .int .u64 (lo ((qden y)) : Int), .string (mo ((qden y)))] 56))
  have HN := Lib.hid (bthen (bthen HN0.out hw) (balloc1 wd (.cells #[.bool (decide (y.num < 0)), .int .u64 (lo y.num.natAbs : Int), .string (mo y.num.natAbs), .int .u64 (lo ((qden y)) : Int), .string (mo ((qden y)))] 56)))
  clear hw
  go_wp2
  go_meet
  exact ⟨rfl, wd.heap.size, rfl, b0.out, Blk.new wd 56 #[.bool (decide (y.num < 0)), .int .u64 (lo y.num.natAbs : Int), .string (mo y.num.natAbs), .int .u64 (lo ((qden y)) : Int), .string (mo ((qden y)))], HN.out⟩
 case rest =>
 obtain ⟨rfl, g1, rfl, b0, b1, hn1⟩ := hcut
 rename World => v1
 have HN1 := Lib.hid hn1
 clear hn1
 clear HY HN0
 go_upto_region 8 with fail
 go_cut [23, 24] (fun p e wc => e = .int .i64 0 ∧ ∃ g2, p = .pointer (some ⟨g2, 0, none⟩) ∧ Blk wc g0 56 #[.bool (decide (x.num < 0)), .int .u64 (lo x.num.natAbs : Int), .string (mo x.num.natAbs), .int .u64 (lo ((qden x)) : Int), .string (mo ((qden x)))] ∧ Blk wc g1 56 #[.bool (decide (y.num < 0)), .int .u64 (lo y.num.natAbs : Int), .string (mo y.num.natAbs), .int .u64 (lo ((qden y)) : Int), .string (mo ((qden y)))] ∧ Blk wc g2 56 #[.bool (decide (z.num < 0)), .int .u64 (lo z.num.natAbs : Int), .string (mo z.num.natAbs), .int .u64 (lo ((qden z)) : Int), .string (mo ((qden z)))] ∧ Below w1.heap.size w1 wc)
 case first =>
  go_wp2_with fail
  refine (HZ.out _ HN1.out).mono ?_
  rintro e wd ⟨rfl, hw⟩
  have b0 := Lib.hid ((b0.below hw b0.lt).alloc (.cells #[.bool (decide (z.num < 0)), .int .u64 (lo z.num.natAbs : Int), .string (mo z.num.natAbs), .int .u64 (lo ((qden z)) : Int), .string (mo ((qden z)))] 56))
  have b1 := Lib.hid ((b1.below hw b1.lt).alloc (.cells #[.bool (decide (z.num < 0)), .int .u64 (lo z.num.natAbs : Int), .string (mo z.num.natAbs), .int .u64 (lo ((qden z)) : Int), .string (mo ((qden z)))] 56))
  have HN := Lib.hid (bthen (bthen HN1.out hw) (balloc1 wd (.cells #[.bool (decide (z.num < 0)), .int .u64 (lo z.num.natAbs : Int), .string (mo z.num.natAbs), .int .u64 (lo ((qden z)) : Int), .string (mo ((qden z)))] 56)))
  clear hw
  go_wp2
  go_meet
  exact ⟨rfl, wd.heap.size, rfl, b0.out, b1.out, Blk.new wd 56 #[.bool (decide (z.num < 0)), .int .u64 (lo z.num.natAbs : Int), .string (mo z.num.natAbs), .int .u64 (lo ((qden z)) : Int), .string (mo ((qden z)))], HN.out⟩
 case rest =>
 obtain ⟨rfl, g2, rfl, b0, b1, b2, hn2⟩ := hcut
 rename World => v2
 have HN2 := Lib.hid hn2
 clear hn2
 clear HZ HN1
 go_upto_region 9 with fail
 go_cut [25, 26] (fun p e wc => e = .int .i64 0 ∧ ∃ g3, p = .pointer (some ⟨g3, 0, none⟩) ∧ Blk wc g0 56 #[.bool (decide (x.num < 0)), .int .u64 (lo x.num.natAbs : Int), .string (mo x.num.natAbs), .int .u64 (lo ((qden x)) : Int), .string (mo ((qden x)))] ∧ Blk wc g1 56 #[.bool (decide (y.num < 0)), .int .u64 (lo y.num.natAbs : Int), .string (mo y.num.natAbs), .int .u64 (lo ((qden y)) : Int), .string (mo ((qden y)))] ∧ Blk wc g2 56 #[.bool (decide (z.num < 0)), .int .u64 (lo z.num.natAbs : Int), .string (mo z.num.natAbs), .int .u64 (lo ((qden z)) : Int), .string (mo ((qden z)))] ∧ Blk wc g3 56 #[.bool (decide (x.num < 0)), .int .u64 (lo x.num.natAbs : Int), .string (mo x.num.natAbs), .int .u64 (lo ((qden x)) : Int), .string (mo ((qden x)))] ∧ Below w1.heap.size w1 wc)
 case first =>
  go_wp2_with fail
  refine (HR.out _ HN2.out).mono ?_
  rintro e wd ⟨rfl, hw⟩
  have b0 := Lib.hid ((b0.below hw b0.lt).alloc (.cells #[.bool (decide (x.num < 0)), .int .u64 (lo x.num.natAbs : Int), .string (mo x.num.natAbs), .int .u64 (lo ((qden x)) : Int), .string (mo ((qden x)))] 56))
  have b1 := Lib.hid ((b1.below hw b1.lt).alloc (.cells #[.bool (decide (x.num < 0)), .int .u64 (lo x.num.natAbs : Int), .string (mo x.num.natAbs), .int .u64 (lo ((qden x)) : Int), .string (mo ((qden x)))] 56))
  have b2 := Lib.hid ((b2.below hw b2.lt).alloc (.cells #[.bool (decide (x.num < 0)), .int .u64 (lo x.num.natAbs : Int), .string (mo x.num.natAbs), .int .u64 (lo ((qden x)) : Int), .string (mo ((qden x)))] 56))
  have HN := Lib.hid (bthen (bthen HN2.out hw) (balloc1 wd (.cells #[.bool (decide (x.num < 0)), .int .u64 (lo x.num.natAbs : Int), .string (mo x.num.natAbs), .int .u64 (lo ((qden x)) : Int), .string (mo ((qden x)))] 56)))
  clear hw
  go_wp2
  go_meet
  exact ⟨rfl, wd.heap.size, rfl, b0.out, b1.out, b2.out, Blk.new wd 56 #[.bool (decide (x.num < 0)), .int .u64 (lo x.num.natAbs : Int), .string (mo x.num.natAbs), .int .u64 (lo ((qden x)) : Int), .string (mo ((qden x)))], HN.out⟩
 case rest =>
 obtain ⟨rfl, g3, rfl, b0, b1, b2, b3, hn3⟩ := hcut
 rename World => v3
 have HN3 := Lib.hid hn3
 clear hn3
 clear HR HN2
 have HK2 : Hid (∀ w', Below v3.heap.size v3 w' → Calls Tryz.prog 18 #[] w' (Ret (.bool true) w')) := Lib.hid fun w' hb => HKN.out w' (HN3.out.trans (hb.mono HN3.out.size))
 go_upto_region 10 with fail
 go_cut [14] (fun v wc => v = .bool true ∧ Below v3.heap.size v3 wc)
 case first =>
  clear HKN
  obtain ⟨b0q0, b0q1, b0q2, b0q3, b0q4⟩ := b0.c5; have c0 := b0.drew; have c0l := c0.lt; obtain ⟨b1q0, b1q1, b1q2, b1q3, b1q4⟩ := b1.c5; have c1 := b1.drew; have c1l := c1.lt; obtain ⟨b2q0, b2q1, b2q2, b2q3, b2q4⟩ := b2.c5; have c2 := b2.drew; have c2l := c2.lt; obtain ⟨b3q0, b3q1, b3q2, b3q3, b3q4⟩ := b3.c5; have c3 := b3.drew; have c3l := c3.lt; have hc := bdrew0 v3; go_region_held3 (fun w' => w'.cell? ⟨g0, 0, none⟩ = some (.bool (decide (x.num < 0))) ∧ w'.cell? ⟨g0, 1, none⟩ = some (.int .u64 (lo x.num.natAbs : Int)) ∧ w'.cell? ⟨g0, 2, none⟩ = some (.string (mo x.num.natAbs)) ∧ w'.cell? ⟨g0, 3, none⟩ = some (.int .u64 (lo ((qden x)) : Int)) ∧ w'.cell? ⟨g0, 4, none⟩ = some (.string (mo ((qden x)))) ∧ w'.cell? ⟨g1, 0, none⟩ = some (.bool (decide (y.num < 0))) ∧ w'.cell? ⟨g1, 1, none⟩ = some (.int .u64 (lo y.num.natAbs : Int)) ∧ w'.cell? ⟨g1, 2, none⟩ = some (.string (mo y.num.natAbs)) ∧ w'.cell? ⟨g1, 3, none⟩ = some (.int .u64 (lo ((qden y)) : Int)) ∧ w'.cell? ⟨g1, 4, none⟩ = some (.string (mo ((qden y)))) ∧ w'.cell? ⟨g2, 0, none⟩ = some (.bool (decide (z.num < 0))) ∧ w'.cell? ⟨g2, 1, none⟩ = some (.int .u64 (lo z.num.natAbs : Int)) ∧ w'.cell? ⟨g2, 2, none⟩ = some (.string (mo z.num.natAbs)) ∧ w'.cell? ⟨g2, 3, none⟩ = some (.int .u64 (lo ((qden z)) : Int)) ∧ w'.cell? ⟨g2, 4, none⟩ = some (.string (mo ((qden z)))) ∧ w'.cell? ⟨g3, 0, none⟩ = some (.bool (decide (x.num < 0))) ∧ w'.cell? ⟨g3, 1, none⟩ = some (.int .u64 (lo x.num.natAbs : Int)) ∧ w'.cell? ⟨g3, 2, none⟩ = some (.string (mo x.num.natAbs)) ∧ w'.cell? ⟨g3, 3, none⟩ = some (.int .u64 (lo ((qden x)) : Int)) ∧ w'.cell? ⟨g3, 4, none⟩ = some (.string (mo ((qden x))))) (go_keep) (first | (go_at_call 18; (with_reducible refine (HK2.out _ hc).mono ?_); rintro e w1 ⟨rfl, hw1⟩; have c0 := c0.below hw1 c0.lt; (try clear c0q0 c0q1 c0q2 c0q3 c0q4); obtain ⟨c0q0, c0q1, c0q2, c0q3, c0q4⟩ := c0.c5; (try clear c0l); have c0l := c0.lt; have c1 := c1.below hw1 c1.lt; (try clear c1q0 c1q1 c1q2 c1q3 c1q4); obtain ⟨c1q0, c1q1, c1q2, c1q3, c1q4⟩ := c1.c5; (try clear c1l); have c1l := c1.lt; have c2 := c2.below hw1 c2.lt; (try clear c2q0 c2q1 c2q2 c2q3 c2q4); obtain ⟨c2q0, c2q1, c2q2, c2q3, c2q4⟩ := c2.c5; (try clear c2l); have c2l := c2.lt; have c3 := c3.below hw1 c3.lt; (try clear c3q0 c3q1 c3q2 c3q3 c3q4); obtain ⟨c3q0, c3q1, c3q2, c3q3, c3q4⟩ := c3.c5; (try clear c3l); have c3l := c3.lt; have hc := bthen hc hw1) | (go_at_call 31; (with_reducible refine (HMX.out _).mono ?_); rintro e w2 ⟨rfl, hw2⟩; have c0 := c0.below hw2 c0.lt; (try clear c0q0 c0q1 c0q2 c0q3 c0q4); obtain ⟨c0q0, c0q1, c0q2, c0q3, c0q4⟩ := c0.c5; (try clear c0l); have c0l := c0.lt; have c1 := c1.below hw2 c1.lt; (try clear c1q0 c1q1 c1q2 c1q3 c1q4); obtain ⟨c1q0, c1q1, c1q2, c1q3, c1q4⟩ := c1.c5; (try clear c1l); have c1l := c1.lt; have c2 := c2.below hw2 c2.lt; (try clear c2q0 c2q1 c2q2 c2q3 c2q4); obtain ⟨c2q0, c2q1, c2q2, c2q3, c2q4⟩ := c2.c5; (try clear c2l); have c2l := c2.lt; have c3 := c3.below hw2 c3.lt; (try clear c3q0 c3q1 c3q2 c3q3 c3q4); obtain ⟨c3q0, c3q1, c3q2, c3q3, c3q4⟩ := c3.c5; (try clear c3l); have c3l := c3.lt; have hc := bthen hc hw2) | (go_at_call 29; (with_reducible refine (HC1.out _).mono ?_); rintro e w3 ⟨rfl, hw3⟩; have c0 := c0.below hw3 c0.lt; (try clear c0q0 c0q1 c0q2 c0q3 c0q4); obtain ⟨c0q0, c0q1, c0q2, c0q3, c0q4⟩ := c0.c5; (try clear c0l); have c0l := c0.lt; have c1 := c1.below hw3 c1.lt; (try clear c1q0 c1q1 c1q2 c1q3 c1q4); obtain ⟨c1q0, c1q1, c1q2, c1q3, c1q4⟩ := c1.c5; (try clear c1l); have c1l := c1.lt; have c2 := c2.below hw3 c2.lt; (try clear c2q0 c2q1 c2q2 c2q3 c2q4); obtain ⟨c2q0, c2q1, c2q2, c2q3, c2q4⟩ := c2.c5; (try clear c2l); have c2l := c2.lt; have c3 := c3.below hw3 c3.lt; (try clear c3q0 c3q1 c3q2 c3q3 c3q4); obtain ⟨c3q0, c3q1, c3q2, c3q3, c3q4⟩ := c3.c5; (try clear c3l); have c3l := c3.lt; have hc := bthen hc hw3) | (go_at_call 29; (with_reducible refine (HC2.out _).mono ?_); rintro e w4 ⟨rfl, hw4⟩; have c0 := c0.below hw4 c0.lt; (try clear c0q0 c0q1 c0q2 c0q3 c0q4); obtain ⟨c0q0, c0q1, c0q2, c0q3, c0q4⟩ := c0.c5; (try clear c0l); have c0l := c0.lt; have c1 := c1.below hw4 c1.lt; (try clear c1q0 c1q1 c1q2 c1q3 c1q4); obtain ⟨c1q0, c1q1, c1q2, c1q3, c1q4⟩ := c1.c5; (try clear c1l); have c1l := c1.lt; have c2 := c2.below hw4 c2.lt; (try clear c2q0 c2q1 c2q2 c2q3 c2q4); obtain ⟨c2q0, c2q1, c2q2, c2q3, c2q4⟩ := c2.c5; (try clear c2l); have c2l := c2.lt; have c3 := c3.below hw4 c3.lt; (try clear c3q0 c3q1 c3q2 c3q3 c3q4); obtain ⟨c3q0, c3q1, c3q2, c3q3, c3q4⟩ := c3.c5; (try clear c3l); have c3l := c3.lt; have hc := bthen hc hw4))
  all_goals
   go_wp2
   go_meet
   exact ⟨rfl, hc⟩
 case rest =>
 obtain ⟨rfl, hbd⟩ := hcut
 have HBD := Lib.hid (HB1.out.trans ((HN3.out.trans (hbd.mono HN3.out.size)).mono HB1.out.size))
 clear hbd
 go_wp2
 go_returns
 exact ⟨rfl, HBD.out⟩
end Go.Proofs.YtecnjlcfoobepaaGreatDoor
