/-
  octet.Reader: Frac.
-/
import Derived.Test.YtjmbpnogicdkgaaGreatDoorReader
import Derived.Test.YtjmbpnogicdkgaaGreatDoorBackMath
import Derived.Test.YtjmbpnogicdkgaaGreatDoorFracBase
import Derived.Test.YtjmbpnogicdkgaaGreatDoorFracM
import Derived.Test.YtjmbpnogicdkgaaGreatDoorHand
namespace Go.Proofs.YtjmbpnogicdkgaaGreatDoor
open Go.RowKit
set_option linter.unusedSimpArgs false
set_option linter.unusedVariables false

theorem Tab.exc {w w' : World} {g : Nat} (h : Tab w) (hb : Exc g w w') (hg : 3 ≠ g) : Tab w' := fun i hi => by
  rw [World.cell?_of_block (hb.block _ h.lt hg)]
  exact h i hi
theorem stNat_blen2 (n : Nat) (s : St) : blen (stNat n s).1 ≤ 8 * s.1.length := by
  have h1 := (stTake_le n s).1
  unfold stNat
  split
  · exact Nat.zero_le _
  · have h2 := beVal_lt (stTake n s).1
    have h3 : (256 : Nat) ^ (stTake n s).1.length = 2 ^ (8 * (stTake n s).1.length) := by rw [Nat.pow_mul]
    rw [h3] at h2
    have := blen_le _ _ h2
    simp only []
    omega
theorem stWhole_le (s : St) (h : s.1.length ≤ 1099511627776) : blen (stWhole s).1.natAbs ≤ 8 * s.1.length ∧ (stWhole s).2.1.length ≤ s.1.length := by
  have h1 := stCount_le 4611686018427387904 s h
  have h2 := stNat_blen2 ((stCount 4611686018427387904 s).1 / 2) (stCount 4611686018427387904 s).2
  have h3 := stNat_le ((stCount 4611686018427387904 s).1 / 2) (stCount 4611686018427387904 s).2
  unfold stWhole
  simp only []
  rw [signed_abs]
  constructor
  · omega
  · split
    · simp [stFail]
    · omega
theorem Exc.far5 {b g : Nat} {w w' : World} (h : Exc b w w') (hg : w.heap.size ≤ g) (x y z u v : Value) : Exc b w (((((w'.setCell ⟨g, 0, none⟩ x).setCell ⟨g, 1, none⟩ y).setCell ⟨g, 2, none⟩ z).setCell ⟨g, 3, none⟩ u).setCell ⟨g, 4, none⟩ v) :=
  ((((h.far hg 0 x).far hg 1 y).far hg 2 z).far hg 3 u).far hg 4 v
theorem IsR.set5 {w : World} {b B g : Nat} {s : St} (h : IsR w b B s) (hg : B ≤ g) (hb : b ≠ g) (x y z u v : Value) : IsR (((((w.setCell ⟨g, 0, none⟩ x).setCell ⟨g, 1, none⟩ y).setCell ⟨g, 2, none⟩ z).setCell ⟨g, 3, none⟩ u).setCell ⟨g, 4, none⟩ v) b B s :=
  ((((h.set_ hg hb x).set_ hg hb y).set_ hg hb z).set_ hg hb u).set_ hg hb v
theorem qV_zero : qV 0 = .agg #[.bool false, .int .u64 0, .string ⟨#[]⟩, .int .u64 0, .string ⟨#[]⟩] := rfl
set_option maxRecDepth 100000 in
set_option maxHeartbeats 2000000 in
theorem reader_frac (b B : Nat) (s : St) (w : World) (h : IsR w b B s) (hs : s.1.length ≤ 1048576) (hT : Tab w) (hTb : 3 ≠ b) :
    Calls Tryz.prog 39 #[.pointer (some ⟨b, 0, none⟩)] w (Got b B (qV (stFrac s).1) (stFrac s).2 w) := by
  have e0 : stFrac s = if (stNat (stCount 4611686018427387904 (stWhole s).2).1 (stCount 4611686018427387904 (stWhole s).2).2).2.2 then (0, (stNat (stCount 4611686018427387904 (stWhole s).2).1 (stCount 4611686018427387904 (stWhole s).2).2).2) else
    if (stNat (stCount 4611686018427387904 (stWhole s).2).1 (stCount 4611686018427387904 (stWhole s).2).2).1 = 0 ∨ (Rat.divInt (stWhole s).1 (stNat (stCount 4611686018427387904 (stWhole s).2).1 (stCount 4611686018427387904 (stWhole s).2).2).1).den ≠ (stNat (stCount 4611686018427387904 (stWhole s).2).1 (stCount 4611686018427387904 (stWhole s).2).2).1 then (0, stFail) else
      (Rat.divInt (stWhole s).1 (stNat (stCount 4611686018427387904 (stWhole s).2).1 (stCount 4611686018427387904 (stWhole s).2).2).1, (stNat (stCount 4611686018427387904 (stWhole s).2).1 (stCount 4611686018427387904 (stWhole s).2).2).2) := rfl
  have hwl := stWhole_le s (by omega)
  have hwh := fun w h => reader_whole b B s w h (by omega)
  generalize stFrac s = res at *
  generalize stWhole s = sw at *
  obtain ⟨z, s1⟩ := sw
  simp only [] at hwl hwh e0
  have hcl := stCount_le 4611686018427387904 s1 (by omega)
  have hct := fun w h => reader_count b B 4611686018427387904 s1 w h (by omega)
  generalize stCount 4611686018427387904 s1 = sc at *
  obtain ⟨n, s2⟩ := sc
  simp only [] at hcl hct e0
  have hnb := stNat_blen2 n s2
  have hnt := fun w h => reader_natural b B n s2 w h (by omega) (by omega)
  generalize stNat n s2 = sn at *
  obtain ⟨a, s3⟩ := sn
  simp only [] at hnb hnt e0
  obtain ⟨l3, bad3⟩ := s3
  simp only [] at e0
  have hzl : blen z.natAbs ≤ 549755813888 := by omega
  have hal : blen a ≤ 549755813888 := by omega
  have HWH := Lib.hid hwh
  have HCT := Lib.hid hct
  have HNT := Lib.hid hnt
  have E0 := Lib.hid e0
  have HT := Lib.hid hT
  have hblt := h.lt
  have hlow := h.low
  clear hwh hct hnt e0 hT hwl hcl hnb hs
  have bx := Blk.new w 70 #[.bool false, .int .u64 0, .string ⟨#[]⟩, .int .u64 0, .string ⟨#[]⟩]
  have h1 := h.below (balloc1 w (.cells #[.bool false, .int .u64 0, .string ⟨#[]⟩, .int .u64 0, .string ⟨#[]⟩] 70))
  have hE := Exc.of (b := b) (balloc1 w (.cells #[.bool false, .int .u64 0, .string ⟨#[]⟩, .int .u64 0, .string ⟨#[]⟩] 70))
  have hzz : (w.alloc (.cells #[.bool false, .int .u64 0, .string ⟨#[]⟩, .int .u64 0, .string ⟨#[]⟩] 70)).heap.size = w.heap.size + 1 := World.size_alloc _ _
  have HZ := Lib.hid hzz
  clear hzz h
  unfold intV natV at *
  go_enter Tryz.func39, Tryz.ntmps39
  go_wp2_with fail
  generalize w.alloc (.cells #[.bool false, .int .u64 0, .string ⟨#[]⟩, .int .u64 0, .string ⟨#[]⟩] 70) = W at *
  refine (HWH.out W h1).mono ?_
  rintro e w1 ⟨rfl, hR1, hx1⟩
  have bx := bx.exc hx1 (by omega)
  have hE1 := hE.trans hx1
  have hz1 := bx.lt
  have bz := Blk.new w1 68 #[.bool (decide (z < 0)), .int .u64 (lo z.natAbs : Int), .string (mo z.natAbs)]
  have bx := bx.alloc (.cells #[.bool (decide (z < 0)), .int .u64 (lo z.natAbs : Int), .string (mo z.natAbs)] 68)
  have hR1 := hR1.below (balloc1 w1 (.cells #[.bool (decide (z < 0)), .int .u64 (lo z.natAbs : Int), .string (mo z.natAbs)] 68))
  have hE1 := hE1.trans (Exc.of (balloc1 w1 (.cells #[.bool (decide (z < 0)), .int .u64 (lo z.natAbs : Int), .string (mo z.natAbs)] 68)))
  clear h1 hE hx1
  go_wp2_with fail
  obtain ⟨gz, hgz⟩ : ∃ g, w1.heap.size = g := ⟨_, rfl⟩
  have hgz2 : w.heap.size < gz := by omega
  have hgzb : gz ≠ b := by omega
  rw [hgz] at bz
  rw [hgz]
  clear hgz
  generalize w1.alloc (.cells #[.bool (decide (z < 0)), .int .u64 (lo z.natAbs : Int), .string (mo z.natAbs)] 68) = x1 at *
  clear hz1
  refine (HCT.out x1 hR1).mono ?_
  rintro e w2 ⟨rfl, hR2, hx2⟩
  have bx := bx.exc hx2 (by omega)
  have bz := bz.exc hx2 hgzb
  have hE2 := hE1.trans hx2
  clear hR1 hx2 hE1
  go_wp2_with fail
  refine (HNT.out w2 hR2).mono ?_
  rintro e w3 ⟨rfl, hR3, hx3⟩
  have bx := bx.exc hx3 (by omega)
  have bz := bz.exc hx3 hgzb
  have hE3 := hE2.trans hx3
  have hz3 := bz.lt
  have bm := Blk.new w3 66 #[.int .u64 (lo a : Int), .string (mo a)]
  have bx := bx.alloc (.cells #[.int .u64 (lo a : Int), .string (mo a)] 66)
  have bz := bz.alloc (.cells #[.int .u64 (lo a : Int), .string (mo a)] 66)
  have hR3 := hR3.below (balloc1 w3 (.cells #[.int .u64 (lo a : Int), .string (mo a)] 66))
  have hE3 := hE3.trans (Exc.of (balloc1 w3 (.cells #[.int .u64 (lo a : Int), .string (mo a)] 66)))
  clear hR2 hx3 hE2
  go_upto_region 3 with fail
  obtain ⟨ga, hga⟩ : ∃ g, w3.heap.size = g := ⟨_, rfl⟩
  have hga2 : gz < ga := by omega
  have hgab : ga ≠ b := by omega
  rw [hga] at bm
  rw [hga]
  clear hga
  generalize w3.alloc (.cells #[.int .u64 (lo a : Int), .string (mo a)] 66) = x3 at *
  clear hz3
  have hR3' := hR3
  obtain ⟨Ar, nr, cr, r1, r2, r3, r4, r5⟩ := hR3'
  simp only [] at r1 r2
  obtain ⟨rq0, rq1⟩ := r1.c2
  clear r1 r2 r3 r4 r5
  have HR3 := Lib.hid hR3
  have HE3 := Lib.hid hE3
  by_cases hbad : bad3 = true
  · subst hbad
    have e1 := E0.out
    rw [if_pos rfl] at e1
    have E1 := Lib.hid e1
    clear e1 E0
    obtain ⟨bxq0, bxq1, bxq2, bxq3, bxq4, bxf0, bxf1, bxf2, bxf3, bxf4, bxs0, bxs1, bxs2, bxs3, bxs4⟩ := bx.f5
    have hfin := hR3.set5 (g := w.heap.size) hlow (by omega) (.bool false) (.int .u64 0) (.string ⟨#[]⟩) (.int .u64 0) (.string ⟨#[]⟩)
    have hfin2 := hE3.far5 (Nat.le_refl _) (.bool false) (.int .u64 0) (.string ⟨#[]⟩) (.int .u64 0) (.string ⟨#[]⟩)
    have HFN := Lib.hid (And.intro hfin hfin2)
    clear hfin hfin2 hR3 hE3
    go_wp2
    refine bodyPost_ret (v := .agg #[.bool false, .int .u64 0, .string ⟨#[]⟩, .int .u64 0, .string ⟨#[]⟩]) (by simp [results, Tryz.results39, go_sem, bxs0, bxs1, bxs2, bxs3, bxs4]) rfl ?_
    rw [E1.out]
    exact ⟨by rw [qV_zero], HFN.out.1, HFN.out.2⟩
  · obtain rfl : bad3 = false := by simpa using hbad
    have e1 := E0.out
    rw [if_neg (by simp)] at e1
    have E1 := Lib.hid e1
    have hT3 : Tab x3 := HT.out.exc hE3 hTb
    clear e1 E0 hbad
    have hfr := fun w => whole_from false a w (by omega)
    have e4 : signed false a = (a : Int) := rfl
    rw [e4] at hfr
    have hmk := fun w (hT : Tab w) => frac_make z (a : Int) w hzl (by rw [Int.natAbs_natCast]; exact hal) hT
    have hok : decide ((a : Int) ≠ 0) = decide (a ≠ 0) := by simp
    rw [hok] at hmk
    unfold intV natV at hfr
    unfold intV qV at hmk
    rw [Int.natAbs_natCast] at hfr hmk
    obtain ⟨da, hda⟩ : ∃ da, decide ((a : Int) < 0) = da := ⟨_, rfl⟩
    obtain ⟨dz, hdz⟩ : ∃ dz, decide (z < 0) = dz := ⟨_, rfl⟩
    obtain ⟨ok, hok2⟩ : ∃ ok, decide (a ≠ 0) = ok := ⟨_, rfl⟩
    obtain ⟨q, hq⟩ : ∃ q, Rat.divInt z (a : Int) = q := ⟨_, rfl⟩
    rw [hda] at hfr hmk
    rw [hok2, hq, hdz] at hmk
    rw [hdz] at bz ⊢
    rw [hq] at E1
    have HFR := Lib.hid hfr
    have HMK := Lib.hid (fun w (h : Below x3.heap.size x3 w) => hmk w (hT3.next h))
    have HOK := Lib.hid (And.intro hok2 hq)
    clear hfr hmk hok hda hdz hok2 hq e4 hR3 hE3
    go_upto_region 5 with fail
    clear rq0 rq1
    go_cut [5, 6] (fun v v' wc => v' = .bool ok ∧ Born x3 70 #[.bool (decide (q.num < 0)), .int .u64 (lo q.num.natAbs : Int), .string (mo q.num.natAbs), .int .u64 (lo ((qden q)) : Int), .string (mo ((qden q)))] v wc)
    case first =>
      obtain ⟨bzq0, bzq1, bzq2⟩ := bz.c3; have czz := bz.lt; have cz := bz.drew; have czl := cz.lt; obtain ⟨bmq0, bmq1⟩ := bm.c2; have cmz := bm.lt; have cm := bm.drew; have cml := cm.lt; have hc := bdrew0 x3; go_region_held3 (fun w' => w'.cell? ⟨gz, 0, none⟩ = some (.bool dz) ∧ w'.cell? ⟨gz, 1, none⟩ = some (.int .u64 (lo z.natAbs : Int)) ∧ w'.cell? ⟨gz, 2, none⟩ = some (.string (mo z.natAbs)) ∧ w'.cell? ⟨ga, 0, none⟩ = some (.int .u64 (lo a : Int)) ∧ w'.cell? ⟨ga, 1, none⟩ = some (.string (mo a))) (go_keep) (first | (go_at_call 90; refine (HFR.out _).mono ?_; rintro e w1 ⟨rfl, hw1⟩; (first | have cz := cz.below hw1 cz.lt | have cz := (cz.alloc _).below hw1 (cz.alloc _).lt | have cz := ((cz.alloc _).alloc _).below hw1 ((cz.alloc _).alloc _).lt); (try clear czq0 czq1 czq2); obtain ⟨czq0, czq1, czq2⟩ := cz.c3; (try clear czl); have czl := cz.lt; (first | have cm := cm.below hw1 cm.lt | have cm := (cm.alloc _).below hw1 (cm.alloc _).lt | have cm := ((cm.alloc _).alloc _).below hw1 ((cm.alloc _).alloc _).lt); (try clear cmq0 cmq1); obtain ⟨cmq0, cmq1⟩ := cm.c2; (try clear cml); have cml := cm.lt; (try (first | have ca := ca.below hw1 ca.lt | have ca := (ca.alloc _).below hw1 (ca.alloc _).lt)); (first | have hc := bthen hc hw1 | (have hb1 := born1d hc hw1; obtain ⟨ca, hga, hc⟩ := hb1) | (have hb1 := born1 hc hw1; obtain ⟨ca, hga, hc⟩ := hb1)); (try have czna := nelt czz hga); (try have cmna := nelt cmz hga)) | (go_at_call 89; (first | refine (HMK.out _ hc).mono ?_ | refine (HMK.out _ (bthen hc (balloc1 _ _))).mono ?_ | refine (HMK.out _ (bthen hc (balloc2 _ _ _))).mono ?_); rintro e w2 ⟨rfl, hw2⟩; (first | have cz := cz.below hw2 cz.lt | have cz := (cz.alloc _).below hw2 (cz.alloc _).lt | have cz := ((cz.alloc _).alloc _).below hw2 ((cz.alloc _).alloc _).lt); (try clear czq0 czq1 czq2); obtain ⟨czq0, czq1, czq2⟩ := cz.c3; (try clear czl); have czl := cz.lt; (first | have cm := cm.below hw2 cm.lt | have cm := (cm.alloc _).below hw2 (cm.alloc _).lt | have cm := ((cm.alloc _).alloc _).below hw2 ((cm.alloc _).alloc _).lt); (try clear cmq0 cmq1); obtain ⟨cmq0, cmq1⟩ := cm.c2; (try clear cml); have cml := cm.lt; (try (first | have ca := ca.below hw2 ca.lt | have ca := (ca.alloc _).below hw2 (ca.alloc _).lt)); (first | have hc := bthen hc hw2 | (have hb1 := born1d hc hw2; obtain ⟨ca, hga, hc⟩ := hb1) | (have hb1 := born1 hc hw2; obtain ⟨ca, hga, hc⟩ := hb1)); (try have czna := nelt czz hga); (try have cmna := nelt cmz hga); (try (have cal := ca.lt; obtain ⟨caq0, caq1, caq2, caq3, caq4, caf0, caf1, caf2, caf3, caf4, cas0, cas1, cas2, cas3, cas4⟩ := ca.f5))))
      all_goals
        go_wp2
        go_meet
        refine ⟨rfl, ?_⟩
        (first | with_reducible exact one5 hc ca hga | with_reducible exact oneN hc | with_reducible exact one5 (bthen hc (balloc1 _ _)) (Blk.new _ _ _) hc.size)
    case rest =>
      obtain ⟨rfl, g, rfl, hg, bq, hbc⟩ := hcut
      have hx3z := bm.lt
      have bx := bx.below hbc bx.lt
      have bz := bz.below hbc bz.lt
      have bm := bm.below hbc bm.lt
      have HRC := Lib.hid (HR3.out.below hbc)
      have HEC := Lib.hid (HE3.out.trans (Exc.of hbc))
      have hxz := bm.lt
      clear hT3 HFR HMK HR3 HE3 hbc
      have ha0 : (a = 0 ∧ ok = false) ∨ (a ≠ 0 ∧ ok = true) := by
        by_cases h : a = 0
        · exact .inl ⟨h, by rw [← HOK.out.1]; exact decide_eq_false (by simp [h])⟩
        · exact .inr ⟨h, by rw [← HOK.out.1]; exact decide_eq_true h⟩
      rcases ha0 with ⟨ha0, rfl⟩ | ⟨ha0, rfl⟩
      · have e2 := E1.out
        rw [if_pos (.inl ha0)] at e2
        have E1 := Lib.hid e2
        clear e2 ha0
        go_upto_region 6 with fail
        go_quiet (fail)
        have bx : Blk (wc.drewN nq) _ _ _ := bx.drewN nq
        have HRD := Lib.hid (HRC.out.below (bdrewN (Below.refl _ _) nq))
        have HED := Lib.hid (HEC.out.trans (Exc.of (bdrewN (Below.refl _ _) nq)))
        have hxz : ga < (wc.drewN nq).heap.size := hxz
        clear HRC HEC bq bz bm
        generalize wc.drewN nq = wd at *
        go_wp2_with fail
        refine (reader_fail b B _ wd (HRD.out)).mono ?_
        rintro e w6 ⟨rfl, hR6, hx6⟩
        have bx := bx.exc hx6 (by omega)
        obtain ⟨bxq0, bxq1, bxq2, bxq3, bxq4, bxf0, bxf1, bxf2, bxf3, bxf4, bxs0, bxs1, bxs2, bxs3, bxs4⟩ := bx.f5
        have hfin := hR6.set5 (g := w.heap.size) hlow (by omega) (.bool false) (.int .u64 0) (.string ⟨#[]⟩) (.int .u64 0) (.string ⟨#[]⟩)
        have hfin2 := (HED.out.trans hx6).far5 (Nat.le_refl _) (.bool false) (.int .u64 0) (.string ⟨#[]⟩) (.int .u64 0) (.string ⟨#[]⟩)
        have HFN := Lib.hid (And.intro hfin hfin2)
        clear hfin hfin2 hR6 hx6
        go_wp2
        refine bodyPost_ret (v := .agg #[.bool false, .int .u64 0, .string ⟨#[]⟩, .int .u64 0, .string ⟨#[]⟩]) (by simp [results, Tryz.results39, go_sem, bxs0, bxs1, bxs2, bxs3, bxs4]) rfl ?_
        rw [E1.out]
        exact ⟨by rw [qV_zero], HFN.out.1, HFN.out.2⟩
      · have hqs : QS 549755813888 q := by
          rw [← HOK.out.2]
          obtain ⟨p1, p2, _⟩ := make_parts z (a : Int) (by omega)
          constructor
          · rw [p2]; exact Nat.le_trans (blen_div _ _) hzl
          · rw [p1, Int.natAbs_natCast]; exact Nat.le_trans (blen_div _ _) hal
        have hden := fun w => frac_den q w (hqs.mono (by omega))
        have hcmp := fun w => nat_cmp q.den a w (by have := hqs.2; omega) (by omega)
        have hcase : (q.den = a ∧ ((cmpI q.den a) != 0) = false) ∨ (q.den ≠ a ∧ ((cmpI q.den a) != 0) = true) := by
          by_cases h : q.den = a
          · left; exact ⟨h, by rw [h, cmpI_eq]; rfl⟩
          · right
            refine ⟨h, ?_⟩
            unfold cmpI
            split <;> (try split) <;> simp <;> omega
        generalize cmpI q.den a = cv at *
        unfold qV natV at hden
        unfold natV at hcmp
        have HDEN := Lib.hid hden
        have HCMP := Lib.hid hcmp
        have HA0 := Lib.hid ha0
        clear hden hcmp hqs ha0
        obtain ⟨nq, hnq⟩ : ∃ nq, decide (q.num < 0) = nq := ⟨_, rfl⟩
        rw [hnq] at HDEN bq
        have HNQ := Lib.hid hnq
        clear hnq
        go_upto_region 6 with fail
        go_cut [33] (fun v wd => v = .bool (cv != 0) ∧ Below wc.heap.size wc wd)
        case first =>
          obtain ⟨bqq0, bqq1, bqq2, bqq3, bqq4⟩ := bq.c5; have cqz := bq.lt; have cq := bq.drew; have cql := cq.lt; obtain ⟨bmq0, bmq1⟩ := bm.c2; have cmz := bm.lt; have cm := bm.drew; have cml := cm.lt; have hc := bdrew0 wc; go_region_held3 (fun w' => w'.cell? ⟨g, 0, none⟩ = some (.bool nq) ∧ w'.cell? ⟨g, 1, none⟩ = some (.int .u64 (lo q.num.natAbs : Int)) ∧ w'.cell? ⟨g, 2, none⟩ = some (.string (mo q.num.natAbs)) ∧ w'.cell? ⟨g, 3, none⟩ = some (.int .u64 (lo (qden q) : Int)) ∧ w'.cell? ⟨g, 4, none⟩ = some (.string (mo (qden q))) ∧ w'.cell? ⟨ga, 0, none⟩ = some (.int .u64 (lo a : Int)) ∧ w'.cell? ⟨ga, 1, none⟩ = some (.string (mo a))) (go_keep) (first | (go_at_call 100; refine (HDEN.out _).mono ?_; rintro e w1 ⟨rfl, hw1⟩; (first | have cq := cq.below hw1 cq.lt | have cq := (cq.alloc _).below hw1 (cq.alloc _).lt | have cq := ((cq.alloc _).alloc _).below hw1 ((cq.alloc _).alloc _).lt); (try clear cqq0 cqq1 cqq2 cqq3 cqq4); obtain ⟨cqq0, cqq1, cqq2, cqq3, cqq4⟩ := cq.c5; (try clear cql); have cql := cq.lt; (first | have cm := cm.below hw1 cm.lt | have cm := (cm.alloc _).below hw1 (cm.alloc _).lt | have cm := ((cm.alloc _).alloc _).below hw1 ((cm.alloc _).alloc _).lt); (try clear cmq0 cmq1); obtain ⟨cmq0, cmq1⟩ := cm.c2; (try clear cml); have cml := cm.lt; have hc := bthen hc hw1) | (go_at_call 98; refine (HCMP.out _).mono ?_; rintro e w2 ⟨rfl, hw2⟩; (first | have cq := cq.below hw2 cq.lt | have cq := (cq.alloc _).below hw2 (cq.alloc _).lt | have cq := ((cq.alloc _).alloc _).below hw2 ((cq.alloc _).alloc _).lt); (try clear cqq0 cqq1 cqq2 cqq3 cqq4); obtain ⟨cqq0, cqq1, cqq2, cqq3, cqq4⟩ := cq.c5; (try clear cql); have cql := cq.lt; (first | have cm := cm.below hw2 cm.lt | have cm := (cm.alloc _).below hw2 (cm.alloc _).lt | have cm := ((cm.alloc _).alloc _).below hw2 ((cm.alloc _).alloc _).lt); (try clear cmq0 cmq1); obtain ⟨cmq0, cmq1⟩ := cm.c2; (try clear cml); have cml := cm.lt; have hc := bthen hc hw2))
          all_goals
            go_wp2
            go_meet
            exact ⟨by first | rfl | simp, hc⟩
        case rest =>
          obtain ⟨rfl, hbd⟩ := hcut
          have bx := bx.below hbd bx.lt
          have bq := bq.below hbd bq.lt
          have hxz : ga < wc.heap.size := Nat.lt_of_lt_of_le hxz hbd.size
          have HRD := Lib.hid (HRC.out.below hbd)
          have HED := Lib.hid (HEC.out.trans (Exc.of hbd))
          clear HRC HEC bz bm hbd HDEN HCMP
          rcases hcase with ⟨h1, h2⟩ | ⟨h1, h2⟩
          · have e2 := E1.out
            rw [if_neg (by simp [HA0.out, h1])] at e2
            have E1 := Lib.hid e2
            rw [h2]
            clear e2 h1 h2
            have hfin := HRD.out.set5 (g := w.heap.size) hlow (by omega) (.bool nq) (.int .u64 (lo q.num.natAbs : Int)) (.string (mo q.num.natAbs)) (.int .u64 (lo (qden q) : Int)) (.string (mo (qden q)))
            have hfin2 := HED.out.far5 (Nat.le_refl _) (.bool nq) (.int .u64 (lo q.num.natAbs : Int)) (.string (mo q.num.natAbs)) (.int .u64 (lo (qden q) : Int)) (.string (mo (qden q)))
            have HFN := Lib.hid (And.intro hfin hfin2)
            have hgw : ¬ g = w.heap.size := by omega
            have hgw2 : ¬ w.heap.size = g := by omega
            clear hfin hfin2
            obtain ⟨bqq0, bqq1, bqq2, bqq3, bqq4⟩ := bq.c5
            obtain ⟨bxq0, bxq1, bxq2, bxq3, bxq4, bxf0, bxf1, bxf2, bxf3, bxf4, bxs0, bxs1, bxs2, bxs3, bxs4⟩ := bx.f5
            go_wp2
            refine bodyPost_ret (v := .agg #[.bool nq, .int .u64 (lo q.num.natAbs : Int), .string (mo q.num.natAbs), .int .u64 (lo (qden q) : Int), .string (mo (qden q))]) (by simp [results, Tryz.results39, go_sem, bxs0, bxs1, bxs2, bxs3, bxs4]) rfl ?_
            rw [E1.out]
            refine ⟨?_, HFN.out.1, HFN.out.2⟩
            unfold qV
            rw [HNQ.out]
          · have e2 := E1.out
            rw [if_pos (.inr h1)] at e2
            have E1 := Lib.hid e2
            rw [h2]
            clear e2 h1 h2
            go_wp2_with fail
            refine (reader_fail b B _ wc (HRD.out)).mono ?_
            rintro e w6 ⟨rfl, hR6, hx6⟩
            have bx := bx.exc hx6 (by omega)
            obtain ⟨bxq0, bxq1, bxq2, bxq3, bxq4, bxf0, bxf1, bxf2, bxf3, bxf4, bxs0, bxs1, bxs2, bxs3, bxs4⟩ := bx.f5
            have hfin := hR6.set5 (g := w.heap.size) hlow (by omega) (.bool false) (.int .u64 0) (.string ⟨#[]⟩) (.int .u64 0) (.string ⟨#[]⟩)
            have hfin2 := (HED.out.trans hx6).far5 (Nat.le_refl _) (.bool false) (.int .u64 0) (.string ⟨#[]⟩) (.int .u64 0) (.string ⟨#[]⟩)
            have HFN := Lib.hid (And.intro hfin hfin2)
            clear hfin hfin2 hR6 hx6
            go_wp2
            refine bodyPost_ret (v := .agg #[.bool false, .int .u64 0, .string ⟨#[]⟩, .int .u64 0, .string ⟨#[]⟩]) (by simp [results, Tryz.results39, go_sem, bxs0, bxs1, bxs2, bxs3, bxs4]) rfl ?_
            rw [E1.out]
            exact ⟨by rw [qV_zero], HFN.out.1, HFN.out.2⟩
end Go.Proofs.YtjmbpnogicdkgaaGreatDoor
