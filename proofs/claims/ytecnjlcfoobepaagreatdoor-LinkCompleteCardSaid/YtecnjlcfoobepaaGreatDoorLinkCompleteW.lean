import Derived.Test.YtecnjlcfoobepaaGreatDoorLinkGrp
import Derived.Test.YtecnjlcfoobepaaGreatDoorLinkMore
namespace Go.Proofs.YtecnjlcfoobepaaGreatDoor
open Go.RowKit
set_option linter.unusedSimpArgs false
set_option linter.unusedVariables false
theorem sumQ_sumL (l : List Rat) : sumQ l = sumL l := by
 have h : ∀ (l : List Rat) (s : Rat), l.foldl (· + ·) s = s + sumL l := by
  intro l
  induction l with
  | nil => intro s; show s = s + 0; rw [Rat.add_zero]
  | cons x l ih => intro s; show List.foldl _ (s + x) l = s + (x + sumL l); rw [ih, Rat.add_assoc]
 unfold sumQ
 rw [h, Rat.zero_add]
theorem rowB_QS {d : Nat → Nat → Rat} {two : Nat → Nat} {m a : Nat} (h : ∀ a b, QS m (d a b)) : ∀ k, ∀ x ∈ rowB d two a k, QS m x := by
 intro k
 induction k with
 | zero => intro x hx; cases hx
 | succ k ih =>
  intro x hx
  unfold rowB at hx
  split at hx
  ·rcases List.mem_append.1 hx with hx | hx
   ·exact ih x hx
   ·obtain rfl := List.mem_singleton.1 hx
    exact h _ _
  ·exact ih x hx
theorem allB_QS {d : Nat → Nat → Rat} {two : Nat → Nat} {m n : Nat} (h : ∀ a b, QS m (d a b)) : ∀ k, ∀ x ∈ allB d two n k, QS m x := by
 intro k
 induction k with
 | zero => intro x hx; cases hx
 | succ k ih =>
  intro x hx
  rcases List.mem_append.1 hx with hx | hx
  ·exact ih x hx
  ·exact rowB_QS h n x hx
theorem rowB_le (d : Nat → Nat → Rat) (two : Nat → Nat) (a : Nat) : ∀ k, (rowB d two a k).length ≤ k := by
 intro k
 induction k with
 | zero => exact Nat.le_refl _
 | succ k ih =>
  unfold rowB
  split
  ·rw [List.length_append]; simp; exact ih
  ·omega
theorem allB_le (d : Nat → Nat → Rat) (two : Nat → Nat) (n : Nat) : ∀ k, (allB d two n k).length ≤ k * n := by
 intro k
 induction k with
 | zero => exact Nat.zero_le _
 | succ k ih =>
  show (allB d two n k ++ rowB d two k n).length ≤ _
  rw [List.length_append, Nat.add_mul, Nat.one_mul]
  have := rowB_le d two k n
  omega
set_option maxRecDepth 100000 in
set_option maxHeartbeats 4000000 in
theorem linkComplete_walk (A : Option Addr) (n1 c1 : Nat) (zl : List Int) (zn zw zq : Int) (w : World) (h1 : ArgZ w A n1 c1 zl) (hn : I64 zn) (hz : I64 zw) (hh : I64 zq) (hT : Tab w) :
  Calls Tryz.prog 11 #[.slice A n1 c1, .int .i64 zn, .int .i64 zw, .int .i64 zq] w (Ret (.bool true) w) := by
 obtain ⟨f, hF, hdr⟩ := law_drawn A n1 c1 zl zn zw w h1 hn hz
 have hj2 := lj_of 2 hF
 have hj3 := lj_of 3 hF
 have HDR2 := Lib.hid (fun w' => hdr 2 w' (by omega))
 have HDR3 := Lib.hid (fun w' => hdr 3 w' (by omega))
 generalize buildJ 2 f = l2 at *
 generalize buildJ 3 f = l3 at *
 obtain ⟨m, hm⟩ : ∃ m, f.length = m := ⟨_, rfl⟩
 obtain ⟨nj, hnj⟩ : ∃ nj, l2.length = nj := ⟨_, rfl⟩
 have hnj3 : l3.length = nj := by have := hj2.len; have := hj3.len; omega
 have hm1 := hF.one
 have hm7 := hF.most
 have hlen := hj2.len
 rw [hm] at hm1 hm7 hlen
 rw [hnj] at hlen
 have hqf : ∀ a b, QS 47 (dOf f a b) := dOf_QS hF.qs (by omega)
 have hq := fun w hT => hand_q zq w hh.1 hh.2 hT
 have hqs := rOf_size zq
 generalize rOf zq = q at *
 unfold qV at hq
 have HQ := Lib.hid hq
 have HQS := Lib.hid hqs
 have HT := Lib.hid hT
 have HM := Lib.hid hm
 have HNJ := Lib.hid hnj
 have HNJ3 := Lib.hid hnj3
 have HJ2 := Lib.hid hj2
 have HJ3 := Lib.hid hj3
 have HQF := Lib.hid hqf
 clear hdr h1 hn hz hh hF hT hm hnj hnj3 hj2 hj3 hq hqs hqf
 go_enter Tryz.func11, Tryz.ntmps11
 go_wp2_with fail
 refine (HDR2.out _ HT.out (Below.refl _ _)).mono ?_
 rintro e w1 ⟨vf, vj, rfl, hof, hoj, -, hb1⟩
 obtain ⟨A3, c3, rfl⟩ := OwnS.form hof
 obtain ⟨A4, c4, hv, -⟩ := OwnW.form hoj
 subst hv
 rw [HNJ.out] at hoj
 rw [HM.out] at hof
 rw [HM.out, HNJ.out]
 obtain ⟨gf, rfl⟩ := OwnS.addr hof (by rw [HM.out]; omega)
 have HB1 := Lib.hid hb1
 have HF1 := Lib.hid hof
 have HO1 := Lib.hid hoj
 clear hof hoj hb1 HDR2
 go_upto_region 4 with fail
 go_cut [12] (fun p wc => ∃ g12, p = .pointer (some ⟨g12, 0, none⟩) ∧ Blk wc g12 56 #[.bool (decide (q.num < 0)), .int .u64 (lo q.num.natAbs : Int), .string (mo q.num.natAbs), .int .u64 (lo ((qden q)) : Int), .string (mo ((qden q)))] ∧ Below w1.heap.size w1 wc)
 case first =>
  go_wp2_with fail
  refine (HQ.out _ (HT.out.next HB1.out)).mono ?_
  rintro e w2 ⟨rfl, hb2⟩
  have HB2 := Lib.hid (bthen hb2 (balloc1 w2 (.cells #[.bool (decide (q.num < 0)), .int .u64 (lo q.num.natAbs : Int), .string (mo q.num.natAbs), .int .u64 (lo ((qden q)) : Int), .string (mo ((qden q)))] 56)))
  clear hb2
  go_wp2
  go_meet
  exact ⟨w2.heap.size, rfl, Blk.new w2 56 #[.bool (decide (q.num < 0)), .int .u64 (lo q.num.natAbs : Int), .string (mo q.num.natAbs), .int .u64 (lo ((qden q)) : Int), .string (mo ((qden q)))], HB2.out⟩
 case rest =>
 obtain ⟨g12, rfl, b0, hb2⟩ := hcut
 rename World => w2
 have HF2 := Lib.hid (OwnS.next Tryz.kindQQ HF1.out hb2)
 have HO2 := Lib.hid (OwnW.next HO1.out hb2)
 have HB2 := Lib.hid (bthen HB1.out hb2)
 clear hb2 HF1 HO1 HQ
 have hcut := link_cut A4 m nj c4 5528 l2 q w2 HO2.out hm1 (by omega) (by omega) HJ2.out.jb (HT.out.next HB2.out) (by rw [← HM.out]; exact HJ2.out.fine) hlen (HQS.out.mono (by omega))
 unfold qV at hcut
 have HCUT := Lib.hid hcut
 clear hcut
 obtain ⟨b0q0, b0q1, b0q2, b0q3, b0q4⟩ := b0.c5
 go_wp2_with fail
 refine HCUT.out.mono ?_
 rintro e w3 ⟨gg, d, rfl, hd, hlo, -, hg2, hog, hb3⟩
 have b0 := b0.below hb3 b0.lt
 have e3 := lj_groups HJ2.out (d := d) (by rw [HM.out]; omega)
 rw [HM.out] at e3
 rw [e3] at hog
 have hgd : ∀ a b, a ≠ b → a < m → b < m → rankG (grpB 2 f d) a = rankG (grpB 2 f d) b → dOf f a b ≤ q := fun a b hab ha hb hr => by
  refine far_complete (k := d) HJ2.out.sym hab (by rw [HM.out]; exact ha) (by rw [HM.out]; exact hb) (by rw [HM.out]; omega) (fun i hi => ?_) (rank_inj.1 hr)
  rw [← HJ2.out.at_ i (by rw [HM.out]; omega)]
  exact hlo i hi
 obtain ⟨G, hG⟩ : ∃ G, grpB 2 f d = G := ⟨_, rfl⟩
 rw [hG] at hog hgd
 have HGD := Lib.hid hgd
 have HG3 := Lib.hid hog
 have HF3 := Lib.hid (OwnS.next Tryz.kindQQ HF2.out hb3)
 have HB3 := Lib.hid (bthen HB2.out hb3)
 clear hog hgd hG e3 hlo hd hg2 hb3 HB2 HF2 HO2 HCUT b0q0 b0q1 b0q2 b0q3 b0q4
 go_wp2_with fail
 go_loopw [15] (fun p wr => ∃ a : Nat, a ≤ m ∧ p = .int .i64 ((a : Nat) : Int) ∧ Below w3.heap.size w3 wr) (fun p _ => m - (intOf p).toNat)
 case atStart => exact ⟨0, by omega, rfl, Below.refl _ _⟩
 case round =>
  obtain ⟨a, ham, rfl, hbw⟩ := hrel
  rename World => wa
  by_cases hal : a < m
  ·have p0 : (a : Int) < (m : Int) := by omega
   have HA := Lib.hid hbw
   clear hbw
   go_wp2_with fail
   go_loopw [16] (fun p wr => ∃ b : Nat, b ≤ a ∧ p = .int .i64 ((b : Nat) : Int) ∧ Below w3.heap.size w3 wr) (fun p _ => a - (intOf p).toNat)
   case atStart => exact ⟨0, by omega, rfl, HA.out⟩
   case round =>
    obtain ⟨b, hba, rfl, hbw⟩ := hrel
    rename World => wb
    clear HA
    by_cases hbl : b < a
    ·have p1 : (b : Int) < (a : Int) := by omega
     have p2 : (b : Int) < (m : Int) := by omega
     have ho := HG3.out.below hbw HG3.out.lt
     have y3 := Own.cellf (by rw [List.length_map, List.length_range]; exact ho) (groups_at (g := G) hal)
     have y4 := Own.cellf (by rw [List.length_map, List.length_range]; exact ho) (groups_at (g := G) (show b < m by omega))
     have hd := HGD.out a b (by omega) hal (by omega)
     obtain ⟨gr, cr, b2, b1⟩ := far_at (a := a) (b := b) (OwnS.next Tryz.kindQQ HF3.out hbw) HJ2.out.sym (by rw [HM.out]; exact hal) (by rw [HM.out]; omega)
     rw [HM.out] at b2
     have b0 := b0.below hbw b0.lt
     have hqx := HQF.out a b
     obtain ⟨x, hx⟩ : ∃ x, dOf f a b = x := ⟨_, rfl⟩
     rw [hx] at hd b1 hqx
     obtain ⟨r, hr⟩ : ∃ r, rankG G a = r := ⟨_, rfl⟩
     obtain ⟨s, hs⟩ : ∃ s, rankG G b = s := ⟨_, rfl⟩
     rw [hr] at y3 hd
     rw [hs] at y4 hd
     unfold zi at y3 y4
     have b3 := At1.mk' y3
     have b4 := At1.mk' y4
     have hcm := fun w => frac_cmp x q w (hqx.mono (by omega)) (HQS.out.mono (by omega))
     have hgt := cmp_gt q x
     generalize cmpQ x q = cv at *
     unfold qV at hcm
     have HCM := Lib.hid hcm
     have HGT := Lib.hid hgt
     have HD := Lib.hid hd
     have HBW := Lib.hid hbw
     clear hcm hgt hd hqx hx hr hs ho hbw y3 y4
     go_upto_region 14 with fail
     go_cut [87] (fun v wc => v = .bool false ∧ Below wb.heap.size wb wc)
     case first =>
      by_cases hrs : r = s
      ·subst hrs
       have q9 : decide (0 < cv) = false := decide_eq_false fun h => absurd (HGT.out.1 h) (Rat.not_lt.2 (HD.out rfl))
       have q1 : ((r : Int) == (r : Int)) = true := by simp
       obtain ⟨b0q0, b0q1, b0q2, b0q3, b0q4⟩ := b0.c5; have c0 := b0.drew; have c0l := c0.lt; obtain ⟨b1q0, b1q1, b1q2, b1q3, b1q4⟩ := b1.c5; have c1 := b1.drew; have c1l := c1.lt; obtain ⟨b2q0, b2q1⟩ := b2.c2; have c2 := b2.drew; have c2l := c2.lt; obtain ⟨b3q0, b3q1⟩ := b3.c2; have c3 := b3.drew; have c3l := c3.lt; obtain ⟨b4q0, b4q1⟩ := b4.c2; have c4 := b4.drew; have c4l := c4.lt; have hc := bdrew0 wb; go_region_held3 (fun w' => w'.cell? ⟨g12, 0, none⟩ = some (.bool (decide (q.num < 0))) ∧ w'.cell? ⟨g12, 1, none⟩ = some (.int .u64 (lo q.num.natAbs : Int)) ∧ w'.cell? ⟨g12, 2, none⟩ = some (.string (mo q.num.natAbs)) ∧ w'.cell? ⟨g12, 3, none⟩ = some (.int .u64 (lo ((qden q)) : Int)) ∧ w'.cell? ⟨g12, 4, none⟩ = some (.string (mo ((qden q)))) ∧ w'.cell? ⟨gr, b * 5, none⟩ = some (.bool (decide (x.num < 0))) ∧ w'.cell? ⟨gr, b * 5 + 1, none⟩ = some (.int .u64 (lo x.num.natAbs : Int)) ∧ w'.cell? ⟨gr, b * 5 + 2, none⟩ = some (.string (mo x.num.natAbs)) ∧ w'.cell? ⟨gr, b * 5 + 3, none⟩ = some (.int .u64 (lo ((qden x)) : Int)) ∧ w'.cell? ⟨gr, b * 5 + 4, none⟩ = some (.string (mo ((qden x)))) ∧ w'.cell? ⟨gf, a, none⟩ = some (.slice (some ⟨gr, 0, none⟩) m cr) ∧ w'.cell? ⟨gg, a, none⟩ = some (.int .i64 (r : Int)) ∧ w'.cell? ⟨gg, b, none⟩ = some (.int .i64 (r : Int))) (go_keep) (first | (go_at_call 29; (with_reducible refine (HCM.out _).mono ?_); rintro e w1 ⟨rfl, hw1⟩; have c0 := c0.below hw1 c0.lt; (try clear c0q0 c0q1 c0q2 c0q3 c0q4); obtain ⟨c0q0, c0q1, c0q2, c0q3, c0q4⟩ := c0.c5; (try clear c0l); have c0l := c0.lt; have c1 := c1.below hw1 c1.lt; (try clear c1q0 c1q1 c1q2 c1q3 c1q4); obtain ⟨c1q0, c1q1, c1q2, c1q3, c1q4⟩ := c1.c5; (try clear c1l); have c1l := c1.lt; have c2 := c2.below hw1 c2.lt; (try clear c2q0 c2q1); obtain ⟨c2q0, c2q1⟩ := c2.c2; (try clear c2l); have c2l := c2.lt; have c3 := c3.below hw1 c3.lt; (try clear c3q0 c3q1); obtain ⟨c3q0, c3q1⟩ := c3.c2; (try clear c3l); have c3l := c3.lt; have c4 := c4.below hw1 c4.lt; (try clear c4q0 c4q1); obtain ⟨c4q0, c4q1⟩ := c4.c2; (try clear c4l); have c4l := c4.lt; have hc := bthen hc hw1))
       all_goals
        go_wp2
        go_meet
        exact ⟨rfl, hc⟩
      ·have q1 : ((r : Int) == (s : Int)) = false := by simp; omega
       have q2 : ¬ (r : Int) = (s : Int) := by omega
       have q3 : (r == s) = false := by simp; omega
       obtain ⟨y3, -⟩ := b3.c2
       obtain ⟨y4, -⟩ := b4.c2
       go_region
       all_goals
        go_wp2
        go_meet
        exact ⟨by first | rfl | simp, bdrew0 _⟩
     case rest =>
      obtain ⟨rfl, hbd⟩ := hcut
      have HBD := Lib.hid (HBW.out.trans (hbd.mono HBW.out.size))
      clear hbd b1 b2 b3 b4
      go_wp2
      exact ⟨⟨b + 1, by omega, by go_num, HBD.out⟩, by simp [intOf]; omega⟩
    ·obtain rfl : b = a := by omega
     have p1 : ¬ (b : Int) < (b : Int) := by omega
     have HBW := Lib.hid hbw
     clear hbw
     go_wp2
     exact ⟨⟨b + 1, by omega, by go_num, HBW.out⟩, by simp [intOf]; omega⟩
  ·obtain rfl : a = m := by omega
   have p0 : ¬ (a : Int) < (a : Int) := by omega
   have HBA := Lib.hid (HB3.out.trans (hbw.mono HB3.out.size))
   clear hbw b0 HF3 HG3 HB3 HJ2 HGD
   go_wp2_with fail
   refine (HDR3.out _ (HT.out.next HBA.out) HBA.out).mono ?_
   rintro e w4 ⟨vf, vj, rfl, hof, hoj, -, hb4⟩
   obtain ⟨A5, c5, rfl⟩ := OwnS.form hof
   obtain ⟨A6, c6, hv, -⟩ := OwnW.form hoj
   subst hv
   rw [HNJ3.out] at hoj
   rw [HM.out] at hof
   rw [HM.out, HNJ3.out]
   obtain ⟨gk, rfl⟩ := OwnS.addr hof (by rw [HM.out]; omega)
   have HB4 := Lib.hid (HBA.out.trans (hb4.mono HBA.out.size))
   have HF4 := Lib.hid hof
   have HO4 := Lib.hid hoj
   clear hof hoj hb4 HDR3 HBA
   have HKN : Hid (∀ w', Below w4.heap.size w4 w' → Calls Tryz.prog 18 #[] w' (Ret (.bool true) w')) := Lib.hid fun w' hb => law_known w' (HT.out.next (HB4.out.trans (hb.mono HB4.out.size)))
   by_cases h2 : a < 2
   ·have k1 : (a : Int) < 2 := by omega
    go_wp2_with fail
    refine (HKN.out _ (Below.refl _ _)).mono ?_
    rintro e w5 ⟨rfl, hb5⟩
    have HB5 := Lib.hid (HB4.out.trans (hb5.mono HB4.out.size))
    clear hb5
    go_wp2
    go_returns
    exact ⟨by first | rfl | simp, HB5.out⟩
   ·have k1 : ¬ (a : Int) < 2 := by omega
    have hI := lj_into HJ3.out HO4.out (HT.out.next HB4.out) HM.out hm7 2 (by omega) (by omega)
    have hmb := mean_between HJ3.out.sym (by rw [HM.out]; omega)
    rw [HM.out] at hmb
    obtain ⟨G3, hG3⟩ : ∃ G3, grpB 3 f (a - 2) = G3 := ⟨_, rfl⟩
    have hG3' : (fun r => ownAt a (joinAt 3 f) r (a - 2)) = G3 := by rw [← hG3]; unfold grpB; rw [HM.out]
    rw [hG3'] at hmb
    rw [hG3] at hI
    obtain ⟨D, hD⟩ : ∃ D, dOf f = D := ⟨_, rfl⟩
    have hqd : ∀ a b, QS 47 (D a b) := fun i j => by rw [← hD]; exact HQF.out i j
    rw [hD] at hmb
    have HI := Lib.hid hI
    have hmb : allB D (rankG G3) a a ≠ [] ∧ sumL (allB D (rankG G3) a a) / (((allB D (rankG G3) a a).length : Nat) : Rat) = (joinAt 3 f (a - 2)).high := hmb
    have HMB := Lib.hid hmb
    have HD := Lib.hid hD
    have HQD := Lib.hid hqd
    clear hI hmb hG3 hG3' hD hqd HQF
    go_wp2_with fail
    refine (HI.out _ (Below.refl _ _)).mono ?_
    rintro e w5 ⟨gg, rfl, hgg, hog, hb5⟩
    have HG5 := Lib.hid hog
    have HF5 := Lib.hid (OwnS.next Tryz.kindQQ HF4.out hb5)
    have HO5 := Lib.hid (OwnW.next HO4.out hb5)
    have HB5 := Lib.hid hb5
    clear hog hb5 hgg HI HF4 HO4
    obtain ⟨two, htwo⟩ : ∃ two, rankG G3 = two := ⟨_, rfl⟩
    rw [htwo] at HMB
    have htw : ∀ i, rankG G3 i = two i := fun i => by rw [htwo]
    have HTW := Lib.hid htw
    clear htw htwo
    go_wp2_with fail
    go_loopw [22, 23] (fun vb p wr => ∃ i : Nat, i ≤ a ∧ p = .int .i64 ((i : Nat) : Int) ∧ OwnQ wr vb (allB D two a i) ∧ Hid (∀ b, vb.ownBlock = some b → w5.heap.size ≤ b) ∧ Below w5.heap.size w5 wr) (fun _ p _ => a - (intOf p).toNat)
    case atStart => exact ⟨0, by omega, rfl, OwnW.nil_ _ _ _ _, Lib.hid (fun b hb => by cases hb), Below.refl _ _⟩
    case round =>
     obtain ⟨i, hia, rfl, ho, hfr, hbw⟩ := hrel
     rename World => wr
     by_cases hil : i < a
     ·have p1 : (i : Int) < (a : Int) := by omega
      have hz : allB D two a i = allB D two a i ++ rowB D two i 0 := (List.append_nil _).symm
      rw [hz] at ho
      have HOB := Lib.hid ho
      have HBW := Lib.hid hbw
      clear ho hbw hz
      go_wp2_with fail
      go_loopw [22, 24] (fun vb p wr => ∃ j : Nat, j ≤ a ∧ p = .int .i64 ((j : Nat) : Int) ∧ OwnQ wr vb (allB D two a i ++ rowB D two i j) ∧ Hid (∀ b, vb.ownBlock = some b → w5.heap.size ≤ b) ∧ Below w5.heap.size w5 wr) (fun _ p _ => a - (intOf p).toNat)
      case atStart => exact ⟨0, by omega, rfl, HOB.out, hfr, HBW.out⟩
      case round =>
       obtain ⟨j, hja, rfl, ho, hfr2, hbw⟩ := hrel
       rename World => wb
       clear HOB HBW
       by_cases hjl : j < a
       ·have p2 : (j : Int) < (a : Int) := by omega
        have hog := HG5.out.below hbw HG5.out.lt
        have y3 := Own.cellf (by rw [List.length_map, List.length_range]; exact hog) (groups_at (g := G3) hil)
        have y4 := Own.cellf (by rw [List.length_map, List.length_range]; exact hog) (groups_at (g := G3) hjl)
        rw [HTW.out] at y3 y4
        unfold zi at y3 y4
        have hl1 := allB_le D two a i
        have hl2 := rowB_le D two i j
        have hl3 : (allB D two a i ++ rowB D two i j).length ≤ 1000000 := by
         rw [List.length_append]
         have := Nat.mul_le_mul (show i ≤ 7 by omega) hm7
         omega
        have hrow : rowB D two i (j + 1) = if two i < two j then rowB D two i j ++ [D i j] else rowB D two i j := rfl
        obtain ⟨r, hr⟩ : ∃ r, two i = r := ⟨_, rfl⟩
        obtain ⟨s, hs⟩ : ∃ s, two j = s := ⟨_, rfl⟩
        rw [hr] at y3 hrow
        rw [hs] at y4 hrow
        have HROW := Lib.hid hrow
        have HL3 := Lib.hid hl3
        have HBW := Lib.hid hbw
        have HOB := Lib.hid ho
        clear hl1 hl2 hl3 hrow hr hs hog hbw ho
        go_upto_region 29 with fail
        go_cut [143] (fun v wc => ∃ t, v = .bool t ∧ (t = true ↔ r < s) ∧ Below wb.heap.size wb wc)
        case first =>
         go_region
         all_goals
          go_wp2
          go_meet
          exact ⟨_, rfl, by simp, bdrew0 _⟩
        case rest =>
         obtain ⟨t, rfl, ht, hbd⟩ := hcut
         rename World => wc
         have HBC := Lib.hid (HBW.out.trans (hbd.mono HBW.out.size))
         have HOC := Lib.hid (OwnW.next HOB.out hbd)
         have HT3 := Lib.hid ht
         clear hbd y3 y4 HBW HOB ht
         cases t with
         | true =>
          have hrs : r < s := HT3.out.1 rfl
          obtain ⟨gr, cr, b2, b1⟩ := far_at (a := i) (b := j) (OwnS.next Tryz.kindQQ HF5.out HBC.out) HJ3.out.sym (by rw [HM.out]; exact hil) (by rw [HM.out]; exact hjl)
          rw [HM.out] at b2
          rw [HD.out] at b1
          have hrow2 : allB D two a i ++ rowB D two i (j + 1) = (allB D two a i ++ rowB D two i j) ++ [D i j] := by rw [HROW.out, if_pos hrs, List.append_assoc]
          obtain ⟨x, hx⟩ : ∃ x, D i j = x := ⟨_, rfl⟩
          rw [hx] at b1 hrow2
          obtain ⟨L, hL⟩ : ∃ L, allB D two a i ++ rowB D two i j = L := ⟨_, rfl⟩
          rw [hL] at hrow2 HOC HL3
          have HR2 := Lib.hid hrow2
          obtain ⟨y2, -⟩ := b2.c2
          obtain ⟨x0, x1, x2, x3, x4⟩ := b1.c5
          clear hrow2 hx hL b1 b2
          go_wp2_with (at_builtin; refine appQ rfl (.tmp 144) (.tmp 152) rfl wc _ L x rfl HOC.out rfl HL3.out ?_; intro v7 w7 ho7 hg7; have hs7 := Lib.hid ho7; have hgr7 := Lib.hid hg7; clear ho7 hg7)
          exact ⟨⟨j + 1, by omega, by go_num, by rw [HR2.out]; exact hs7.out, Lib.hid (grewL hgr7.out hfr2.out HBC.out.size), HBC.out.trans (hgr7.out.below HBC.out.size hfr2.out)⟩, by simp [intOf]; omega⟩
         | false =>
          have hrs : ¬ r < s := fun h => by have := HT3.out.2 h; cases this
          have hrow2 : allB D two a i ++ rowB D two i (j + 1) = allB D two a i ++ rowB D two i j := by rw [HROW.out, if_neg hrs]
          have HR2 := Lib.hid hrow2
          clear hrow2
          go_wp2
          exact ⟨⟨j + 1, by omega, by go_num, by rw [HR2.out]; exact HOC.out, hfr2, HBC.out⟩, by simp [intOf]; omega⟩
       ·obtain rfl : j = a := by omega
        have p2 : ¬ (j : Int) < (j : Int) := by omega
        have HOB := Lib.hid ho
        have HBW := Lib.hid hbw
        clear ho hbw
        go_wp2
        exact ⟨⟨i + 1, by omega, by go_num, HOB.out, hfr2, HBW.out⟩, by simp [intOf]; omega⟩
     ·obtain rfl : i = a := by omega
      have p1 : ¬ (i : Int) < (i : Int) := by omega
      have hl1 := allB_le D two i i
      have hqb := allB_QS (two := two) (n := i) HQD.out i
      obtain ⟨L, hL⟩ : ∃ L, allB D two i i = L := ⟨_, rfl⟩
      rw [hL] at ho hl1 hqb HMB
      obtain ⟨A7, c7, hv, -⟩ := OwnW.form ho
      subst hv
      obtain ⟨n7, hn7⟩ : ∃ n7, L.length = n7 := ⟨_, rfl⟩
      have hn70 : 0 < n7 := by
       have := List.length_pos_iff.2 HMB.out.1
       omega
      have hn71 : n7 ≤ 1000 := by
       have := Nat.mul_le_mul hm7 hm7
       omega
      have hrd := OwnQ.reads_ ho
      rw [hn7] at hrd ⊢
      have hmn := fun w' (hb : Below wr.heap.size wr w') => frac_mean A7 n7 c7 wr.heap.size 47 L w' (hrd.below hb) hb.size hn71 hn70 (by omega) hqb (HT.out.next (HB4.out.trans ((HB5.out.trans ((hbw.trans (hb.mono hbw.size)).mono HB5.out.size)).mono HB4.out.size)))
      have e9 : sumQ L / ((n7 : Int) : Rat) = (joinAt 3 f (i - 2)).high := by
       rw [sumQ_sumL, Rat.intCast_natCast, ← hn7]
       exact HMB.out.2
      rw [e9] at hmn
      obtain ⟨i0, hi0⟩ : ∃ i0, nj - 1 = i0 := ⟨_, rfl⟩
      have e3 : (nj : Int) - 1 = (i0 : Int) := by omega
      have e5 : (i0 : Int) < (nj : Int) := by omega
      have hw : IntKind.i64.wrap (i0 : Int) = (i0 : Int) := IntWalk.i64_in _ (by omega)
      obtain ⟨g1, hA1⟩ := (OwnJ.addr HO5.out (by rw [HNJ3.out]; omega)).2
      subst hA1
      obtain ⟨x, hx⟩ : ∃ x, l3[i0]? = some x := ⟨_, List.getElem?_eq_getElem (by rw [HNJ3.out]; omega)⟩
      have dx : joinAt 3 f i0 = x := by
       rw [← HJ3.out.at_ i0 (by rw [HM.out]; omega), List.getD_eq_getElem?_getD, hx]; rfl
      rw [show i - 2 = i0 by omega, dx] at hmn
      have hqx := (HJ3.out.jb x (List.mem_of_getElem? hx)).high
      have hx5 := OwnJ.at_ HO5.out hx
      obtain ⟨xa, xb, xs, xq⟩ := x
      have hmn : ∀ w', Below wr.heap.size wr w' → Calls Tryz.prog 44 #[.slice A7 n7 c7] w' (Ret (.tuple #[qV xq, .bool true]) w') := hmn
      have hcm := fun w => frac_cmp xq xq w (hqx.mono (by omega)) (hqx.mono (by omega))
      have e0 : cmpQ xq xq = 0 := by unfold cmpQ; simp
      rw [e0] at hcm
      unfold qV at hcm hmn
      have HCM := Lib.hid hcm
      have HMN := Lib.hid hmn
      have HX5 := Lib.hid hx5
      have HBW := Lib.hid hbw
      have hi0 := Lib.hid hi0
      clear hcm hmn hx hx5 dx hqx e0 e9 hrd hn7 hn70 hn71 hqb hl1 hL ho hbw HMB
      go_upto_region 31 with fail
      go_cut [25, 26] (fun p e wc => e = .bool true ∧ ∃ g25, p = .pointer (some ⟨g25, 0, none⟩) ∧ Blk wc g25 56 #[.bool (decide (xq.num < 0)), .int .u64 (lo xq.num.natAbs : Int), .string (mo xq.num.natAbs), .int .u64 (lo ((qden xq)) : Int), .string (mo ((qden xq)))] ∧ Below wr.heap.size wr wc)
      case first =>
       go_wp2_with fail
       refine (HMN.out _ (Below.refl _ _)).mono ?_
       rintro e w6 ⟨rfl, hb6⟩
       have HB6 := Lib.hid (bthen hb6 (balloc1 w6 (.cells #[.bool (decide (xq.num < 0)), .int .u64 (lo xq.num.natAbs : Int), .string (mo xq.num.natAbs), .int .u64 (lo ((qden xq)) : Int), .string (mo ((qden xq)))] 56)))
       clear hb6
       go_wp2
       go_meet
       exact ⟨rfl, w6.heap.size, rfl, Blk.new w6 56 #[.bool (decide (xq.num < 0)), .int .u64 (lo xq.num.natAbs : Int), .string (mo xq.num.natAbs), .int .u64 (lo ((qden xq)) : Int), .string (mo ((qden xq)))], HB6.out⟩
      case rest =>
      obtain ⟨rfl, g25, rfl, b0, hb6⟩ := hcut
      rename World => w6
      have HB6 := Lib.hid (HBW.out.trans (hb6.mono HBW.out.size))
      have b1 := HX5.out.below HB6.out HX5.out.lt
      have HK2 : Hid (∀ w', Below w6.heap.size w6 w' → Calls Tryz.prog 18 #[] w' (Ret (.bool true) w')) := Lib.hid fun w' hb => HKN.out w' (HB5.out.trans ((HB6.out.trans (hb.mono HB6.out.size)).mono HB5.out.size))
      have HBQ := Lib.hid (HB4.out.trans ((HB5.out.trans (HB6.out.mono HB5.out.size)).mono HB4.out.size))
      clear hb6 HKN HMN HX5 HBW
      go_upto_region 32 with fail
      go_cut [8] (fun v wc => v = .bool true ∧ Below w6.heap.size w6 wc)
      case first =>
       obtain ⟨b0q0, b0q1, b0q2, b0q3, b0q4⟩ := b0.c5; have c0 := b0.drew; have c0l := c0.lt; obtain ⟨b1q0, b1q1, b1q2, b1q3, b1q4, b1q5, b1q6, b1q7⟩ := b1.c8; have c1 := b1.drew; have c1l := c1.lt; have hc := bdrew0 w6; go_region_held3 (fun w' => w'.cell? ⟨g25, 0, none⟩ = some (.bool (decide (xq.num < 0))) ∧ w'.cell? ⟨g25, 1, none⟩ = some (.int .u64 (lo xq.num.natAbs : Int)) ∧ w'.cell? ⟨g25, 2, none⟩ = some (.string (mo xq.num.natAbs)) ∧ w'.cell? ⟨g25, 3, none⟩ = some (.int .u64 (lo ((qden xq)) : Int)) ∧ w'.cell? ⟨g25, 4, none⟩ = some (.string (mo ((qden xq)))) ∧ w'.cell? ⟨g1, i0 * 8, none⟩ = some (.int .i64 xa) ∧ w'.cell? ⟨g1, i0 * 8 + 1, none⟩ = some (.int .i64 xb) ∧ w'.cell? ⟨g1, i0 * 8 + 2, none⟩ = some (.int .i64 xs) ∧ w'.cell? ⟨g1, i0 * 8 + 3, none⟩ = some (.bool (decide (xq.num < 0))) ∧ w'.cell? ⟨g1, i0 * 8 + 4, none⟩ = some (.int .u64 (lo xq.num.natAbs : Int)) ∧ w'.cell? ⟨g1, i0 * 8 + 5, none⟩ = some (.string (mo xq.num.natAbs)) ∧ w'.cell? ⟨g1, i0 * 8 + 6, none⟩ = some (.int .u64 (lo (qden xq) : Int)) ∧ w'.cell? ⟨g1, i0 * 8 + 7, none⟩ = some (.string (mo (qden xq)))) (go_keep) (first | (go_at_call 18; (with_reducible refine (HK2.out _ hc).mono ?_); rintro e w1 ⟨rfl, hw1⟩; have c0 := c0.below hw1 c0.lt; (try clear c0q0 c0q1 c0q2 c0q3 c0q4); obtain ⟨c0q0, c0q1, c0q2, c0q3, c0q4⟩ := c0.c5; (try clear c0l); have c0l := c0.lt; have c1 := c1.below hw1 c1.lt; (try clear c1q0 c1q1 c1q2 c1q3 c1q4 c1q5 c1q6 c1q7); obtain ⟨c1q0, c1q1, c1q2, c1q3, c1q4, c1q5, c1q6, c1q7⟩ := c1.c8; (try clear c1l); have c1l := c1.lt; have hc := bthen hc hw1) | (go_at_call 29; (with_reducible refine (HCM.out _).mono ?_); rintro e w2 ⟨rfl, hw2⟩; have c0 := c0.below hw2 c0.lt; (try clear c0q0 c0q1 c0q2 c0q3 c0q4); obtain ⟨c0q0, c0q1, c0q2, c0q3, c0q4⟩ := c0.c5; (try clear c0l); have c0l := c0.lt; have c1 := c1.below hw2 c1.lt; (try clear c1q0 c1q1 c1q2 c1q3 c1q4 c1q5 c1q6 c1q7); obtain ⟨c1q0, c1q1, c1q2, c1q3, c1q4, c1q5, c1q6, c1q7⟩ := c1.c8; (try clear c1l); have c1l := c1.lt; have hc := bthen hc hw2))
       all_goals
        go_wp2
        go_meet
        exact ⟨rfl, hc⟩
      case rest =>
      obtain ⟨rfl, hbd⟩ := hcut
      have HBD := Lib.hid (HBQ.out.trans (hbd.mono HBQ.out.size))
      clear hbd b0 b1
      go_wp2
      go_returns
      exact ⟨rfl, HBD.out⟩
end Go.Proofs.YtecnjlcfoobepaaGreatDoor
