import Derived.Test.YtecnjlcfoobepaaGreatDoorFracBase
import Derived.Test.YtecnjlcfoobepaaGreatDoorGcdE
import Derived.Test.YtecnjlcfoobepaaGreatDoorMem
namespace Go.Proofs.YtecnjlcfoobepaaGreatDoor
set_option maxRecDepth 100000
set_option maxHeartbeats 1000000
open Go.RowKit
set_option linter.unusedSimpArgs false
set_option linter.unusedVariables false
theorem frac_lowest (n : Int) (d : Nat) (w : World) (hn : blen n.natAbs <= 549755813888) (hd : blen d <= 549755813888) (hd0 : d ≠ 0) (hT : Tab w) :
  Calls Tryz.prog 109 #[intV n, natV d] w (Ret (qV (mkRat n d)) w) := by
 have hfr := fun w => whole_from false d w (by omega)
 have e : signed false d = (d : Int) := rfl
 rw [e] at hfr
 clear e
 have hgc := fun w (hT : Tab w) => whole_gcd n d w hn (by rw [Int.natAbs_natCast]; exact hd) hT
 rw [Int.natAbs_natCast] at hgc
 have hG1 := Nat.gcd_dvd_left n.natAbs d
 have hG2 := Nat.gcd_dvd_right n.natAbs d
 have hG0 : Nat.gcd n.natAbs d ≠ 0 := fun h => hd0 (Nat.gcd_eq_zero_iff.1 h).2
 have hq1 : (mkRat n d).num = n / (Nat.gcd n.natAbs d : Nat) := by rw [Rat.num_mkRat, if_neg hd0, Nat.gcd_comm]
 have hq2 : (mkRat n d).den = d / Nat.gcd n.natAbs d := by rw [Rat.den_mkRat, if_neg hd0, Nat.gcd_comm]
 have hqs : QS 1099511627776 (mkRat n d) := ⟨by rw [hq1]; exact nt (blen_ediv hG1) (by omega), by rw [hq2]; exact nt (blen_div _ _) (by omega)⟩
 have hGb : blen (Nat.gcd n.natAbs d) <= 549755813888 := nt (blen_mono (Nat.le_of_dvd (by omega) hG2)) hd
 generalize Nat.gcd n.natAbs d = G at *
 generalize mkRat n d = q at *
 have hpa := fun w => frac_part n G w (by omega) (by omega) hG0 hG1
 have hov := fun w => frac_over d G w (by omega) (by omega) hG0
 have hpk := fun w => frac_pack q w hqs
 rw [<- hq1] at hpa
 rw [<- hq2] at hov
 clear hq1 hq2 hG1 hG2 hG0 hqs
 unfold natV at hfr hgc hpa hov hpk ⊢
 unfold intV at hfr hgc hpa hpk ⊢
 unfold qV at hpk ⊢
 rw [Int.natAbs_natCast] at hfr hgc
 generalize decide (n < 0) = ng at *
 generalize decide (q.num < 0) = nq at *
 generalize decide ((d : Int) < 0) = nd at *
 have HFR := lh hfr
 have HGC := lh hgc
 have HPA := lh hpa
 have HOV := lh hov
 have HPK := lh hpk
 clear hfr hgc hpa hov hpk
 have b0 := ((Blk.new w  54 #[.bool ng, .int .u64 (lo n.natAbs : Int), .string (mo n.natAbs)]).alloc (.cells #[.int .u64 (lo d : Int), .string (mo d)] 52)).alloc (.cells #[.bool false, .int .u64 0, .string ⟨#[]⟩, .int .u64 0, .string ⟨#[]⟩] 56); have b1 := (Blk.new2 w (.cells #[.bool ng, .int .u64 (lo n.natAbs : Int), .string (mo n.natAbs)] 54) 52 #[.int .u64 (lo d : Int), .string (mo d)]).alloc (.cells #[.bool false, .int .u64 0, .string ⟨#[]⟩, .int .u64 0, .string ⟨#[]⟩] 56); have b2 := Blk.new3 w (.cells #[.bool ng, .int .u64 (lo n.natAbs : Int), .string (mo n.natAbs)] 54) (.cells #[.int .u64 (lo d : Int), .string (mo d)] 52) 56 #[.bool false, .int .u64 0, .string ⟨#[]⟩, .int .u64 0, .string ⟨#[]⟩]; have hB := balloc3 w (.cells #[.bool ng, .int .u64 (lo n.natAbs : Int), .string (mo n.natAbs)] 54) (.cells #[.int .u64 (lo d : Int), .string (mo d)] 52) (.cells #[.bool false, .int .u64 0, .string ⟨#[]⟩, .int .u64 0, .string ⟨#[]⟩] 56); have hZ := lh (show (((w.alloc (.cells #[.bool ng, .int .u64 (lo n.natAbs : Int), .string (mo n.natAbs)] 54)).alloc (.cells #[.int .u64 (lo d : Int), .string (mo d)] 52)).alloc (.cells #[.bool false, .int .u64 0, .string ⟨#[]⟩, .int .u64 0, .string ⟨#[]⟩] 56)).heap.size = w.heap.size + 1 + 1 + 1 from by simp)
 have tT := hT.next hB
 go_enter Tryz.func109, Tryz.ntmps109
 go_upto_region 1 with fail
 generalize (((w.alloc (.cells #[.bool ng, .int .u64 (lo n.natAbs : Int), .string (mo n.natAbs)] 54)).alloc (.cells #[.int .u64 (lo d : Int), .string (mo d)] 52)).alloc (.cells #[.bool false, .int .u64 0, .string ⟨#[]⟩, .int .u64 0, .string ⟨#[]⟩] 56)) = W at *
 go_cut [5] (fun v5 wc => Born W 52 #[.int .u64 (lo G : Int), .string (mo G)] v5 wc)
 case first =>
  obtain ⟨b0q0, b0q1, b0q2⟩ := b0.c3; have c0z := b0.lt; have c0 := b0.drew; have c0l := c0.lt; obtain ⟨b1q0, b1q1⟩ := b1.c2; have c1z := b1.lt; have c1 := b1.drew; have c1l := c1.lt; have hc := bdrew0 W; have tT : Tab W.drew := tT; go_region_held3 (fun w' => w'.cell? ⟨w.heap.size, 0, none⟩ = some (.bool ng) /\ w'.cell? ⟨w.heap.size, 1, none⟩ = some (.int .u64 (lo n.natAbs : Int)) /\ w'.cell? ⟨w.heap.size, 2, none⟩ = some (.string (mo n.natAbs)) /\ w'.cell? ⟨w.heap.size + 1, 0, none⟩ = some (.int .u64 (lo d : Int)) /\ w'.cell? ⟨w.heap.size + 1, 1, none⟩ = some (.string (mo d))) (go_keep) (first | (go_at_call 74; refine (HFR.out _).mono ?_; rintro e w1 ⟨rfl, hw1⟩; (first | have c0 := c0.ya hw1 | have c0 := c0.yb hw1 | have c0 := c0.yc hw1); (try clear c0q0 c0q1 c0q2); obtain ⟨c0q0, c0q1, c0q2⟩ := c0.c3; (try clear c0l); have c0l := c0.lt; (first | have c1 := c1.ya hw1 | have c1 := c1.yb hw1 | have c1 := c1.yc hw1); (try clear c1q0 c1q1); obtain ⟨c1q0, c1q1⟩ := c1.c2; (try clear c1l); have c1l := c1.lt; (try (first | have ca := ca.below hw1 ca.lt | have ca := (ca.alloc _).below hw1 (ca.alloc _).lt)); (first | have tT := tT.next hw1 | have tT := (tT.next (balloc1 _ _)).next hw1 | have tT := (tT.next (balloc2 _ _ _)).next hw1); (first | have hc := bthen hc hw1 | (have hb1 := born1d hc hw1; obtain ⟨ca, hga, hc⟩ := hb1) | (have hb1 := born1 hc hw1; obtain ⟨ca, hga, hc⟩ := hb1)); (try have c0na := nelt c0z hga); (try have c1na := nelt c1z hga)) | (go_at_call 79; (first | refine (HGC.out _ tT).mono ?_ | refine (HGC.out _ (tT.next (balloc1 _ _))).mono ?_ | refine (HGC.out _ (tT.next (balloc2 _ _ _))).mono ?_); rintro e w2 ⟨rfl, hw2⟩; (first | have c0 := c0.ya hw2 | have c0 := c0.yb hw2 | have c0 := c0.yc hw2); (try clear c0q0 c0q1 c0q2); obtain ⟨c0q0, c0q1, c0q2⟩ := c0.c3; (try clear c0l); have c0l := c0.lt; (first | have c1 := c1.ya hw2 | have c1 := c1.yb hw2 | have c1 := c1.yc hw2); (try clear c1q0 c1q1); obtain ⟨c1q0, c1q1⟩ := c1.c2; (try clear c1l); have c1l := c1.lt; (try (first | have ca := ca.below hw2 ca.lt | have ca := (ca.alloc _).below hw2 (ca.alloc _).lt)); (first | have hc := bthen hc hw2 | (have hb1 := born1d hc hw2; obtain ⟨ca, hga, hc⟩ := hb1) | (have hb1 := born1 hc hw2; obtain ⟨ca, hga, hc⟩ := hb1)); (try have c0na := nelt c0z hga); (try have c1na := nelt c1z hga); (try (have cal := ca.lt; obtain ⟨caq0, caq1, caf0, caf1, cas0, cas1⟩ := ca.f2))))
  all_goals
   go_wp2
   go_meet
   (first | exact one2 hc ca hga | exact one2 (bthen hc (balloc1 _ _)) (Blk.new _ _ _) hc.size | exact ⟨_, rfl, hc.size, Blk.new _ _ _, bthen hc (balloc1 _ _)⟩)
 case rest =>
  obtain ⟨g, rfl, hWg, b5, hbc⟩ := hcut
  clear HFR HGC
  have hzW : W.heap.size = w.heap.size + 1 + 1 + 1 := hZ.out
  have b0 := b0.below hbc b0.lt
  have b1 := b1.below hbc b1.lt
  have b2 := b2.below hbc b2.lt
  have hB1 := bthen hB hbc
  have ne0 : ¬ g = w.heap.size + 1 + 1 := by omega
  have ne1 : ¬ w.heap.size + 1 + 1 = g := by omega
  have ne2 : ¬ w.heap.size = w.heap.size + 1 + 1 := by omega
  have ne3 : ¬ w.heap.size + 1 + 1 = w.heap.size := by omega
  have ne4 : ¬ w.heap.size + 1 = w.heap.size + 1 + 1 := by omega
  have ne5 : ¬ w.heap.size + 1 + 1 = w.heap.size + 1 := by omega
  clear hbc hB hzW hZ tT hT
  rename_i wc
  go_wp2_with fail
  obtain ⟨b0q0, b0q1, b0q2⟩ := b0.c3; have c0z := b0.lt; have c0 := b0.drew; have c0l := c0.lt; obtain ⟨b1q0, b1q1⟩ := b1.c2; have c1z := b1.lt; have c1 := b1.drew; have c1l := c1.lt; obtain ⟨b5q0, b5q1⟩ := b5.c2; have c5z := b5.lt; have c5 := b5.drew; have c5l := c5.lt; have c2 := b2.drew; have c2l := c2.lt; have hc := bdrew0 wc; go_region_held3 (fun w' => w'.cell? ⟨w.heap.size, 0, none⟩ = some (.bool ng) /\ w'.cell? ⟨w.heap.size, 1, none⟩ = some (.int .u64 (lo n.natAbs : Int)) /\ w'.cell? ⟨w.heap.size, 2, none⟩ = some (.string (mo n.natAbs)) /\ w'.cell? ⟨w.heap.size + 1, 0, none⟩ = some (.int .u64 (lo d : Int)) /\ w'.cell? ⟨w.heap.size + 1, 1, none⟩ = some (.string (mo d)) /\ w'.cell? ⟨g, 0, none⟩ = some (.int .u64 (lo G : Int)) /\ w'.cell? ⟨g, 1, none⟩ = some (.string (mo G))) (go_keep) (first | (go_at_call 81; refine (HPA.out _).mono ?_; rintro e w1 ⟨rfl, hw1⟩; (first | have c0 := c0.ya hw1 | have c0 := c0.yb hw1 | have c0 := c0.yc hw1); (try clear c0q0 c0q1 c0q2); obtain ⟨c0q0, c0q1, c0q2⟩ := c0.c3; (try clear c0l); have c0l := c0.lt; (first | have c1 := c1.ya hw1 | have c1 := c1.yb hw1 | have c1 := c1.yc hw1); (try clear c1q0 c1q1); obtain ⟨c1q0, c1q1⟩ := c1.c2; (try clear c1l); have c1l := c1.lt; (first | have c5 := c5.ya hw1 | have c5 := c5.yb hw1 | have c5 := c5.yc hw1); (try clear c5q0 c5q1); obtain ⟨c5q0, c5q1⟩ := c5.c2; (try clear c5l); have c5l := c5.lt; (first | have c2 := c2.ya hw1 | have c2 := c2.yb hw1 | have c2 := c2.yc hw1); (try clear c2l); have c2l := c2.lt; have hc := bthen hc hw1) | (go_at_call 82; refine (HOV.out _).mono ?_; rintro e w2 ⟨rfl, hw2⟩; (first | have c0 := c0.ya hw2 | have c0 := c0.yb hw2 | have c0 := c0.yc hw2); (try clear c0q0 c0q1 c0q2); obtain ⟨c0q0, c0q1, c0q2⟩ := c0.c3; (try clear c0l); have c0l := c0.lt; (first | have c1 := c1.ya hw2 | have c1 := c1.yb hw2 | have c1 := c1.yc hw2); (try clear c1q0 c1q1); obtain ⟨c1q0, c1q1⟩ := c1.c2; (try clear c1l); have c1l := c1.lt; (first | have c5 := c5.ya hw2 | have c5 := c5.yb hw2 | have c5 := c5.yc hw2); (try clear c5q0 c5q1); obtain ⟨c5q0, c5q1⟩ := c5.c2; (try clear c5l); have c5l := c5.lt; (first | have c2 := c2.ya hw2 | have c2 := c2.yb hw2 | have c2 := c2.yc hw2); (try clear c2l); have c2l := c2.lt; have hc := bthen hc hw2) | (go_at_call 80; refine (HPK.out _).mono ?_; rintro e w3 ⟨rfl, hw3⟩; (first | have c0 := c0.ya hw3 | have c0 := c0.yb hw3 | have c0 := c0.yc hw3); (try clear c0q0 c0q1 c0q2); obtain ⟨c0q0, c0q1, c0q2⟩ := c0.c3; (try clear c0l); have c0l := c0.lt; (first | have c1 := c1.ya hw3 | have c1 := c1.yb hw3 | have c1 := c1.yc hw3); (try clear c1q0 c1q1); obtain ⟨c1q0, c1q1⟩ := c1.c2; (try clear c1l); have c1l := c1.lt; (first | have c5 := c5.ya hw3 | have c5 := c5.yb hw3 | have c5 := c5.yc hw3); (try clear c5q0 c5q1); obtain ⟨c5q0, c5q1⟩ := c5.c2; (try clear c5l); have c5l := c5.lt; (first | have c2 := c2.ya hw3 | have c2 := c2.yb hw3 | have c2 := c2.yc hw3); (try clear c2l); have c2l := c2.lt; have hc := bthen hc hw3; obtain ⟨c2q0, c2q1, c2q2, c2q3, c2q4, c2f0, c2f1, c2f2, c2f3, c2f4, c2s0, c2s1, c2s2, c2s3, c2s4⟩ := c2.f5))
  all_goals
   go_wp2
   refine bodyPost_ret (v := .agg #[.bool nq, .int .u64 (lo q.num.natAbs : Int), .string (mo q.num.natAbs), .int .u64 (lo (qden q) : Int), .string (mo (qden q))]) (by simp [results, Tryz.results109, go_sem, c2s0, c2s1, c2s2, c2s3, c2s4]) rfl ?_
   exact ⟨rfl, bset5 (bthen hB1 hc) (by omega) _ _ _ _ _⟩
theorem divInt_neg (n d : Int) (h : d < 0) : Rat.divInt n d = mkRat (-n) d.natAbs := by
 cases d with
 | ofNat d => exact absurd h (by simp)
 | negSucc d =>
  show Rat.normalize (-n) (d + 1) (Nat.succ_ne_zero d) = _
  rw [Rat.normalize_eq_mkRat]
  rfl
theorem divInt_pos (n d : Int) (h : 0 <= d) : Rat.divInt n d = mkRat n d.natAbs := by
 cases d with
 | ofNat d => rfl
 | negSucc d => exact absurd h (by simp)
theorem frac_make0 (n : Int) (w : World) : Calls Tryz.prog 72 #[intV n, intV 0] w (Ret (.tuple #[qV 0, .bool false]) w) := by
 have hs := lh (fun w => whole_sign 0 w (by decide))
 have e : qV 0 = .agg #[.bool false, .int .u64 0, .string ⟨#[]⟩, .int .u64 0, .string ⟨#[]⟩] := rfl
 rw [e]
 clear e
 unfold intV at hs ⊢
 generalize decide (n < 0) = ng at *
 obtain ⟨nd, hnd⟩ : ∃ nd, decide ((0 : Int) < 0) = nd := ⟨_, rfl⟩
 rw [hnd] at hs ⊢
 clear hnd
 have es : Int.sign 0 = 0 := rfl
 rw [es] at hs
 clear es
 generalize Int.natAbs 0 = d at *
 generalize n.natAbs = a at *
 have b0 := ((Blk.new w  54 #[.bool ng, .int .u64 (lo a : Int), .string (mo a)]).alloc (.cells #[.bool nd, .int .u64 (lo d : Int), .string (mo d)] 54)).alloc (.cells #[.bool false, .int .u64 0, .string ⟨#[]⟩, .int .u64 0, .string ⟨#[]⟩] 56); have b1 := (Blk.new2 w (.cells #[.bool ng, .int .u64 (lo a : Int), .string (mo a)] 54) 54 #[.bool nd, .int .u64 (lo d : Int), .string (mo d)]).alloc (.cells #[.bool false, .int .u64 0, .string ⟨#[]⟩, .int .u64 0, .string ⟨#[]⟩] 56); have b2 := Blk.new3 w (.cells #[.bool ng, .int .u64 (lo a : Int), .string (mo a)] 54) (.cells #[.bool nd, .int .u64 (lo d : Int), .string (mo d)] 54) 56 #[.bool false, .int .u64 0, .string ⟨#[]⟩, .int .u64 0, .string ⟨#[]⟩]; have hB := balloc3 w (.cells #[.bool ng, .int .u64 (lo a : Int), .string (mo a)] 54) (.cells #[.bool nd, .int .u64 (lo d : Int), .string (mo d)] 54) (.cells #[.bool false, .int .u64 0, .string ⟨#[]⟩, .int .u64 0, .string ⟨#[]⟩] 56); have hZ := lh (show (((w.alloc (.cells #[.bool ng, .int .u64 (lo a : Int), .string (mo a)] 54)).alloc (.cells #[.bool nd, .int .u64 (lo d : Int), .string (mo d)] 54)).alloc (.cells #[.bool false, .int .u64 0, .string ⟨#[]⟩, .int .u64 0, .string ⟨#[]⟩] 56)).heap.size = w.heap.size + 1 + 1 + 1 from by simp)
 go_enter Tryz.func72, Tryz.ntmps72
 go_wp2_with fail
 generalize (((w.alloc (.cells #[.bool ng, .int .u64 (lo a : Int), .string (mo a)] 54)).alloc (.cells #[.bool nd, .int .u64 (lo d : Int), .string (mo d)] 54)).alloc (.cells #[.bool false, .int .u64 0, .string ⟨#[]⟩, .int .u64 0, .string ⟨#[]⟩] 56)) = W at *
 refine (hs.out _).mono ?_
 rintro e w1 ⟨rfl, hb1⟩
 have hB1 := bthen hB hb1
 (try clear b2q0 b2q1 b2q2 b2q3 b2q4 b2f0 b2f1 b2f2 b2f3 b2f4 b2s0 b2s1 b2s2 b2s3 b2s4); have b2 := b2.below hb1 b2.lt; obtain ⟨b2q0, b2q1, b2q2, b2q3, b2q4, b2f0, b2f1, b2f2, b2f3, b2f4, b2s0, b2s1, b2s2, b2s3, b2s4⟩ := b2.f5
 go_wp2
 refine bodyPost_ret (v := .tuple #[.agg #[.bool false, .int .u64 0, .string ⟨#[]⟩, .int .u64 0, .string ⟨#[]⟩], .bool false]) (by simp [results, Tryz.results72, go_sem, b2s0, b2s1, b2s2, b2s3, b2s4]) rfl ?_
 exact ⟨rfl, bset5 hB1 (by omega) _ _ _ _ _⟩
theorem frac_makeP (n d : Int) (w : World) (hn : blen n.natAbs <= 549755813888) (hd : blen d.natAbs <= 549755813888) (hd0 : 0 < d) (hT : Tab w) :
  Calls Tryz.prog 72 #[intV n, intV d] w (Ret (.tuple #[qV (mkRat n d.natAbs), .bool true]) w) := by
 have hs := fun w => whole_sign d w (by omega)
 rw [Int.sign_eq_one_of_pos hd0] at hs
 have hab := fun w => whole_abs d w
 have hlo := fun w (hT : Tab w) => frac_lowest n d.natAbs w hn hd (by omega) hT
 generalize mkRat n d.natAbs = q at *
 unfold natV at hab hlo
 unfold intV at hs hab hlo ⊢
 unfold qV at hlo ⊢
 generalize decide (n < 0) = ng at *
 generalize decide (q.num < 0) = nq at *
 generalize decide (d < 0) = nd at *
 clear hn hd hd0
 generalize d.natAbs = b at *
 generalize n.natAbs = a at *
 have HS := lh hs
 have HAB := lh hab
 have HLO := lh hlo
 clear hs hab hlo
 have b0 := ((Blk.new w  54 #[.bool ng, .int .u64 (lo a : Int), .string (mo a)]).alloc (.cells #[.bool nd, .int .u64 (lo b : Int), .string (mo b)] 54)).alloc (.cells #[.bool false, .int .u64 0, .string ⟨#[]⟩, .int .u64 0, .string ⟨#[]⟩] 56); have b1 := (Blk.new2 w (.cells #[.bool ng, .int .u64 (lo a : Int), .string (mo a)] 54) 54 #[.bool nd, .int .u64 (lo b : Int), .string (mo b)]).alloc (.cells #[.bool false, .int .u64 0, .string ⟨#[]⟩, .int .u64 0, .string ⟨#[]⟩] 56); have b2 := Blk.new3 w (.cells #[.bool ng, .int .u64 (lo a : Int), .string (mo a)] 54) (.cells #[.bool nd, .int .u64 (lo b : Int), .string (mo b)] 54) 56 #[.bool false, .int .u64 0, .string ⟨#[]⟩, .int .u64 0, .string ⟨#[]⟩]; have hB := balloc3 w (.cells #[.bool ng, .int .u64 (lo a : Int), .string (mo a)] 54) (.cells #[.bool nd, .int .u64 (lo b : Int), .string (mo b)] 54) (.cells #[.bool false, .int .u64 0, .string ⟨#[]⟩, .int .u64 0, .string ⟨#[]⟩] 56); have hZ := lh (show (((w.alloc (.cells #[.bool ng, .int .u64 (lo a : Int), .string (mo a)] 54)).alloc (.cells #[.bool nd, .int .u64 (lo b : Int), .string (mo b)] 54)).alloc (.cells #[.bool false, .int .u64 0, .string ⟨#[]⟩, .int .u64 0, .string ⟨#[]⟩] 56)).heap.size = w.heap.size + 1 + 1 + 1 from by simp)
 have tT := hT.next hB
 go_enter Tryz.func72, Tryz.ntmps72
 go_wp2_with fail
 generalize (((w.alloc (.cells #[.bool ng, .int .u64 (lo a : Int), .string (mo a)] 54)).alloc (.cells #[.bool nd, .int .u64 (lo b : Int), .string (mo b)] 54)).alloc (.cells #[.bool false, .int .u64 0, .string ⟨#[]⟩, .int .u64 0, .string ⟨#[]⟩] 56)) = W at *
 refine (HS.out _).mono ?_
 rintro e w1 ⟨rfl, hb1⟩
 have hB1 := bthen hB hb1
 (try clear b0q0 b0q1 b0q2); have b0 := b0.below hb1 b0.lt; obtain ⟨b0q0, b0q1, b0q2⟩ := b0.c3; (try clear b1q0 b1q1 b1q2); have b1 := b1.below hb1 b1.lt; obtain ⟨b1q0, b1q1, b1q2⟩ := b1.c3
 have b2 := b2.below hb1 b2.lt
 have tT := tT.next hb1
 clear hb1 hB hT
 go_wp2_with fail
 refine (HS.out _).mono ?_
 rintro e w2 ⟨rfl, hb2⟩
 have hB2 := bthen hB1 hb2
 have b0 := b0.below hb2 b0.lt
 have b1 := b1.below hb2 b1.lt
 have b2 := b2.below hb2 b2.lt
 have tT := tT.next hb2
 clear hb2 hB1 HS
 have ne2 : ¬ w.heap.size = w.heap.size + 1 + 1 := by omega
 have ne3 : ¬ w.heap.size + 1 + 1 = w.heap.size := by omega
 have ne4 : ¬ w.heap.size + 1 = w.heap.size + 1 + 1 := by omega
 have ne5 : ¬ w.heap.size + 1 + 1 = w.heap.size + 1 := by omega
 go_wp2_with fail
 obtain ⟨b0q0, b0q1, b0q2⟩ := b0.c3; have c0z := b0.lt; have c0 := b0.drew; have c0l := c0.lt; obtain ⟨b1q0, b1q1, b1q2⟩ := b1.c3; have c1z := b1.lt; have c1 := b1.drew; have c1l := c1.lt; have c2 := b2.drew; have c2l := c2.lt; have hc := bdrew0 w2; have tT : Tab w2.drew := tT; go_region_held3 (fun w' => w'.cell? ⟨w.heap.size, 0, none⟩ = some (.bool ng) /\ w'.cell? ⟨w.heap.size, 1, none⟩ = some (.int .u64 (lo a : Int)) /\ w'.cell? ⟨w.heap.size, 2, none⟩ = some (.string (mo a)) /\ w'.cell? ⟨w.heap.size + 1, 0, none⟩ = some (.bool nd) /\ w'.cell? ⟨w.heap.size + 1, 1, none⟩ = some (.int .u64 (lo b : Int)) /\ w'.cell? ⟨w.heap.size + 1, 2, none⟩ = some (.string (mo b))) (go_keep) (first | (go_at_call 110; refine (HAB.out _).mono ?_; rintro e w1 ⟨rfl, hw1⟩; (first | have c0 := c0.ya hw1 | have c0 := c0.yb hw1 | have c0 := c0.yc hw1); (try clear c0q0 c0q1 c0q2); obtain ⟨c0q0, c0q1, c0q2⟩ := c0.c3; (try clear c0l); have c0l := c0.lt; (first | have c1 := c1.ya hw1 | have c1 := c1.yb hw1 | have c1 := c1.yc hw1); (try clear c1q0 c1q1 c1q2); obtain ⟨c1q0, c1q1, c1q2⟩ := c1.c3; (try clear c1l); have c1l := c1.lt; (first | have c2 := c2.ya hw1 | have c2 := c2.yb hw1 | have c2 := c2.yc hw1); (try clear c2l); have c2l := c2.lt; (first | have tT := tT.next hw1 | have tT := (tT.next (balloc1 _ _)).next hw1 | have tT := (tT.next (balloc2 _ _ _)).next hw1); have hc := bthen hc hw1) | (go_at_call 109; (first | refine (HLO.out _ tT).mono ?_ | refine (HLO.out _ (tT.next (balloc1 _ _))).mono ?_ | refine (HLO.out _ (tT.next (balloc2 _ _ _))).mono ?_); rintro e w2 ⟨rfl, hw2⟩; (first | have c0 := c0.ya hw2 | have c0 := c0.yb hw2 | have c0 := c0.yc hw2); (try clear c0q0 c0q1 c0q2); obtain ⟨c0q0, c0q1, c0q2⟩ := c0.c3; (try clear c0l); have c0l := c0.lt; (first | have c1 := c1.ya hw2 | have c1 := c1.yb hw2 | have c1 := c1.yc hw2); (try clear c1q0 c1q1 c1q2); obtain ⟨c1q0, c1q1, c1q2⟩ := c1.c3; (try clear c1l); have c1l := c1.lt; (first | have c2 := c2.ya hw2 | have c2 := c2.yb hw2 | have c2 := c2.yc hw2); (try clear c2l); have c2l := c2.lt; have hc := bthen hc hw2; obtain ⟨c2q0, c2q1, c2q2, c2q3, c2q4, c2f0, c2f1, c2f2, c2f3, c2f4, c2s0, c2s1, c2s2, c2s3, c2s4⟩ := c2.f5))
 all_goals
  go_wp2
  refine bodyPost_ret (v := .tuple #[.agg #[.bool nq, .int .u64 (lo q.num.natAbs : Int), .string (mo q.num.natAbs), .int .u64 (lo (qden q) : Int), .string (mo (qden q))], .bool true]) (by simp [results, Tryz.results72, go_sem, c2s0, c2s1, c2s2, c2s3, c2s4]) rfl ?_
  exact ⟨rfl, bset5 (bthen hB2 hc) (by omega) _ _ _ _ _⟩
theorem frac_makeN (n d : Int) (w : World) (hn : blen n.natAbs <= 549755813888) (hd : blen d.natAbs <= 549755813888) (hd0 : d < 0) (hT : Tab w) :
  Calls Tryz.prog 72 #[intV n, intV d] w (Ret (.tuple #[qV (mkRat (-n) d.natAbs), .bool true]) w) := by
 have hs := fun w => whole_sign d w (by omega)
 rw [Int.sign_eq_neg_one_of_neg hd0] at hs
 have hab := fun w => whole_abs d w
 have hng := fun w => whole_neg n w (by omega)
 have hlo := fun w (hT : Tab w) => frac_lowest (-n) d.natAbs w (by rw [Int.natAbs_neg]; exact hn) hd (by omega) hT
 generalize mkRat (-n) d.natAbs = q at *
 unfold natV at hab hlo
 unfold intV at hs hab hlo hng ⊢
 unfold qV at hlo ⊢
 rw [Int.natAbs_neg] at hlo hng
 generalize decide (n < 0) = ng at *
 generalize decide (-n < 0) = nm at *
 generalize decide (q.num < 0) = nq at *
 generalize decide (d < 0) = nd at *
 clear hn hd hd0
 generalize d.natAbs = b at *
 generalize n.natAbs = a at *
 have HS := lh hs
 have HAB := lh hab
 have HLO := lh hlo
 have HNG := lh hng
 clear hs hab hlo hng
 have b0 := ((Blk.new w  54 #[.bool ng, .int .u64 (lo a : Int), .string (mo a)]).alloc (.cells #[.bool nd, .int .u64 (lo b : Int), .string (mo b)] 54)).alloc (.cells #[.bool false, .int .u64 0, .string ⟨#[]⟩, .int .u64 0, .string ⟨#[]⟩] 56); have b1 := (Blk.new2 w (.cells #[.bool ng, .int .u64 (lo a : Int), .string (mo a)] 54) 54 #[.bool nd, .int .u64 (lo b : Int), .string (mo b)]).alloc (.cells #[.bool false, .int .u64 0, .string ⟨#[]⟩, .int .u64 0, .string ⟨#[]⟩] 56); have b2 := Blk.new3 w (.cells #[.bool ng, .int .u64 (lo a : Int), .string (mo a)] 54) (.cells #[.bool nd, .int .u64 (lo b : Int), .string (mo b)] 54) 56 #[.bool false, .int .u64 0, .string ⟨#[]⟩, .int .u64 0, .string ⟨#[]⟩]; have hB := balloc3 w (.cells #[.bool ng, .int .u64 (lo a : Int), .string (mo a)] 54) (.cells #[.bool nd, .int .u64 (lo b : Int), .string (mo b)] 54) (.cells #[.bool false, .int .u64 0, .string ⟨#[]⟩, .int .u64 0, .string ⟨#[]⟩] 56); have hZ := lh (show (((w.alloc (.cells #[.bool ng, .int .u64 (lo a : Int), .string (mo a)] 54)).alloc (.cells #[.bool nd, .int .u64 (lo b : Int), .string (mo b)] 54)).alloc (.cells #[.bool false, .int .u64 0, .string ⟨#[]⟩, .int .u64 0, .string ⟨#[]⟩] 56)).heap.size = w.heap.size + 1 + 1 + 1 from by simp)
 have tT := hT.next hB
 have TW := lh hT
 go_enter Tryz.func72, Tryz.ntmps72
 go_wp2_with fail
 generalize (((w.alloc (.cells #[.bool ng, .int .u64 (lo a : Int), .string (mo a)] 54)).alloc (.cells #[.bool nd, .int .u64 (lo b : Int), .string (mo b)] 54)).alloc (.cells #[.bool false, .int .u64 0, .string ⟨#[]⟩, .int .u64 0, .string ⟨#[]⟩] 56)) = W at *
 refine (HS.out _).mono ?_
 rintro e w1 ⟨rfl, hb1⟩
 have hB1 := bthen hB hb1
 (try clear b0q0 b0q1 b0q2); have b0 := b0.below hb1 b0.lt; obtain ⟨b0q0, b0q1, b0q2⟩ := b0.c3; (try clear b1q0 b1q1 b1q2); have b1 := b1.below hb1 b1.lt; obtain ⟨b1q0, b1q1, b1q2⟩ := b1.c3
 have b2 := b2.below hb1 b2.lt
 have tT := tT.next hb1
 clear hb1 hB hT
 go_wp2_with fail
 refine (HS.out _).mono ?_
 rintro e w2 ⟨rfl, hb2⟩
 have hB2 := bthen hB1 hb2
 (try clear b0q0 b0q1 b0q2); have b0 := b0.below hb2 b0.lt; obtain ⟨b0q0, b0q1, b0q2⟩ := b0.c3
 have b1 := b1.below hb2 b1.lt
 have b2 := b2.below hb2 b2.lt
 have tT := tT.next hb2
 clear hb2 hB1 HS b1q0 b1q1 b1q2
 go_wp2_with fail
 refine (HNG.out _).mono ?_
 rintro e w3 ⟨rfl, hb3⟩
 have hB3 := bthen hB2 hb3
 (try clear b0q0 b0q1 b0q2 b0f0 b0f1 b0f2 b0s0 b0s1 b0s2); have b0 := b0.below hb3 b0.lt; obtain ⟨b0q0, b0q1, b0q2, b0f0, b0f1, b0f2, b0s0, b0s1, b0s2⟩ := b0.f3
 have b1 := b1.below hb3 b1.lt
 have b2 := b2.below hb3 b2.lt
 have tT := tT.next hb3
 have ne2 : ¬ w.heap.size = w.heap.size + 1 + 1 := by omega
 have ne3 : ¬ w.heap.size + 1 + 1 = w.heap.size := by omega
 have ne4 : ¬ w.heap.size + 1 = w.heap.size + 1 + 1 := by omega
 have ne5 : ¬ w.heap.size + 1 + 1 = w.heap.size + 1 := by omega
 have s1 := ((b0.set_ 0 (.bool nm)).set_ 1 (.int .u64 (lo a : Int))).set_ 2 (.string (mo a))
 have s2 := ((b1.far (p := ⟨w.heap.size, 0, none⟩) (by simp) (.bool nm)).far (p := ⟨w.heap.size, 1, none⟩) (by simp) (.int .u64 (lo a : Int))).far (p := ⟨w.heap.size, 2, none⟩) (by simp) (.string (mo a))
 have s3 := ((b2.far (p := ⟨w.heap.size, 0, none⟩) (by simp; omega) (.bool nm)).far (p := ⟨w.heap.size, 1, none⟩) (by simp; omega) (.int .u64 (lo a : Int))).far (p := ⟨w.heap.size, 2, none⟩) (by simp; omega) (.string (mo a))
 have s4 := bset3 (g := w.heap.size) hB3 zd (.bool nm) (.int .u64 (lo a : Int)) (.string (mo a))
 have s5 : Tab (((w3.setCell ⟨w.heap.size, 0, none⟩ (.bool nm)).setCell ⟨w.heap.size, 1, none⟩ (.int .u64 (lo a : Int))).setCell ⟨w.heap.size, 2, none⟩ (.string (mo a))) := TW.out.next s4
 simp at s1
 clear hb3 HNG b0 b1 b2 tT hB3 hB2
 have HC := lh (And.intro s1 (And.intro s2 (And.intro s3 (And.intro s4 s5))))
 clear s1 s2 s3 s4 s5
 go_wp2_with fail
 obtain ⟨b0, b1, b2, hB4, tT⟩ := HC.out
 clear HC
 generalize ((w3.setCell ⟨w.heap.size, 0, none⟩ (.bool nm)).setCell ⟨w.heap.size, 1, none⟩ (.int .u64 (lo a : Int))).setCell ⟨w.heap.size, 2, none⟩ (.string (mo a)) = w4 at *
 clear b0q0 b0q1 b0q2 b0f0 b0f1 b0f2 b0s0 b0s1 b0s2
 obtain ⟨b0q0, b0q1, b0q2⟩ := b0.c3; have c0z := b0.lt; have c0 := b0.drew; have c0l := c0.lt; obtain ⟨b1q0, b1q1, b1q2⟩ := b1.c3; have c1z := b1.lt; have c1 := b1.drew; have c1l := c1.lt; have c2 := b2.drew; have c2l := c2.lt; have hc := bdrew0 w4; have tT : Tab w4.drew := tT; go_region_held3 (fun w' => w'.cell? ⟨w.heap.size, 0, none⟩ = some (.bool nm) /\ w'.cell? ⟨w.heap.size, 1, none⟩ = some (.int .u64 (lo a : Int)) /\ w'.cell? ⟨w.heap.size, 2, none⟩ = some (.string (mo a)) /\ w'.cell? ⟨w.heap.size + 1, 0, none⟩ = some (.bool nd) /\ w'.cell? ⟨w.heap.size + 1, 1, none⟩ = some (.int .u64 (lo b : Int)) /\ w'.cell? ⟨w.heap.size + 1, 2, none⟩ = some (.string (mo b))) (go_keep) (first | (go_at_call 110; refine (HAB.out _).mono ?_; rintro e w1 ⟨rfl, hw1⟩; (first | have c0 := c0.ya hw1 | have c0 := c0.yb hw1 | have c0 := c0.yc hw1); (try clear c0q0 c0q1 c0q2); obtain ⟨c0q0, c0q1, c0q2⟩ := c0.c3; (try clear c0l); have c0l := c0.lt; (first | have c1 := c1.ya hw1 | have c1 := c1.yb hw1 | have c1 := c1.yc hw1); (try clear c1q0 c1q1 c1q2); obtain ⟨c1q0, c1q1, c1q2⟩ := c1.c3; (try clear c1l); have c1l := c1.lt; (first | have c2 := c2.ya hw1 | have c2 := c2.yb hw1 | have c2 := c2.yc hw1); (try clear c2l); have c2l := c2.lt; (first | have tT := tT.next hw1 | have tT := (tT.next (balloc1 _ _)).next hw1 | have tT := (tT.next (balloc2 _ _ _)).next hw1); have hc := bthen hc hw1) | (go_at_call 109; (first | refine (HLO.out _ tT).mono ?_ | refine (HLO.out _ (tT.next (balloc1 _ _))).mono ?_ | refine (HLO.out _ (tT.next (balloc2 _ _ _))).mono ?_); rintro e w2 ⟨rfl, hw2⟩; (first | have c0 := c0.ya hw2 | have c0 := c0.yb hw2 | have c0 := c0.yc hw2); (try clear c0q0 c0q1 c0q2); obtain ⟨c0q0, c0q1, c0q2⟩ := c0.c3; (try clear c0l); have c0l := c0.lt; (first | have c1 := c1.ya hw2 | have c1 := c1.yb hw2 | have c1 := c1.yc hw2); (try clear c1q0 c1q1 c1q2); obtain ⟨c1q0, c1q1, c1q2⟩ := c1.c3; (try clear c1l); have c1l := c1.lt; (first | have c2 := c2.ya hw2 | have c2 := c2.yb hw2 | have c2 := c2.yc hw2); (try clear c2l); have c2l := c2.lt; have hc := bthen hc hw2; obtain ⟨c2q0, c2q1, c2q2, c2q3, c2q4, c2f0, c2f1, c2f2, c2f3, c2f4, c2s0, c2s1, c2s2, c2s3, c2s4⟩ := c2.f5))
 all_goals
  go_wp2
  refine bodyPost_ret (v := .tuple #[.agg #[.bool nq, .int .u64 (lo q.num.natAbs : Int), .string (mo q.num.natAbs), .int .u64 (lo (qden q) : Int), .string (mo (qden q))], .bool true]) (by simp [results, Tryz.results72, go_sem, c2s0, c2s1, c2s2, c2s3, c2s4]) rfl ?_
  exact ⟨rfl, bset5 (bthen hB4 hc) (by omega) _ _ _ _ _⟩
theorem frac_make (n d : Int) (w : World) (hn : blen n.natAbs <= 549755813888) (hd : blen d.natAbs <= 549755813888) (hT : Tab w) :
  Calls Tryz.prog 72 #[intV n, intV d] w (Ret (.tuple #[qV (Rat.divInt n d), .bool (decide (d ≠ 0))]) w) := by
 rcases Int.lt_trichotomy d 0 with h | h | h
 ·rw [divInt_neg n d h, decide_eq_true (show d ≠ 0 by omega)]
  exact frac_makeN n d w hn hd h hT
 ·subst h
  have e : Rat.divInt n 0 = 0 := Rat.divInt_zero n
  rw [e, decide_eq_false (by simp)]
  exact frac_make0 n w
 rw [divInt_pos n d (by omega), decide_eq_true (show d ≠ 0 by omega)]
 exact frac_makeP n d w hn hd h hT
end Go.Proofs.YtecnjlcfoobepaaGreatDoor
