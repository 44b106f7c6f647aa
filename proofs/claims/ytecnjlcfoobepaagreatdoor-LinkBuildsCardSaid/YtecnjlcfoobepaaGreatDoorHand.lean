import Derived.Test.YtecnjlcfoobepaaGreatDoorRefMake
import Derived.Test.YtecnjlcfoobepaaGreatDoorFracM
import Derived.Test.YtecnjlcfoobepaaGreatDoorGcdW
namespace Go.Proofs.YtecnjlcfoobepaaGreatDoor
set_option maxRecDepth 100000
set_option maxHeartbeats 1000000
open Go.RowKit
set_option linter.unusedSimpArgs false
set_option linter.unusedVariables false
theorem oneN {W wn : World} {t : TypeId} {cs : Array Value} (hc : Below W.heap.size W wn) : Born W t cs (.pointer (some ⟨wn.heap.size, 0, none⟩)) (wn.alloc (.cells cs t)) := ⟨_, rfl, hc.size, Blk.new _ _ _, bthen hc (balloc1 _ _)⟩
theorem hand_nat (a B : Nat) (va : Value) (w : World) (h : IsN w B va a) (hBB : B <= w.heap.size) (ha : blen a <= 1099511627776) : Calls Tryz.prog 75 #[va] w (Ret (natV a) w) := by
 have H1 := lh h
 clear h
 unfold natV
 have b0 := Blk.new w  52 #[.int .u64 0, .string ⟨#[]⟩]; have hB := balloc1 w (.cells #[.int .u64 0, .string ⟨#[]⟩] 52); have hZ := lh (show (w.alloc (.cells #[.int .u64 0, .string ⟨#[]⟩] 52)).heap.size = w.heap.size + 1 from by simp)
 have hln : nbytes a <= 1099511627776 := by unfold nbytes; omega
 go_enter Tryz.func75, Tryz.ntmps75
 go_wp2_with fail
 generalize (w.alloc (.cells #[.int .u64 0, .string ⟨#[]⟩] 52)) = W at *
 refine (ref_bytes a B va W (H1.out.next hBB hB) (nt hBB hB.size) ha).mono ?_
 rintro e w1 ⟨v1, rfl, ho1, hw1, _⟩
 obtain ⟨A, c, hv, hc1, hc2⟩ := ho1.form
 rw [hv] at ho1
 rw [hv]
 have hr := ho1.reads
 have hl := natB_len a
 rw [hl] at hr
 rw [hl]
 have hB1 := bthen hB hw1
 have b0 := b0.below hw1 b0.lt
 have hfb := nat_fromBytes A (nbytes a) c w1.heap.size (natB a) w1 hr zd hln
 rw [beVal_natB] at hfb
 unfold natV at hfb
 have HF := lh hfb
 clear hv hl hr ho1 hfb hw1 hB
 go_wp2_with fail
 refine HF.out.mono ?_
 rintro e w2 ⟨rfl, hw2⟩
 have hB2 := bthen hB1 hw2
 (try clear b0q0 b0q1 b0f0 b0f1 b0s0 b0s1); have b0 := b0.below hw2 b0.lt; obtain ⟨b0q0, b0q1, b0f0, b0f1, b0s0, b0s1⟩ := b0.f2
 go_wp2
 refine bodyPost_ret (v := .agg #[.int .u64 (lo a : Int), .string (mo a)]) (by simp [results, Tryz.results75, go_sem, b0s0, b0s1]) rfl ?_
 exact ⟨rfl, bset2 hB2 (by omega) _ _⟩
theorem hand_int (z : Int) (B : Nat) (V : Value) (w : World) (h : IsI w B V z) (hBB : B <= w.heap.size) (hz : blen z.natAbs <= 1099511627776) : Calls Tryz.prog 73 #[V] w (Ret (intV z) w) := by
 obtain ⟨v, rfl, hv⟩ := h
 have hfr := fun w => whole_from (decide (z < 0)) z.natAbs w (by omega)
 have e : signed (decide (z < 0)) z.natAbs = z := by
  unfold signed
  by_cases h : z < 0
  ·rw [decide_eq_true h]; simp; omega
  rw [decide_eq_false h]; simp; omega
 rw [e] at hfr
 clear e
 unfold intV at hfr ⊢
 unfold natV at hfr
 generalize decide (z < 0) = ng at *
 obtain ⟨A, l, c, hA⟩ := hv.form
 subst hA
 have HV := lh hv
 have HFR := lh hfr
 clear hv hfr
 have b0 := (Blk.new w  68 #[.bool ng, .slice A l c]).alloc (.cells #[.bool false, .int .u64 0, .string ⟨#[]⟩] 54); have b1 := Blk.new2 w (.cells #[.bool ng, .slice A l c] 68) 54 #[.bool false, .int .u64 0, .string ⟨#[]⟩]; have hB := balloc2 w (.cells #[.bool ng, .slice A l c] 68) (.cells #[.bool false, .int .u64 0, .string ⟨#[]⟩] 54); have hZ := lh (show ((w.alloc (.cells #[.bool ng, .slice A l c] 68)).alloc (.cells #[.bool false, .int .u64 0, .string ⟨#[]⟩] 54)).heap.size = w.heap.size + 1 + 1 from by simp)
 have ne2 : ¬ w.heap.size = w.heap.size + 1 := by omega
 have ne3 : ¬ w.heap.size + 1 = w.heap.size := by omega
 go_enter Tryz.func73, Tryz.ntmps73
 go_wp2_with fail
 generalize ((w.alloc (.cells #[.bool ng, .slice A l c] 68)).alloc (.cells #[.bool false, .int .u64 0, .string ⟨#[]⟩] 54)) = W at *
 have hv1 := HV.out.next hBB hB
 have hBW : B <= W.heap.size := nt hBB hB.size
 have hna := fun w' (h : Below W.heap.size W w') => hand_nat z.natAbs B (.slice A l c) w' (hv1.next hBW h) (nt hBW h.size) hz
 unfold natV at hna
 have HNA := lh hna
 clear hna hv1 HV
 obtain ⟨b0q0, b0q1⟩ := b0.c2; have c0z := b0.lt; have c0 := b0.drew; have c0l := c0.lt; have c1 := b1.drew; have c1l := c1.lt; have hc := bdrew0 W; go_region_held3 (fun w' => w'.cell? ⟨w.heap.size, 0, none⟩ = some (.bool ng) /\ w'.cell? ⟨w.heap.size, 1, none⟩ = some (.slice A l c)) (go_keep) (first | (go_at_call 75; (first | with_reducible refine (HNA.out _ hc).mono ?_ | with_reducible refine (HNA.out _ (bthen hc (balloc1 _ _))).mono ?_ | with_reducible refine (HNA.out _ (bthen hc (balloc2 _ _ _))).mono ?_ | with_reducible refine (HNA.out _ (bthen (balloc1 _ _) (bdrew0 _))).mono ?_ | with_reducible refine (HNA.out _ (bthen (balloc2 _ _ _) (bdrew0 _))).mono ?_); rintro e w1 ⟨rfl, hw1⟩; (first | have c0 := c0.ya hw1 | have c0 := c0.yb hw1 | have c0 := c0.yc hw1); (try clear c0q0 c0q1); obtain ⟨c0q0, c0q1⟩ := c0.c2; (try clear c0l); have c0l := c0.lt; (first | have c1 := c1.ya hw1 | have c1 := c1.yb hw1 | have c1 := c1.yc hw1); (try clear c1l); have c1l := c1.lt; have hc := bthen hc hw1) | (go_at_call 74; refine (HFR.out _).mono ?_; rintro e w2 ⟨rfl, hw2⟩; (first | have c0 := c0.ya hw2 | have c0 := c0.yb hw2 | have c0 := c0.yc hw2); (try clear c0q0 c0q1); obtain ⟨c0q0, c0q1⟩ := c0.c2; (try clear c0l); have c0l := c0.lt; (first | have c1 := c1.ya hw2 | have c1 := c1.yb hw2 | have c1 := c1.yc hw2); (try clear c1l); have c1l := c1.lt; have hc := bthen hc hw2; obtain ⟨c1q0, c1q1, c1q2, c1f0, c1f1, c1f2, c1s0, c1s1, c1s2⟩ := c1.f3))
 all_goals
  go_wp2
  refine bodyPost_ret (v := .agg #[.bool ng, .int .u64 (lo z.natAbs : Int), .string (mo z.natAbs)]) (by simp [results, Tryz.results73, go_sem, c1s0, c1s1, c1s2]) rfl ?_
  exact ⟨rfl, bset3 (bthen hB hc) (by omega) _ _ _⟩
theorem hand_in (q : Rat) (B : Nat) (V : Value) (w : World) (h : IsQ w B V q) (hBB : B <= w.heap.size) (hq : QS 549755813888 q) (hT : Tab w) : Calls Tryz.prog 35 #[V] w (Ret (qV q) w) := by
 obtain ⟨vn, vd, rfl, hn, hd⟩ := h
 have hfr := fun w => whole_from false q.den w (by have := hq.2; omega)
 have e : signed false q.den = (q.den : Int) := rfl
 rw [e] at hfr
 clear e
 have hmk := fun w (hT : Tab w) => frac_make q.num q.den w hq.1 (by rw [Int.natAbs_natCast]; exact hq.2) hT
 have e2 : Rat.divInt q.num q.den = q := Rat.num_divInt_den q
 have e3 : decide ((q.den : Int) ≠ 0) = true := decide_eq_true (by have := q.den_nz; omega)
 rw [e2, e3] at hmk
 clear e2 e3
 obtain ⟨An, ln, cn, hAn⟩ := hn.form
 obtain ⟨Ad, ld, cd, hAd⟩ := hd.form
 subst hAn
 subst hAd
 have HN := lh hn
 have HD := lh hd
 have HQ := lh hq
 have HT := lh hT
 unfold natV at hfr
 unfold intV at hfr hmk
 unfold qV at hmk ⊢
 rw [Int.natAbs_natCast] at hfr hmk
 clear hn hd hq hT
 have b0 := (Blk.new w  70 #[.bool (decide (q.num < 0)), .slice An ln cn, .slice Ad ld cd]).alloc (.cells #[.bool false, .int .u64 0, .string ⟨#[]⟩, .int .u64 0, .string ⟨#[]⟩] 56); have b1 := Blk.new2 w (.cells #[.bool (decide (q.num < 0)), .slice An ln cn, .slice Ad ld cd] 70) 56 #[.bool false, .int .u64 0, .string ⟨#[]⟩, .int .u64 0, .string ⟨#[]⟩]; have hB := balloc2 w (.cells #[.bool (decide (q.num < 0)), .slice An ln cn, .slice Ad ld cd] 70) (.cells #[.bool false, .int .u64 0, .string ⟨#[]⟩, .int .u64 0, .string ⟨#[]⟩] 56); have hZ := lh (show ((w.alloc (.cells #[.bool (decide (q.num < 0)), .slice An ln cn, .slice Ad ld cd] 70)).alloc (.cells #[.bool false, .int .u64 0, .string ⟨#[]⟩, .int .u64 0, .string ⟨#[]⟩] 56)).heap.size = w.heap.size + 1 + 1 from by simp)
 go_enter Tryz.func35, Tryz.ntmps35
 go_upto_region 1 with fail
 generalize ((w.alloc (.cells #[.bool (decide (q.num < 0)), .slice An ln cn, .slice Ad ld cd] 70)).alloc (.cells #[.bool false, .int .u64 0, .string ⟨#[]⟩, .int .u64 0, .string ⟨#[]⟩] 56)) = W at *
 have hBW : B <= W.heap.size := nt hBB hB.size
 have hn1 := HN.out.next hBB hB
 have hd1 := HD.out.next hBB hB
 have hint := fun w' (h : Below W.heap.size W w') => hand_int q.num B (.agg #[.bool (decide (q.num < 0)), .slice An ln cn]) w' ⟨_, rfl, hn1.next hBW h⟩ (nt hBW h.size) (by have := HQ.out.1; omega)
 have hnat := fun w' (h : Below W.heap.size W w') => hand_nat q.den B (.slice Ad ld cd) w' (hd1.next hBW h) (nt hBW h.size) (by have := HQ.out.2; omega)
 have hmk1 := fun w' (h : Below W.heap.size W w') => hmk w' ((HT.out.next hB).next h)
 unfold intV at hint
 unfold natV at hnat
 generalize decide (q.num < 0) = nq at *
 generalize decide ((q.den : Int) < 0) = nd at *
 have HIN := lh hint
 have HNA := lh hnat
 have HFR := lh hfr
 have HMK := lh hmk1
 clear hint hnat hfr hmk hmk1 hn1 hd1 HN HD
 go_cut [3] (fun v wc => Born W 56 #[.bool nq, .int .u64 (lo q.num.natAbs : Int), .string (mo q.num.natAbs), .int .u64 (lo (qden q) : Int), .string (mo (qden q))] v wc)
 case first =>
  obtain ⟨b0q0, b0q1, b0q2⟩ := b0.c3; have c0z := b0.lt; have c0 := b0.drew; have c0l := c0.lt; have hc := bdrew0 W; go_region_held3 (fun w' => w'.cell? ⟨w.heap.size, 0, none⟩ = some (.bool nq) /\ w'.cell? ⟨w.heap.size, 1, none⟩ = some (.slice An ln cn) /\ w'.cell? ⟨w.heap.size, 2, none⟩ = some (.slice Ad ld cd)) (go_keep) (first | (go_at_call 73; (first | with_reducible refine (HIN.out _ hc).mono ?_ | with_reducible refine (HIN.out _ (bthen hc (balloc1 _ _))).mono ?_ | with_reducible refine (HIN.out _ (bthen hc (balloc2 _ _ _))).mono ?_ | with_reducible refine (HIN.out _ (bthen (balloc1 _ _) (bdrew0 _))).mono ?_ | with_reducible refine (HIN.out _ (bthen (balloc2 _ _ _) (bdrew0 _))).mono ?_); rintro e w1 ⟨rfl, hw1⟩; (first | have c0 := c0.ya hw1 | have c0 := c0.yb hw1 | have c0 := c0.yc hw1); (try clear c0q0 c0q1 c0q2); obtain ⟨c0q0, c0q1, c0q2⟩ := c0.c3; (try clear c0l); have c0l := c0.lt; (try (first | have ca := ca.below hw1 ca.lt | have ca := (ca.alloc _).below hw1 (ca.alloc _).lt)); (first | have hc := bthen hc hw1 | (have hb1 := born1d hc hw1; obtain ⟨ca, hga, hc⟩ := hb1) | (have hb1 := born1 hc hw1; obtain ⟨ca, hga, hc⟩ := hb1)); (try have c0na := nelt c0z hga)) | (go_at_call 75; (first | with_reducible refine (HNA.out _ hc).mono ?_ | with_reducible refine (HNA.out _ (bthen hc (balloc1 _ _))).mono ?_ | with_reducible refine (HNA.out _ (bthen hc (balloc2 _ _ _))).mono ?_ | with_reducible refine (HNA.out _ (bthen (balloc1 _ _) (bdrew0 _))).mono ?_ | with_reducible refine (HNA.out _ (bthen (balloc2 _ _ _) (bdrew0 _))).mono ?_); rintro e w2 ⟨rfl, hw2⟩; (first | have c0 := c0.ya hw2 | have c0 := c0.yb hw2 | have c0 := c0.yc hw2); (try clear c0q0 c0q1 c0q2); obtain ⟨c0q0, c0q1, c0q2⟩ := c0.c3; (try clear c0l); have c0l := c0.lt; (try (first | have ca := ca.below hw2 ca.lt | have ca := (ca.alloc _).below hw2 (ca.alloc _).lt)); (first | have hc := bthen hc hw2 | (have hb1 := born1d hc hw2; obtain ⟨ca, hga, hc⟩ := hb1) | (have hb1 := born1 hc hw2; obtain ⟨ca, hga, hc⟩ := hb1)); (try have c0na := nelt c0z hga)) | (go_at_call 74; refine (HFR.out _).mono ?_; rintro e w3 ⟨rfl, hw3⟩; (first | have c0 := c0.ya hw3 | have c0 := c0.yb hw3 | have c0 := c0.yc hw3); (try clear c0q0 c0q1 c0q2); obtain ⟨c0q0, c0q1, c0q2⟩ := c0.c3; (try clear c0l); have c0l := c0.lt; (try (first | have ca := ca.below hw3 ca.lt | have ca := (ca.alloc _).below hw3 (ca.alloc _).lt)); (first | have hc := bthen hc hw3 | (have hb1 := born1d hc hw3; obtain ⟨ca, hga, hc⟩ := hb1) | (have hb1 := born1 hc hw3; obtain ⟨ca, hga, hc⟩ := hb1)); (try have c0na := nelt c0z hga)) | (go_at_call 72; (first | with_reducible refine (HMK.out _ hc).mono ?_ | with_reducible refine (HMK.out _ (bthen hc (balloc1 _ _))).mono ?_ | with_reducible refine (HMK.out _ (bthen hc (balloc2 _ _ _))).mono ?_ | with_reducible refine (HMK.out _ (bthen (balloc1 _ _) (bdrew0 _))).mono ?_ | with_reducible refine (HMK.out _ (bthen (balloc2 _ _ _) (bdrew0 _))).mono ?_); rintro e w4 ⟨rfl, hw4⟩; (first | have c0 := c0.ya hw4 | have c0 := c0.yb hw4 | have c0 := c0.yc hw4); (try clear c0q0 c0q1 c0q2); obtain ⟨c0q0, c0q1, c0q2⟩ := c0.c3; (try clear c0l); have c0l := c0.lt; (try (first | have ca := ca.below hw4 ca.lt | have ca := (ca.alloc _).below hw4 (ca.alloc _).lt)); (first | have hc := bthen hc hw4 | (have hb1 := born1d hc hw4; obtain ⟨ca, hga, hc⟩ := hb1) | (have hb1 := born1 hc hw4; obtain ⟨ca, hga, hc⟩ := hb1)); (try have c0na := nelt c0z hga); (try (have cal := ca.lt; obtain ⟨caq0, caq1, caq2, caq3, caq4, caf0, caf1, caf2, caf3, caf4, cas0, cas1, cas2, cas3, cas4⟩ := ca.f5))))
  all_goals
   go_wp2
   go_meet
   (first | with_reducible exact one5 hc ca hga | with_reducible exact oneN hc | with_reducible exact one5 (bthen hc (balloc1 _ _)) (Blk.new _ _ _) hc.size)
 case rest =>
  obtain ⟨g, rfl, hWg, b5, hbc⟩ := hcut
  have b1 := b1.below hbc b1.lt
  have hB1 := bthen hB hbc
  have hZ2 : W.heap.size = w.heap.size + 1 + 1 := hZ.out
  have ne0 : ¬ g = w.heap.size + 1 := by omega
  have ne1 : ¬ w.heap.size + 1 = g := by omega
  clear hZ2
  clear HIN HNA HFR HMK hbc b0
  obtain ⟨b5q0, b5q1, b5q2, b5q3, b5q4⟩ := b5.c5
  obtain ⟨b1q0, b1q1, b1q2, b1q3, b1q4, b1f0, b1f1, b1f2, b1f3, b1f4, b1s0, b1s1, b1s2, b1s3, b1s4⟩ := b1.f5
  go_wp2
  refine bodyPost_ret (v := .agg #[.bool nq, .int .u64 (lo q.num.natAbs : Int), .string (mo q.num.natAbs), .int .u64 (lo (qden q) : Int), .string (mo (qden q))]) (by simp [results, Tryz.results35, go_sem, b1s0, b1s1, b1s2, b1s3, b1s4]) rfl ?_
  exact ⟨rfl, bset5 hB1 (by omega) _ _ _ _ _⟩
end Go.Proofs.YtecnjlcfoobepaaGreatDoor
