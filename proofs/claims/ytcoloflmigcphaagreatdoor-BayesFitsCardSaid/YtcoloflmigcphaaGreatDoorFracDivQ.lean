import Derived.Test.YtcoloflmigcphaaGreatDoorFracMul
import Derived.Test.YtcoloflmigcphaaGreatDoorFracCmp
namespace Go.Proofs.YtcoloflmigcphaaGreatDoor
set_option maxRecDepth 100000
set_option maxHeartbeats 2000000
open Go.RowKit
set_option linter.all false
theorem Jj5 {b : Rat} (h : b ≠ 0) : signed (decide (b.num.sign < 0)) b.den = b⁻¹.num /\ b.num.natAbs = b⁻¹.den := by
 have hn : b.num ≠ 0 := fun e => h (Rat.num_eq_zero.1 e)
 rw [Rat.num_inv, Rat.den_inv, if_neg hn]
 refine ⟨?_, rfl⟩
 rcases Int.lt_or_gt_of_ne hn with h1 | h1
 ·rw [Int.sign_eq_neg_one_of_neg h1]
  simp [signed]
 rw [Int.sign_eq_one_of_pos h1]
 simp [signed]
theorem Jg2 (a b : Rat) (w : World) (ha : QS 549755813888 a) (hb : QS 549755813888 b) (aG : b ≠ 0) (hT : Tab w) :
  Calls Tryz.prog 64 #[qV a, qV b] w (Ret (.tuple #[qV (a / b), .bool true]) w) := by
 have aH := fun w => Vn b w (hb.mono (by omega))
 have aC := fun w => Yi b w (hb.mono (by omega))
 have y9 := fun w => Qw (decide (b.num.sign < 0)) b.den w (nt hb.2 (by omega))
 have aA := fun w => Ja3 b.num w
 obtain ⟨e1, e2⟩ := Jj5 aG
 rw [e1] at y9
 rw [e2] at aA
 have hi := hb.inv (by omega)
 have aB := fun w => Jbi b⁻¹ w (hi.mono (by omega))
 have aD := fun w (hT : Tab w) => Jcw a b⁻¹ w ha hi hT
 rw [<- Rat.div_def] at aD
 have aN : ¬ b.num.sign = 0 := fun e => aG (Rat.num_eq_zero.1 (Int.sign_eq_zero_iff_zero.1 e))
 clear e1 e2 hi ha hb aG
 generalize b⁻¹ = p at *
 generalize a / b = q at *
 generalize b.num.sign = sg at *
 generalize hng : decide (sg < 0) = ng at *
 have bI : (sg == 0) = false := by simp [aN]
 have bJ : (sg != 0) = true := by simp [aN]
 unfold qV at aH aC aB aD ⊢
 unfold Qj at y9 aA aB
 unfold Jg at aC y9 aA aB
 have HSG := lh aH
 have HDN := lh aC
 have HFR := lh y9
 have HAB := lh aA
 have HPK := lh aB
 have HMU := lh aD
 clear aH aC y9 aA aB aD
 generalize decide (b.num < 0) = nb at *
 generalize b.num.natAbs = bn at *
 generalize qden b = bd at *
 generalize decide (a.num < 0) = na at *
 generalize a.num.natAbs = an at *
 generalize qden a = ad at *
 generalize b.den = bdd at *
 generalize hpn : decide (p.num < 0) = np at *
 clear hpn
 generalize p.num.natAbs = pn at *
 generalize p.den = pd at *
 obtain ⟨b0, b1, b2, hB, hZ⟩ := bx3 w 41 #[.bool na, .int .u64 (lo an : Int), .string (mo an), .int .u64 (lo ad : Int), .string (mo ad)] 41 #[.bool nb, .int .u64 (lo bn : Int), .string (mo bn), .int .u64 (lo bd : Int), .string (mo bd)] 41 #[.bool false, .int .u64 0, .string ⟨#[]⟩, .int .u64 0, .string ⟨#[]⟩]
 have ne1 := neA w.heap.size
 have ne2 := neC w.heap.size
 have ne3 := neB w.heap.size
 have ne4 := neD w.heap.size
 go_enter Tryz.func64, Tryz.ntmps64
 go_wp2_with fail
 generalize ((w.alloc (.cells #[.bool na, .int .u64 (lo an : Int), .string (mo an), .int .u64 (lo ad : Int), .string (mo ad)] 41)).alloc (.cells #[.bool nb, .int .u64 (lo bn : Int), .string (mo bn), .int .u64 (lo bd : Int), .string (mo bd)] 41)).alloc (.cells #[.bool false, .int .u64 0, .string ⟨#[]⟩, .int .u64 0, .string ⟨#[]⟩] 41) = W at *
 refine (HSG.out W).mono ?_
 rintro e w1 ⟨rfl, aE⟩
 have hB := Ja hB aE
 have b0 := b0.below aE b0.lt
 have b1 := b1.below aE b1.lt
 have b2 := b2.below aE b2.lt
 have tT := hT.next hB
 go_upto_region 2 with fail
 obtain ⟨aO, aP, aQ, aR, aS⟩ := b0.c5; have bK := b0.lt; have c0 := b0.drew; have bQ := c0.lt; obtain ⟨aT, aU, aV, aW, aX⟩ := b1.c5; have bL := b1.lt; have c1 := b1.drew; have p9 := c1.lt; have c2 := b2.drew; have bR := c2.lt; have hc := Jt w1; have tT : Tab w1.drew := tT; go_region_held3 (fun w' => w'.cell? ⟨w.heap.size, 0, none⟩ = some (.bool na) /\ w'.cell? ⟨w.heap.size, 1, none⟩ = some (.int .u64 (lo an : Int)) /\ w'.cell? ⟨w.heap.size, 2, none⟩ = some (.string (mo an)) /\ w'.cell? ⟨w.heap.size, 3, none⟩ = some (.int .u64 (lo ad : Int)) /\ w'.cell? ⟨w.heap.size, 4, none⟩ = some (.string (mo ad)) /\ w'.cell? ⟨w.heap.size + 1, 0, none⟩ = some (.bool nb) /\ w'.cell? ⟨w.heap.size + 1, 1, none⟩ = some (.int .u64 (lo bn : Int)) /\ w'.cell? ⟨w.heap.size + 1, 2, none⟩ = some (.string (mo bn)) /\ w'.cell? ⟨w.heap.size + 1, 3, none⟩ = some (.int .u64 (lo bd : Int)) /\ w'.cell? ⟨w.heap.size + 1, 4, none⟩ = some (.string (mo bd))) (go_keep) (first | ((first | (go_at_call 26; refine (HSG.out _).mono ?_; rintro e w1 ⟨rfl, bM⟩) | (go_at_call 81; refine (HDN.out _).mono ?_; rintro e w2 ⟨rfl, bM⟩) | (go_at_call 53; refine (HFR.out _).mono ?_; rintro e w3 ⟨rfl, bM⟩) | (go_at_call 101; refine (HAB.out _).mono ?_; rintro e w4 ⟨rfl, bM⟩) | (go_at_call 84; refine (HPK.out _).mono ?_; rintro e w5 ⟨rfl, bM⟩) | (go_at_call 42; (first | refine (HMU.out _ tT).mono ?_ | refine (HMU.out _ (tT.next (Jb _ _))).mono ?_ | refine (HMU.out _ (tT.next (Jo _ _ _))).mono ?_); rintro e w6 ⟨rfl, bM⟩; have lst := True.intro)); (try clear j0 j6 j7 j8 j9); obtain ⟨c0, j0, j6, j7, j8, j9⟩ := c0.zc5 bM; (try clear bQ); have bQ := c0.lt; (try clear bN bO bP o0 o9); obtain ⟨c1, bN, bO, bP, o0, o9⟩ := c1.zc5 bM; (try clear p9); have p9 := c1.lt; have c2 := c2.yy bM; (try clear bR); have bR := c2.lt; (first | have tT := tT.next bM | have tT := (tT.next (Jb _ _)).next bM | have tT := (tT.next (Jo _ _ _)).next bM); have hc := Ja hc bM; (try (clear lst; obtain ⟨aY, aZ, bA, bB, bC, bD, bE, bF, bG, bH, aI, aJ, aK, aL, aM⟩ := c2.f5))))
 all_goals
  go_wp2
  refine bodyPost_ret (v := .tuple #[.agg #[.bool (decide (q.num < 0)), .int .u64 (lo q.num.natAbs : Int), .string (mo q.num.natAbs), .int .u64 (lo ((qden q)) : Int), .string (mo ((qden q)))], .bool true]) (by simp [results, Tryz.results64, go_sem, aI, aJ, aK, aL, aM]) rfl ?_
  exact ⟨rfl, Uy (Ja hB hc) (by omega) _ _ _ _ _⟩
