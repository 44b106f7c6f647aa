import Derived.Test.YtacbcaebaomglaaGreatDoorLinkJoin
import Derived.Test.YtacbcaebaomglaaGreatDoorHandRows
import Derived.Test.YtacbcaebaomglaaGreatDoorFracMul
import Derived.Test.YtacbcaebaomglaaGreatDoorRefSub
import Derived.Deep.DeepCutAuto
import Derived.Deep.CutBlock
import Derived.Test.YtacbcaebaomglaaGreatDoorFracCmp
import Derived.RegionTactic
namespace Go.Proofs.YtacbcaebaomglaaGreatDoor
set_option maxRecDepth 100000
set_option maxHeartbeats 4000000
set_option linter.all false
theorem QS.nat {k n : Nat} (h : n < 2 ^ k) (hk : 1 <= k) : QS k (n : Rat) := by
 refine ⟨?_, ?_⟩
 ·show Je ((n : Rat).num.natAbs) <= k
  rw [Rat.num_natCast, Int.natAbs_natCast]
  exact Zw n k h
 rw [Rat.den_natCast]
 exact Zw 1 k (by have := Nat.pow_le_pow_right (show 0 < 2 by omega) hk; omega)
open Go.RowKit
theorem Jkv (A A' : Option Addr) (n c c' B m : Nat) (a b : List Rat) (w : World) (ha : ReadsQ w B A n a) (hb : ReadsQ w B A' n b) (hB : B <= w.heap.size) (hn : n <= 1000) (hm : 1 <= m) (hm2 : m <= 10000000) (sa : ∀ x ∈ a, QS m x) (sb : ∀ x ∈ b, QS m x) (hT : Tab w) :
  Calls Tryz.prog 97 #[.slice A n c, .slice A' n c'] w (Ret (qV (Xk a b)) w) := by
 have HLA := lh ha.len
 have HLB := lh hb.len
 have HSZ := lh (Yq sa sb hm)
 have HA := lh ha
 have HBR := lh hb
 have HSA := lh sa
 have HSB := lh sb
 have HT := lh hT
 clear ha hb sa sb hT
 go_enter Tryz.func97, Tryz.ntmps97
 go_wp2_with fail
 have b0 := (Blk.new w 65 #[.bool false, .int .u64 0, .string ⟨#[]⟩, .int .u64 0, .string ⟨#[]⟩]).alloc (.cells #[.bool false, .int .u64 0, .string ⟨#[]⟩, .int .u64 0, .string ⟨#[]⟩] 65)
 have b1 := Blk.new2 w (.cells #[.bool false, .int .u64 0, .string ⟨#[]⟩, .int .u64 0, .string ⟨#[]⟩] 65) 65 #[.bool false, .int .u64 0, .string ⟨#[]⟩, .int .u64 0, .string ⟨#[]⟩]
 have hW := Jj w (.cells #[.bool false, .int .u64 0, .string ⟨#[]⟩, .int .u64 0, .string ⟨#[]⟩] 65) (.cells #[.bool false, .int .u64 0, .string ⟨#[]⟩, .int .u64 0, .string ⟨#[]⟩] 65)
 generalize (w.alloc (.cells #[.bool false, .int .u64 0, .string ⟨#[]⟩, .int .u64 0, .string ⟨#[]⟩] 65)).alloc (.cells #[.bool false, .int .u64 0, .string ⟨#[]⟩, .int .u64 0, .string ⟨#[]⟩] 65) = W at *
 go_loopw [10] (fun p wr => ∃ (k : Nat) (s : Rat), k <= n /\ p = .int .i64 (k : Int) /\ Hid (Qq a b k = s) /\ Blk wr w.heap.size 65 #[.bool false, .int .u64 0, .string ⟨#[]⟩, .int .u64 0, .string ⟨#[]⟩] /\ Blk wr (w.heap.size + 1) 65 #[.bool (decide (s.num < 0)), .int .u64 (lo s.num.natAbs : Int), .string (mo s.num.natAbs), .int .u64 (lo ((qden s)) : Int), .string (mo ((qden s)))] /\ Below w.heap.size w wr) (fun p _ => n - (intOf p).toNat)
 case atStart => exact ⟨0, 0, by omega, rfl, lh rfl, b0, b1, hW⟩
 case round =>
  obtain ⟨k, s, hk, rfl, hs, c0, c1, aK⟩ := hrel
  clear b0 b1 hW
  rename World => wr
  by_cases aU : k < n
  ·have k1 : (k : Int) < (n : Int) := by omega
   obtain ⟨x, hx⟩ : ∃ x, a[k]? = some x := ⟨_, List.getElem?_eq_getElem (by have := HLA.out; omega)⟩
   obtain ⟨y, hy⟩ : ∃ y, b[k]? = some y := ⟨_, List.getElem?_eq_getElem (by have := HLB.out; omega)⟩
   obtain ⟨ad, g1, o1, rfl, cH, aV, b1⟩ := ReadsQ.at_ (HA.out.below (aK.mono hB)) hx
   obtain ⟨ad', g2, o2, rfl, cI, aW, b2⟩ := ReadsQ.at_ (HBR.out.below (aK.mono hB)) hy
   have qx := HSA.out x (List.mem_of_getElem? hx)
   have qy := HSB.out y (List.mem_of_getElem? hy)
   have aM : Qq a b (k + 1) = s + (x - y) * (x - y) := by
    rw [<- hs.out]
    show Qq a b k + _ = _
    rw [List.getD_eq_getElem?_getD, hx, List.getD_eq_getElem?_getD, hy]
    rfl
   have aN : QS 68719476736 s := by
    rw [<- hs.out]
    refine (HSZ.out k).mono ?_
    have := Nat.mul_le_mul (show k <= 1000 by omega) (show 4 * m + 3 <= 40000003 by omega)
    omega
   have e9 := fun w (hT : Tab w) => Jmi x y w (qx.mono (by omega)) (qy.mono (by omega)) hT
   have qd : QS 20000001 (x - y) := (qx.sub qy).mono (by omega)
   generalize x - y = d at *
   have x8 := fun w (hT : Tab w) => Jid d d w (qd.mono (by omega)) (qd.mono (by omega)) hT
   have qp : QS 40000002 (d * d) := (qd.mul qd).mono (by omega)
   generalize d * d = p at *
   have x9 := fun w (hT : Tab w) => Jbz s p w (aN.mono (by omega)) (qp.mono (by omega)) hT
   generalize s + p = s' at *
   unfold qV at e9 x8 x9
   have HSUB := lh e9
   have HMUL := lh x8
   have HADD := lh x9
   have HST := lh aM
   have HBW := lh aK
   have tT := HT.out.next aK
   have g0 := c0.lt
   have g5 := c1.lt
   clear e9 x8 x9 aM qx qy aN qd qp hx hy hs aK aV aW
   go_upto_region 5 with fail
   go_cut [7] (fun v wc => Vr wr 65 #[.bool (decide (d.num < 0)), .int .u64 (lo d.num.natAbs : Int), .string (mo d.num.natAbs), .int .u64 (lo ((qden d)) : Int), .string (mo ((qden d)))] v wc)
   case first =>
    obtain ⟨aX, aY, aZ, cJ, cK⟩ := b1.c5; have c1 := b1.drew; have p8 := c1.lt; obtain ⟨bA, bB, bC, cL, cM⟩ := b2.c5; have c2 := b2.drew; have p9 := c2.lt; have hc := Ji wr; go_region_held3 (fun w' => w'.cell? ⟨g1, o1, none⟩ = some (.bool (decide (x.num < 0))) /\ w'.cell? ⟨g1, o1 + 1, none⟩ = some (.int .u64 (lo x.num.natAbs : Int)) /\ w'.cell? ⟨g1, o1 + 2, none⟩ = some (.string (mo x.num.natAbs)) /\ w'.cell? ⟨g1, o1 + 3, none⟩ = some (.int .u64 (lo ((qden x)) : Int)) /\ w'.cell? ⟨g1, o1 + 4, none⟩ = some (.string (mo ((qden x)))) /\ w'.cell? ⟨g2, o2, none⟩ = some (.bool (decide (y.num < 0))) /\ w'.cell? ⟨g2, o2 + 1, none⟩ = some (.int .u64 (lo y.num.natAbs : Int)) /\ w'.cell? ⟨g2, o2 + 2, none⟩ = some (.string (mo y.num.natAbs)) /\ w'.cell? ⟨g2, o2 + 3, none⟩ = some (.int .u64 (lo ((qden y)) : Int)) /\ w'.cell? ⟨g2, o2 + 4, none⟩ = some (.string (mo ((qden y))))) (go_keep) (first | (go_at_call 136; (first | with_reducible refine (HSUB.out _ (tT.next hc)).mono ?_ | (have aO : wr.heap.size <= wr.heap.size := hc.size; have ca : Blk _ wr.heap.size _ _ := Blk.new wr.drew 65 #[.bool false, .int .u64 0, .string ⟨#[]⟩, .int .u64 0, .string ⟨#[]⟩]; have y8 := Jv (show _ < wr.heap.size from p8) zd; have c1 := c1.alloc (.cells #[.bool false, .int .u64 0, .string ⟨#[]⟩, .int .u64 0, .string ⟨#[]⟩] 65); have y9 := Jv (show _ < wr.heap.size from p9) zd; have c2 := c2.alloc (.cells #[.bool false, .int .u64 0, .string ⟨#[]⟩, .int .u64 0, .string ⟨#[]⟩] 65); have hc := Ja hc (Jb _ (.cells #[.bool false, .int .u64 0, .string ⟨#[]⟩, .int .u64 0, .string ⟨#[]⟩] 65)); with_reducible refine (HSUB.out _ (tT.next hc)).mono ?_) | (have aO : wr.heap.size <= wr.heap.size := hc.size; have ca : Blk (wr.alloc (.cells #[.bool false, .int .u64 0, .string ⟨#[]⟩, .int .u64 0, .string ⟨#[]⟩] 65)).drew wr.heap.size _ _ := Blk.new wr.drew 65 #[.bool false, .int .u64 0, .string ⟨#[]⟩, .int .u64 0, .string ⟨#[]⟩]; have y8 := Jv (show _ < wr.heap.size from p8) zd; have c1 : AtQ (wr.alloc (.cells #[.bool false, .int .u64 0, .string ⟨#[]⟩, .int .u64 0, .string ⟨#[]⟩] 65)).drew _ _ _ := c1.alloc (.cells #[.bool false, .int .u64 0, .string ⟨#[]⟩, .int .u64 0, .string ⟨#[]⟩] 65); have y9 := Jv (show _ < wr.heap.size from p9) zd; have c2 : AtQ (wr.alloc (.cells #[.bool false, .int .u64 0, .string ⟨#[]⟩, .int .u64 0, .string ⟨#[]⟩] 65)).drew _ _ _ := c2.alloc (.cells #[.bool false, .int .u64 0, .string ⟨#[]⟩, .int .u64 0, .string ⟨#[]⟩] 65); have hc : Below wr.heap.size wr (wr.alloc (.cells #[.bool false, .int .u64 0, .string ⟨#[]⟩, .int .u64 0, .string ⟨#[]⟩] 65)).drew := Ja hc (Jb _ (.cells #[.bool false, .int .u64 0, .string ⟨#[]⟩, .int .u64 0, .string ⟨#[]⟩] 65)); with_reducible refine (HSUB.out _ (tT.next hc)).mono ?_)); rintro e w1 ⟨rfl, e8⟩; (try have ca := ca.below e8 ca.lt); (try clear q8 s9 t7 aP aQ); obtain ⟨c1, q8, s9, t7, aP, aQ⟩ := c1.zc5 e8; (try clear p8); have p8 := c1.lt; (try clear aA aB aC bD bE); obtain ⟨c2, aA, aB, aC, bD, bE⟩ := c2.zc5 e8; (try clear p9); have p9 := c2.lt; have hc := Ja hc e8; (try (have cN := ca.lt; obtain ⟨bF, bG, bH, cO, cP, bI, bJ, bK, cQ, cS, bL, bM, bN, cT, cU⟩ := ca.f5))))
    all_goals
     go_wp2
     go_meet
     first | with_reducible exact Va hc | with_reducible exact Jge hc ca aO | with_reducible exact Jge (Ja hc (Jb _ _)) (Blk.new _ _ _) hc.size
   case rest =>
    obtain ⟨g7, rfl, cV, b7, o9⟩ := hcut
    rename World => W2
    have b0 := c0.below o9 g0
    have b5 := c1.below o9 g5
    have tT := tT.next o9
    have ne1 : ¬ w.heap.size + 1 = g7 := by omega
    have ne2 : ¬ g7 = w.heap.size + 1 := by omega
    have ne3 : ¬ w.heap.size = g7 := by omega
    have aR := HBW.out.trans (o9.mono HBW.out.size)
    clear c0 c1 b1 b2 HSUB
    go_upto_region 6 with fail
    obtain ⟨cW, cZ, dA, dB, dC⟩ := b5.c5; have c5 := b5.drew; have aS := c5.lt; obtain ⟨bO, bP, bQ, dD, dE⟩ := b7.c5; have c7 := b7.drew; have t8 := c7.lt; have c0 := b0.drew; have u4 := c0.lt; have hc := Ji W2; go_region_with (first | (go_at_call 31; (with_reducible refine (HMUL.out _ (tT.next hc)).mono ?_); rintro e w1 ⟨rfl, e8⟩; (try clear aD aE aF aG aH); obtain ⟨c5, aD, aE, aF, aG, aH⟩ := c5.zc5 e8; (try clear aS); have aS := c5.lt; (try clear j0 j6 j7 aI aJ); obtain ⟨c7, j0, j6, j7, aI, aJ⟩ := c7.zc5 e8; (try clear t8); have t8 := c7.lt; have c0 := c0.below e8 c0.lt; (try clear u4); have u4 := c0.lt; have hc := Ja hc e8) | (go_at_call 53; (with_reducible refine (HADD.out _ (tT.next hc)).mono ?_); rintro e w2 ⟨rfl, o0⟩; (try clear aD aE aF aG aH); obtain ⟨c5, aD, aE, aF, aG, aH⟩ := c5.zc5 o0; (try clear aS); have aS := c5.lt; (try clear j0 j6 j7 aI aJ); obtain ⟨c7, j0, j6, j7, aI, aJ⟩ := c7.zc5 o0; (try clear t8); have t8 := c7.lt; have c0 := c0.below o0 c0.lt; (try clear u4); have u4 := c0.lt; have hc := Ja hc o0; obtain ⟨_, _, _, _, _, f0, f1, f2, f3, f4, z0, z1, z2, z3, z4⟩ := c5.f5))
    all_goals
     go_wp2
     have e1 := ((((c5.set_ 0 (.bool (decide (s'.num < 0)))).set_ 1 (.int .u64 (lo s'.num.natAbs : Int))).set_ 2 (.string (mo s'.num.natAbs))).set_ 3 (.int .u64 (lo (qden s') : Int))).set_ 4 (.string (mo (qden s')))
     have e0 := ((((c0.far (p := ⟨w.heap.size + 1, 0, none⟩) (by simp) (.bool (decide (s'.num < 0)))).far (p := ⟨w.heap.size + 1, 1, none⟩) (by simp) (.int .u64 (lo s'.num.natAbs : Int))).far (p := ⟨w.heap.size + 1, 2, none⟩) (by simp) (.string (mo s'.num.natAbs))).far (p := ⟨w.heap.size + 1, 3, none⟩) (by simp) (.int .u64 (lo (qden s') : Int))).far (p := ⟨w.heap.size + 1, 4, none⟩) (by simp) (.string (mo (qden s')))
     exact ⟨⟨k + 1, s', by omega, by go_num, HST, e0, by simpa using e1, Yt (Ja aR hc) (by omega) _ _ _ _ _⟩, by simp [intOf]; omega⟩
  obtain rfl : k = n := by omega
  have aL : Xk a b = s := by rw [<- hs.out]; unfold Xk; rw [HLA.out]
  have HS2 := lh aL
  clear aL hs
  have eG : ¬ (k : Int) < (k : Int) := by omega
  obtain ⟨dF, dG, dH, dI, dJ, dK, dL, dM, dN, dO, bR, bS, bT, bU, bV⟩ := c0.f5
  obtain ⟨q8, s9, t7, aP, aQ⟩ := c1.c5
  go_wp2
  refine bodyPost_ret (v := .agg #[.bool (decide (s.num < 0)), .int .u64 (lo s.num.natAbs : Int), .string (mo s.num.natAbs), .int .u64 (lo ((qden s)) : Int), .string (mo ((qden s)))]) (by simp [results, Tryz.results97, go_sem, bR, bS, bT, bU, bV]) rfl ?_
  exact ⟨by rw [HS2.out]; rfl, Yt aK (by omega) _ _ _ _ _⟩
def Jf4 (W : World) (q : Rat) (v : Value) (wc : World) : Prop :=
 ∃ g ng A l c A' l' c', v = .pointer (some ⟨g, 0, none⟩) /\ W.heap.size <= g /\ Blk wc g 56 #[.bool ng, .slice A l c, .slice A' l' c'] /\ IsQ wc wc.heap.size (.agg #[.bool ng, .slice A l c, .slice A' l' c']) q /\ Below W.heap.size W wc
theorem Jcs {W wn : World} {q : Rat} {l c l' c' : Nat} {ng : Bool} {A A' : Option Addr} (hc : Below W.heap.size W wn) (hQ : IsQ wn wn.heap.size (.agg #[.bool ng, .slice A l c, .slice A' l' c']) q) :
  Jf4 W q (.pointer (some ⟨wn.heap.size, 0, none⟩)) (wn.alloc (.cells #[.bool ng, .slice A l c, .slice A' l' c'] 56)) :=
 ⟨_, _, _, _, _, _, _, _, rfl, hc.size, Blk.new _ _ _, (hQ.next zd (Jb _ _)).more (Jb _ _).size, Ja hc (Jb _ _)⟩
theorem Jf1 {W wn : World} {q : Rat} {g l c l' c' : Nat} {ng : Bool} {A A' : Option Addr} (hc : Below W.heap.size W wn) (hQ : IsQ wn wn.heap.size (.agg #[.bool ng, .slice A l c, .slice A' l' c']) q)
  (ca : Blk wn g 56 #[.bool false, .slice none 0 0, .slice none 0 0]) (hg : W.heap.size <= g) :
  Jf4 W q (.pointer (some ⟨g, 0, none⟩)) (((wn.setCell ⟨g, 0, none⟩ (.bool ng)).setCell ⟨g, 1, none⟩ (.slice A l c)).setCell ⟨g, 2, none⟩ (.slice A' l' c')) := by
 refine ⟨_, _, _, _, _, _, _, _, rfl, hg, by simpa using ((ca.set_ 0 (.bool ng)).set_ 1 (.slice A l c)).set_ 2 (.slice A' l' c'), ?_, Ki hc hg _ _ _⟩
 rw [World.size_setCell, World.size_setCell, World.size_setCell]
 exact hQ.set3 ca _ _ _ _ _ _ _
theorem Jjs {W wn : World} {q : Rat} {l c l' c' : Nat} {ng : Bool} {A A' : Option Addr} (hc : Below W.heap.size W wn) (hQ : IsQ wn wn.heap.size (.agg #[.bool ng, .slice A l c, .slice A' l' c']) q) :
  Jf4 W q (.pointer (some ⟨wn.heap.size, 0, none⟩)) ((((wn.alloc (.cells #[.bool false, .slice none 0 0, .slice none 0 0] 56)).setCell ⟨wn.heap.size, 0, none⟩ (.bool ng)).setCell ⟨wn.heap.size, 1, none⟩ (.slice A l c)).setCell ⟨wn.heap.size, 2, none⟩ (.slice A' l' c')) :=
 Jf1 (Ja hc (Jb _ _)) ((hQ.next zd (Jb _ _)).more (Jb _ _).size) (Blk.new _ _ _) hc.size
theorem Jnf (A A' : Option Addr) (n c c' B m : Nat) (a b : List Rat) (w : World) (ha : ReadsR w B A n a) (hb : ReadsR w B A' n b) (hB : B <= w.heap.size) (hn : n <= 1000) (hm : 1 <= m) (hm2 : m <= 10000000) (sa : ∀ x ∈ a, QS m x) (sb : ∀ x ∈ b, QS m x) :
  Calls Tryz.prog 90 #[.slice A n c, .slice A' n c'] w (Jak (Xk a b) w) := by
 have HLA := lh ha.len
 have HLB := lh hb.len
 have HSZ := lh (Yq sa sb hm)
 have HA := lh ha
 have HBR := lh hb
 have HSA := lh sa
 have HSB := lh sb
 clear ha hb sa sb
 obtain ⟨b0, hB, hZ⟩ := bx1 w 56 #[.bool false, .slice none 0 0, .slice none 0 0]
 go_enter Tryz.func90, Tryz.ntmps90
 go_wp2_with fail
 generalize (w.alloc (.cells #[.bool false, .slice none 0 0, .slice none 0 0] 56)) = W at *
 refine (Jb9 0 W (by omega) (by omega)).mono ?_
 rintro e w1 ⟨v1, rfl, j9, e8⟩
 obtain ⟨g1, A1, l1, c1c, A1', l1', c1c', rfl⟩ := j9.shape
 have b0 := b0.below e8 b0.lt
 have dP := b0.lt
 have b0 := b0.alloc (.cells #[.bool g1, .slice A1 l1 c1c, .slice A1' l1' c1c'] 56)
 have aT := Jb w1 (.cells #[.bool g1, .slice A1 l1 c1c, .slice A1' l1' c1c'] 56)
 have HI : Hid (AccRel w w.heap.size w1.heap.size (Qq a b 0) (w1.alloc (.cells #[.bool g1, .slice A1 l1 c1c, .slice A1' l1' c1c'] 56))) :=
  lh ⟨g1, A1, l1, c1c, A1', l1', c1c', b0, Blk.new _ _ _, (j9.next zd aT).more aT.size, Ja (Ja hB e8) aT⟩
 have cB := Ja hB e8
 have dQ : w.heap.size <= w1.heap.size := cB.size
 clear b0 aT j9 hB cB e8
 go_wp2_with fail
 generalize w1.alloc (.cells #[.bool g1, .slice A1 l1 c1c, .slice A1' l1' c1c'] 56) = w2 at *
 generalize w1.heap.size = b3 at *
 have cC : w.heap.size ≠ b3 := by omega
 have dR : ¬ w.heap.size = b3 := cC
 have dS : ¬ b3 = w.heap.size := by omega
 go_loopw [6] (fun p wr => ∃ (k : Nat), k <= n /\ p = .int .i64 (k : Int) /\ AccRel w w.heap.size b3 (Qq a b k) wr) (fun p _ => n - (intOf p).toNat)
 case atStart => exact ⟨0, by omega, rfl, HI.out⟩
 case round =>
  obtain ⟨k, hk, rfl, g, Aa, l, c9, Aa', l', c9', h0, h3, hq, j8⟩ := hrel
  rename World => wr
  clear HI
  by_cases aU : k < n
  ·have k1 : (k : Int) < (n : Int) := by omega
   obtain ⟨x, hx⟩ : ∃ x, a[k]? = some x := ⟨_, List.getElem?_eq_getElem (by have := HLA.out; omega)⟩
   obtain ⟨y, hy⟩ : ∃ y, b[k]? = some y := ⟨_, List.getElem?_eq_getElem (by have := HLB.out; omega)⟩
   have cD := nt ‹B <= _› j8.size
   obtain ⟨ad, gx, ox, r, rfl, cH, aV, b1, iq1⟩ := (HA.out.below (j8.mono ‹B <= _›)).at_ hx aU
   obtain ⟨ad', gy, oy, r', rfl, cI, aW, b2, iq2⟩ := (HBR.out.below (j8.mono ‹B <= _›)).at_ hy aU
   have qx := HSA.out x (List.mem_of_getElem? hx)
   have qy := HSB.out y (List.mem_of_getElem? hy)
   have aM : Qq a b (k + 1) = Qq a b k + (x - y) * (x - y) := by
    show Qq a b k + _ = _
    rw [List.getD_eq_getElem?_getD, hx, List.getD_eq_getElem?_getD, hy]
    rfl
   have aN : QS 68719476736 (Qq a b k) := by
    refine (HSZ.out k).mono ?_
    have := Nat.mul_le_mul (show k <= 1000 by omega) (show 4 * m + 3 <= 40000003 by omega)
    omega
   have qd : QS 20000001 (x - y) := (qx.sub qy).mono (by omega)
   have qp : QS 40000002 ((x - y) * (x - y)) := (qd.mul qd).mono (by omega)
   have e9 := fun w' (p7 : Below wr.heap.size wr w') => Jm9 x y wr.heap.size _ _ w' ((iq1.more cD).below p7) ((iq2.more cD).below p7) p7.size (qx.mono (by omega)) (qy.mono (by omega))
   generalize hde : x - y = d at *
   obtain ⟨rg, rA, rl, rc, rA', rl', rc'⟩ := r
   obtain ⟨sg, sA, sl, sc, sA', sl', sc'⟩ := r'
   unfold RC.v at e9
   simp only [] at b1 b2 e9
   have HSUB := lh e9
   have HST := lh aM
   have HQS := lh aN
   have HQD := lh qd
   have HQP := lh qp
   have HBW := lh j8
   have HQ := lh hq
   clear e9 aM qx qy aN qd qp hx hy j8 aV aW iq1 iq2 hq hde
   have dT := h0.lt
   have dU := h3.lt
   go_upto_region 5 with fail
   go_cut [7] (fun v wc => Jf4 wr d v wc)
   case first =>
    obtain ⟨aX, aY, aZ⟩ := b1.c3; have c1 := b1.drew; have p8 := c1.lt; obtain ⟨bA, bB, bC⟩ := b2.c3; have c2 := b2.drew; have p9 := c2.lt; have hc := Ji wr; go_region_held3 (fun w' => w'.cell? ⟨gx, ox, none⟩ = some (.bool rg) /\ w'.cell? ⟨gx, ox + 1, none⟩ = some (.slice rA rl rc) /\ w'.cell? ⟨gx, ox + 2, none⟩ = some (.slice rA' rl' rc') /\ w'.cell? ⟨gy, oy, none⟩ = some (.bool sg) /\ w'.cell? ⟨gy, oy + 1, none⟩ = some (.slice sA sl sc) /\ w'.cell? ⟨gy, oy + 2, none⟩ = some (.slice sA' sl' sc')) (go_keep) (first | (go_at_call 131; (first | with_reducible refine (HSUB.out _ hc).mono ?_ | (have aO : wr.heap.size <= wr.heap.size := hc.size; have ca : Blk _ wr.heap.size _ _ := Blk.new wr.drew 56 #[.bool false, .slice none 0 0, .slice none 0 0]; have y8 := Jv (show _ < wr.heap.size from p8) zd; have c1 := c1.alloc (.cells #[.bool false, .slice none 0 0, .slice none 0 0] 56); have y9 := Jv (show _ < wr.heap.size from p9) zd; have c2 := c2.alloc (.cells #[.bool false, .slice none 0 0, .slice none 0 0] 56); have hc := Ja hc (Jb _ (.cells #[.bool false, .slice none 0 0, .slice none 0 0] 56)); with_reducible refine (HSUB.out _ hc).mono ?_) | (have aO : wr.heap.size <= wr.heap.size := hc.size; have ca : Blk (wr.alloc (.cells #[.bool false, .slice none 0 0, .slice none 0 0] 56)).drew wr.heap.size _ _ := Blk.new wr.drew 56 #[.bool false, .slice none 0 0, .slice none 0 0]; have y8 := Jv (show _ < wr.heap.size from p8) zd; have c1 : AtR (wr.alloc (.cells #[.bool false, .slice none 0 0, .slice none 0 0] 56)).drew _ _ _ := c1.alloc (.cells #[.bool false, .slice none 0 0, .slice none 0 0] 56); have y9 := Jv (show _ < wr.heap.size from p9) zd; have c2 : AtR (wr.alloc (.cells #[.bool false, .slice none 0 0, .slice none 0 0] 56)).drew _ _ _ := c2.alloc (.cells #[.bool false, .slice none 0 0, .slice none 0 0] 56); have hc : Below wr.heap.size wr (wr.alloc (.cells #[.bool false, .slice none 0 0, .slice none 0 0] 56)).drew := Ja hc (Jb _ (.cells #[.bool false, .slice none 0 0, .slice none 0 0] 56)); with_reducible refine (HSUB.out _ hc).mono ?_)); rintro e w1 ⟨v1, rfl, j9, e8⟩; obtain ⟨g1, A1, l1, c1c, A1', l1', c1c', bW⟩ := j9.shape; subst bW; (try have ca := ca.below e8 ca.lt); (try clear q8 s9 t7); obtain ⟨c1, q8, s9, t7⟩ := c1.zc3 e8; (try clear p8); have p8 := c1.lt; (try clear aA aB aC); obtain ⟨c2, aA, aB, aC⟩ := c2.zc3 e8; (try clear p9); have p9 := c2.lt; have hc := Ja hc e8; (try (have cN := ca.lt; obtain ⟨bF, bG, bH, bI, bJ, bK, bL, bM, bN⟩ := ca.f3))))
    all_goals
     go_wp2
     go_meet
     first | with_reducible exact Jcs hc j9 | with_reducible exact Jf1 hc j9 ca aO | with_reducible exact Jjs hc j9
   case rest =>
    obtain ⟨g7, ng, A7, l7, c7, A7', l7', c7', rfl, cV, b7, bX, o9⟩ := hcut
    rename World => W2
    have b0 := h0.below o9 dT
    have b3' := h3.below o9 dU
    have ne1 : ¬ b3 = g7 := by omega
    have ne2 : ¬ g7 = b3 := by omega
    have aR := HBW.out.trans (o9.mono HBW.out.size)
    have cE := (HQ.out.next zd o9).more o9.size
    have HM := lh (fun w' (p7 : Below W2.heap.size W2 w') => Jnc d d W2.heap.size _ _ w' (bX.below p7) (bX.below p7) p7.size (HQD.out.mono (by omega)) (HQD.out.mono (by omega)))
    have HA2 := lh (fun w' V' (p7 : Below W2.heap.size W2 w') (hv : IsQ w' w'.heap.size V' (d * d)) => Jda (Qq a b k) (d * d) w'.heap.size _ V' w' ((cE.next zd p7).more p7.size) hv zd (HQS.out.mono (by omega)) (HQP.out.mono (by omega)))
    rw [<- HST.out] at HA2
    have HB2 := lh aR
    obtain ⟨s', aL⟩ : ∃ s', Qq a b (k + 1) = s' := ⟨_, rfl⟩
    rw [aL] at HA2
    have HS' := lh aL
    clear aL
    clear h0 h3 b1 b2 HSUB bX cE aR
    go_upto_region 6 with fail
    obtain ⟨b3'q0, b3'q1, b3'q2⟩ := b3'.c3; have c3' := b3'.drew; have x7 := c3'.lt; obtain ⟨bO, bP, bQ⟩ := b7.c3; have c7 := b7.drew; have t8 := c7.lt; have c0 := b0.drew; have u4 := c0.lt; have hc := Ji W2; go_region_with (first | (go_at_call 30; (with_reducible refine (HM.out _ hc).mono ?_); rintro e w1 ⟨v1, rfl, j9, e8⟩; obtain ⟨g1, A1, l1, c1c, A1', l1', c1c', bW⟩ := j9.shape; subst bW; have c3' := c3'.below e8 c3'.lt; (try clear o6 o7 o8); obtain ⟨o6, o7, o8⟩ := c3'.c3; (try clear x7); have x7 := c3'.lt; (try clear j0 j6 j7); obtain ⟨c7, j0, j6, j7⟩ := c7.zc3 e8; (try clear t8); have t8 := c7.lt; have c0 := c0.below e8 c0.lt; (try clear u4); have u4 := c0.lt; have hc := Ja hc e8) | (go_at_call 94; (with_reducible refine (HA2.out _ _ hc j9).mono ?_); rintro e w2 ⟨v2, rfl, cF, o0⟩; obtain ⟨g2, A2, l2, c2c, A2', l2', c2c', dV⟩ := cF.shape; subst dV; have c3' := c3'.below o0 c3'.lt; (try clear o6 o7 o8); obtain ⟨o6, o7, o8⟩ := c3'.c3; (try clear x7); have x7 := c3'.lt; (try clear j0 j6 j7); obtain ⟨c7, j0, j6, j7⟩ := c7.zc3 o0; (try clear t8); have t8 := c7.lt; have c0 := c0.below o0 c0.lt; (try clear u4); have u4 := c0.lt; have j9 := (j9.next zd o0).more o0.size; have hc := Ja hc o0; obtain ⟨_, _, _, f0, f1, f2, z0, z1, z2⟩ := c3'.f3))
    all_goals
     go_wp2
     exact ⟨⟨k + 1, by omega, by go_num, by rw [HS'.out]; exact AccRel.store c0 c3' cF (Ja HB2.out hc) cC dQ⟩, by simp [intOf]; omega⟩
  obtain rfl : k = n := by omega
  have k1 : ¬ (k : Int) < (k : Int) := by omega
  have cG : Qq a b k = Xk a b := by unfold Xk; rw [HLA.out]
  rw [cG] at hq
  have HF := lh (Zg (Below.refl _ _) j8 hq h0 zd)
  obtain ⟨dW, dX, dY⟩ := h3.c3
  obtain ⟨dZ, eA, eB, eC, eD, eE, bY, bZ, cA⟩ := h0.f3
  clear hq j8 cG
  go_wp2
  refine bodyPost_ret (v := .agg #[.bool g, .slice Aa l c9, .slice Aa' l' c9']) (by simp [results, Tryz.results90, go_sem, bY, bZ, cA]) rfl ?_
  exact HF.out
theorem Xq {B k : Nat} {w w' : World} {ad : Addr} {v : Value} (hb : Below B w w') (h : w.cell? (ad.add k) = some v) (eF : ad.block < B) : w'.cell? (ad.add k) = some v := by
 rw [hb.cell (p := ad.add k) (by rw [Jt]; exact eF)]
 exact h
theorem Jfy (x y : Rat) : Vq x y = 0 ↔ x = y := by
 unfold Vq
 by_cases h : x < y
 ·rw [if_pos h]
  exact ⟨fun e => absurd e (by omega), fun e => by subst e; grind⟩
 rw [if_neg h]
 by_cases h2 : y < x
 ·rw [if_pos h2]
  exact ⟨fun e => absurd e (by omega), fun e => by subst e; grind⟩
 rw [if_neg h2]
 exact ⟨fun _ => by grind, fun _ => rfl⟩
structure FarTo (x : List (List Rat)) (i j : Nat) (E : Nat -> Nat -> Rat) : Prop where
 old : ∀ a b, a < i -> b < i -> E a b = Xk (x.getD a []) (x.getD b [])
 row : ∀ b, b < j -> E i b = Xk (x.getD i []) (x.getD b [])
 col : ∀ b, b < j -> E b i = Xk (x.getD i []) (x.getD b [])
 diag : E i i = 0
theorem FarTo.next {x : List (List Rat)} {i : Nat} {E : Nat -> Nat -> Rat} (h : FarTo x i i E) (hl : ∀ a b, a <= i -> b <= i -> (x.getD a []).length = (x.getD b []).length) : ∀ a b, a < i + 1 -> b < i + 1 -> E a b = Xk (x.getD a []) (x.getD b []) := by
 intro a b ha hb
 by_cases h1 : a = i
 ·subst h1
  by_cases h2 : b = a
  ·subst h2; rw [h.diag, Jk6]
  exact h.row b (by omega)
 by_cases h2 : b = i
 ·subst h2
  rw [h.col a (by omega), Jk7 (hl b a (by omega) (by omega))]
 exact h.old a b (by omega) (by omega)
theorem FarTo.store {x : List (List Rat)} {i j : Nat} {E : Nat -> Nat -> Rat} {q : Rat} (h : FarTo x i j E) (hj : j < i) (hq : q = Xk (x.getD i []) (x.getD j [])) :
  FarTo x i (j + 1) (fun a b => if a = j then (if b = i then q else (fun a b => if a = i then (if b = j then q else E i b) else E a b) j b) else (fun a b => if a = i then (if b = j then q else E i b) else E a b) a b) := by
 refine ⟨fun a b ha hb => ?_, fun b hb => ?_, fun b hb => ?_, ?_⟩
 ·have e1 : ¬ a = i := by omega
  have e2 : ¬ b = i := by omega
  by_cases h1 : a = j
  ·subst h1
   simp only [if_true, e1, e2, if_false]
   exact h.old a b ha hb
  simp only [h1, e1, if_false]
  exact h.old a b ha hb
 ·have e1 : ¬ i = j := by omega
  simp only [e1, if_false, if_true]
  by_cases h1 : b = j
  ·rw [if_pos h1, h1, hq]
  rw [if_neg h1]; exact h.row b (by omega)
 ·by_cases h1 : b = j
  ·subst h1
   simp only [if_true]
   exact hq
  have e1 : ¬ b = i := by omega
  simp only [h1, e1, if_false]
  exact h.col b (by omega)
 have e1 : ¬ i = j := by omega
 simp only [e1, if_false, if_true]
 exact h.diag
theorem Jjy (w : World) (p q r s t : Addr) (x y z u v : Value) : (((((w.setCell p x).setCell q y).setCell r z).setCell s u).setCell t v).heap.size = w.heap.size := by simp
theorem Yv {g n c y : Nat} (h : (Value.slice (some ⟨g, 0, none⟩) n c).ownBlock = some y) : g = y := by simpa [Value.ownBlock] using h
theorem OwnQ.addr' {w : World} {A : Option Addr} {n c : Nat} {l : List Rat} (h : OwnQ w (.slice A n c) l) (hn : 0 < l.length) : ∃ g, A = some ⟨g, 0, none⟩ /\ n = l.length := by
 obtain ⟨g, hg⟩ := OwnQ.addr h hn
 exact ⟨g, hg, OwnQ.len h⟩
theorem Zz {zs : List Int} {m n : Nat} {l : List Rat} (h : l ∈ Qp zs m n) : ∃ zs', l = Ud zs' m := by
 obtain ⟨i, _, rfl⟩ := List.mem_map.1 h
 exact ⟨_, rfl⟩
