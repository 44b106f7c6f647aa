import Derived.Test.YtacbcaebaomglaaGreatDoorLinkJoin
import Derived.Test.YtacbcaebaomglaaGreatDoorHandRows
import Derived.Test.YtacbcaebaomglaaGreatDoorFracMul
import Derived.Test.YtacbcaebaomglaaGreatDoorRefSub
import Derived.Deep.DeepCutAuto
import Derived.Deep.CutBlock
import Derived.Test.YtacbcaebaomglaaGreatDoorFracCmp
import Derived.RegionTactic
namespace Go.Proofs.YtacbcaebaomglaaGreatDoor
set_option maxRecDepth 100000
set_option maxHeartbeats 4000000
set_option linter.all false
theorem QS.nat {k n : Nat} (h : n < 2 ^ k) (hk : 1 <= k) : QS k (n : Rat) := by
 refine ⟨?_, ?_⟩
 ·show Je ((n : Rat).num.natAbs) <= k
  rw [Rat.num_natCast, Int.natAbs_natCast]
  exact Xw n k h
 rw [Rat.den_natCast]
 exact Xw 1 k (by have := Nat.pow_le_pow_right (show 0 < 2 by omega) hk; omega)
open Go.RowKit
theorem Jc6 (A A' : Option Addr) (n c c' B m : Nat) (a b : List Rat) (w : World) (ha : ReadsQ w B A n a) (hb : ReadsQ w B A' n b) (hB : B <= w.heap.size) (hn : n <= 1000) (hm : 1 <= m) (hm2 : m <= 10000000) (sa : ∀ x ∈ a, QS m x) (sb : ∀ x ∈ b, QS m x) (hT : Tab w) :
  Calls Tryz.prog 97 #[.slice A n c, .slice A' n c'] w (Ret (qV (Zj a b)) w) := by
 have HLA := lh ha.len
 have HLB := lh hb.len
 have HSZ := lh (Ua sa sb hm)
 have HA := lh ha
 have HBR := lh hb
 have HSA := lh sa
 have HSB := lh sb
 have HT := lh hT
 clear ha hb sa sb hT
 go_enter Tryz.func97, Tryz.ntmps97
 go_wp2_with fail
 have b0 := (Blk.new w 65 #[.bool false, .int .u64 0, .string ⟨#[]⟩, .int .u64 0, .string ⟨#[]⟩]).alloc (.cells #[.bool false, .int .u64 0, .string ⟨#[]⟩, .int .u64 0, .string ⟨#[]⟩] 65)
 have b1 := Blk.new2 w (.cells #[.bool false, .int .u64 0, .string ⟨#[]⟩, .int .u64 0, .string ⟨#[]⟩] 65) 65 #[.bool false, .int .u64 0, .string ⟨#[]⟩, .int .u64 0, .string ⟨#[]⟩]
 have hW := Ji w (.cells #[.bool false, .int .u64 0, .string ⟨#[]⟩, .int .u64 0, .string ⟨#[]⟩] 65) (.cells #[.bool false, .int .u64 0, .string ⟨#[]⟩, .int .u64 0, .string ⟨#[]⟩] 65)
 generalize (w.alloc (.cells #[.bool false, .int .u64 0, .string ⟨#[]⟩, .int .u64 0, .string ⟨#[]⟩] 65)).alloc (.cells #[.bool false, .int .u64 0, .string ⟨#[]⟩, .int .u64 0, .string ⟨#[]⟩] 65) = W at *
 go_loopw [10] (fun p wr => ∃ (k : Nat) (s : Rat), k <= n /\ p = .int .i64 (k : Int) /\ Hid (Xt a b k = s) /\ Blk wr w.heap.size 65 #[.bool false, .int .u64 0, .string ⟨#[]⟩, .int .u64 0, .string ⟨#[]⟩] /\ Blk wr (w.heap.size + 1) 65 #[.bool (decide (s.num < 0)), .int .u64 (lo s.num.natAbs : Int), .string (mo s.num.natAbs), .int .u64 (lo ((qden s)) : Int), .string (mo ((qden s)))] /\ Below w.heap.size w wr) (fun p _ => n - (intOf p).toNat)
 case atStart => exact ⟨0, 0, by omega, rfl, lh rfl, b0, b1, hW⟩
 case round =>
  obtain ⟨k, s, hk, rfl, hs, c0, c1, p0⟩ := hrel
  clear b0 b1 hW
  rename World => wr
  by_cases dE : k < n
  ·have k1 : (k : Int) < (n : Int) := by omega
   obtain ⟨x, hx⟩ : ∃ x, a[k]? = some x := ⟨_, List.getElem?_eq_getElem (by have := HLA.out; omega)⟩
   obtain ⟨y, hy⟩ : ∃ y, b[k]? = some y := ⟨_, List.getElem?_eq_getElem (by have := HLB.out; omega)⟩
   obtain ⟨ad, g1, o1, rfl, dF, aU, b1⟩ := ReadsQ.at_ (HA.out.below (p0.mono hB)) hx
   obtain ⟨ad', g2, o2, rfl, dG, aV, b2⟩ := ReadsQ.at_ (HBR.out.below (p0.mono hB)) hy
   have qx := HSA.out x (List.mem_of_getElem? hx)
   have qy := HSB.out y (List.mem_of_getElem? hy)
   have aP : Xt a b (k + 1) = s + (x - y) * (x - y) := by
    rw [<- hs.out]
    show Xt a b k + _ = _
    rw [List.getD_eq_getElem?_getD, hx, List.getD_eq_getElem?_getD, hy]
    rfl
   have aQ : QS 68719476736 s := by
    rw [<- hs.out]
    refine (HSZ.out k).mono ?_
    have := Nat.mul_le_mul (show k <= 1000 by omega) (show 4 * m + 3 <= 40000003 by omega)
    omega
   have e9 := fun w (hT : Tab w) => Jjn x y w (qx.mono (by omega)) (qy.mono (by omega)) hT
   have qd : QS 20000001 (x - y) := (qx.sub qy).mono (by omega)
   generalize x - y = d at *
   have j0 := fun w (hT : Tab w) => Jfn d d w (qd.mono (by omega)) (qd.mono (by omega)) hT
   have qp : QS 40000002 (d * d) := (qd.mul qd).mono (by omega)
   generalize d * d = p at *
   have j6 := fun w (hT : Tab w) => Jai s p w (aQ.mono (by omega)) (qp.mono (by omega)) hT
   generalize s + p = s' at *
   unfold qV at e9 j0 j6
   have HSUB := lh e9
   have HMUL := lh j0
   have HADD := lh j6
   have HST := lh aP
   have HBW := lh p0
   have tT := HT.out.next p0
   have g0 := c0.lt
   have g5 := c1.lt
   clear e9 j0 j6 aP qx qy aQ qd qp hx hy hs p0 aU aV
   go_upto_region 5 with fail
   go_cut [7] (fun v wc => Kr wr 65 #[.bool (decide (d.num < 0)), .int .u64 (lo d.num.natAbs : Int), .string (mo d.num.natAbs), .int .u64 (lo ((qden d)) : Int), .string (mo ((qden d)))] v wc)
   case first =>
    obtain ⟨aW, aX, aY, aZ, bA⟩ := b1.c5; have c1 := b1.drew; have s9 := c1.lt; obtain ⟨bB, bC, bD, bE, bF⟩ := b2.c5; have c2 := b2.drew; have t7 := c2.lt; have hc := Jl wr; go_region_held3 (fun w' => w'.cell? ⟨g1, o1, none⟩ = some (.bool (decide (x.num < 0))) /\ w'.cell? ⟨g1, o1 + 1, none⟩ = some (.int .u64 (lo x.num.natAbs : Int)) /\ w'.cell? ⟨g1, o1 + 2, none⟩ = some (.string (mo x.num.natAbs)) /\ w'.cell? ⟨g1, o1 + 3, none⟩ = some (.int .u64 (lo ((qden x)) : Int)) /\ w'.cell? ⟨g1, o1 + 4, none⟩ = some (.string (mo ((qden x)))) /\ w'.cell? ⟨g2, o2, none⟩ = some (.bool (decide (y.num < 0))) /\ w'.cell? ⟨g2, o2 + 1, none⟩ = some (.int .u64 (lo y.num.natAbs : Int)) /\ w'.cell? ⟨g2, o2 + 2, none⟩ = some (.string (mo y.num.natAbs)) /\ w'.cell? ⟨g2, o2 + 3, none⟩ = some (.int .u64 (lo ((qden y)) : Int)) /\ w'.cell? ⟨g2, o2 + 4, none⟩ = some (.string (mo ((qden y))))) (go_keep) (first | (go_at_call 136; (first | with_reducible refine (HSUB.out _ (tT.next hc)).mono ?_ | (have aR : wr.heap.size <= wr.heap.size := hc.size; have ca : Blk _ wr.heap.size _ _ := Blk.new wr.drew 65 #[.bool false, .int .u64 0, .string ⟨#[]⟩, .int .u64 0, .string ⟨#[]⟩]; have y8 := Jq (show _ < wr.heap.size from s9) zd; have c1 := c1.alloc (.cells #[.bool false, .int .u64 0, .string ⟨#[]⟩, .int .u64 0, .string ⟨#[]⟩] 65); have y9 := Jq (show _ < wr.heap.size from t7) zd; have c2 := c2.alloc (.cells #[.bool false, .int .u64 0, .string ⟨#[]⟩, .int .u64 0, .string ⟨#[]⟩] 65); have hc := Ja hc (Jb _ (.cells #[.bool false, .int .u64 0, .string ⟨#[]⟩, .int .u64 0, .string ⟨#[]⟩] 65)); with_reducible refine (HSUB.out _ (tT.next hc)).mono ?_) | (have aR : wr.heap.size <= wr.heap.size := hc.size; have ca : Blk (wr.alloc (.cells #[.bool false, .int .u64 0, .string ⟨#[]⟩, .int .u64 0, .string ⟨#[]⟩] 65)).drew wr.heap.size _ _ := Blk.new wr.drew 65 #[.bool false, .int .u64 0, .string ⟨#[]⟩, .int .u64 0, .string ⟨#[]⟩]; have y8 := Jq (show _ < wr.heap.size from s9) zd; have c1 : AtQ (wr.alloc (.cells #[.bool false, .int .u64 0, .string ⟨#[]⟩, .int .u64 0, .string ⟨#[]⟩] 65)).drew _ _ _ := c1.alloc (.cells #[.bool false, .int .u64 0, .string ⟨#[]⟩, .int .u64 0, .string ⟨#[]⟩] 65); have y9 := Jq (show _ < wr.heap.size from t7) zd; have c2 : AtQ (wr.alloc (.cells #[.bool false, .int .u64 0, .string ⟨#[]⟩, .int .u64 0, .string ⟨#[]⟩] 65)).drew _ _ _ := c2.alloc (.cells #[.bool false, .int .u64 0, .string ⟨#[]⟩, .int .u64 0, .string ⟨#[]⟩] 65); have hc : Below wr.heap.size wr (wr.alloc (.cells #[.bool false, .int .u64 0, .string ⟨#[]⟩, .int .u64 0, .string ⟨#[]⟩] 65)).drew := Ja hc (Jb _ (.cells #[.bool false, .int .u64 0, .string ⟨#[]⟩, .int .u64 0, .string ⟨#[]⟩] 65)); with_reducible refine (HSUB.out _ (tT.next hc)).mono ?_)); rintro e w1 ⟨rfl, e8⟩; (try have ca := ca.below e8 ca.lt); (try clear p7 p8 p9 q8 q9); obtain ⟨c1, p7, p8, p9, q8, q9⟩ := c1.zc5 e8; (try clear s9); have s9 := c1.lt; (try clear aA aB aC aD aE); obtain ⟨c2, aA, aB, aC, aD, aE⟩ := c2.zc5 e8; (try clear t7); have t7 := c2.lt; have hc := Ja hc e8; (try (have dH := ca.lt; obtain ⟨bG, bH, bI, bJ, bK, bL, bM, bN, bO, bP, bQ, bR, bS, bT, bU⟩ := ca.f5))))
    all_goals
     go_wp2
     go_meet
     first | with_reducible exact Zy hc | with_reducible exact Jbo hc ca aR | with_reducible exact Jbo (Ja hc (Jb _ _)) (Blk.new _ _ _) hc.size
   case rest =>
    obtain ⟨g7, rfl, dI, b7, t8⟩ := hcut
    rename World => W2
    have b0 := c0.below t8 g0
    have b5 := c1.below t8 g5
    have tT := tT.next t8
    have ne1 : ¬ w.heap.size + 1 = g7 := by omega
    have ne2 : ¬ g7 = w.heap.size + 1 := by omega
    have ne3 : ¬ w.heap.size = g7 := by omega
    have bV := HBW.out.trans (t8.mono HBW.out.size)
    clear c0 c1 b1 b2 HSUB
    go_upto_region 6 with fail
    obtain ⟨bW, bX, bY, bZ, cA⟩ := b5.c5; have c5 := b5.drew; have u4 := c5.lt; obtain ⟨cB, cC, cD, cE, cF⟩ := b7.c5; have c7 := b7.drew; have u5 := c7.lt; have c0 := b0.drew; have x7 := c0.lt; have hc := Jl W2; go_region_with (first | (go_at_call 31; (with_reducible refine (HMUL.out _ (tT.next hc)).mono ?_); rintro e w1 ⟨rfl, e8⟩; (try clear j7 j8 j9 l5 l7); obtain ⟨c5, j7, j8, j9, l5, l7⟩ := c5.zc5 e8; (try clear u4); have u4 := c5.lt; (try clear o0 o6 o7 o8 o9); obtain ⟨c7, o0, o6, o7, o8, o9⟩ := c7.zc5 e8; (try clear u5); have u5 := c7.lt; have c0 := c0.below e8 c0.lt; (try clear x7); have x7 := c0.lt; have hc := Ja hc e8) | (go_at_call 53; (with_reducible refine (HADD.out _ (tT.next hc)).mono ?_); rintro e w2 ⟨rfl, x8⟩; (try clear j7 j8 j9 l5 l7); obtain ⟨c5, j7, j8, j9, l5, l7⟩ := c5.zc5 x8; (try clear u4); have u4 := c5.lt; (try clear o0 o6 o7 o8 o9); obtain ⟨c7, o0, o6, o7, o8, o9⟩ := c7.zc5 x8; (try clear u5); have u5 := c7.lt; have c0 := c0.below x8 c0.lt; (try clear x7); have x7 := c0.lt; have hc := Ja hc x8; obtain ⟨_, _, _, _, _, f0, f1, f2, f3, f4, z0, z1, z2, z3, z4⟩ := c5.f5))
    all_goals
     go_wp2
     have e1 := ((((c5.set_ 0 (.bool (decide (s'.num < 0)))).set_ 1 (.int .u64 (lo s'.num.natAbs : Int))).set_ 2 (.string (mo s'.num.natAbs))).set_ 3 (.int .u64 (lo (qden s') : Int))).set_ 4 (.string (mo (qden s')))
     have e0 := ((((c0.far (p := ⟨w.heap.size + 1, 0, none⟩) (by simp) (.bool (decide (s'.num < 0)))).far (p := ⟨w.heap.size + 1, 1, none⟩) (by simp) (.int .u64 (lo s'.num.natAbs : Int))).far (p := ⟨w.heap.size + 1, 2, none⟩) (by simp) (.string (mo s'.num.natAbs))).far (p := ⟨w.heap.size + 1, 3, none⟩) (by simp) (.int .u64 (lo (qden s') : Int))).far (p := ⟨w.heap.size + 1, 4, none⟩) (by simp) (.string (mo (qden s')))
     exact ⟨⟨k + 1, s', by omega, by go_num, HST, e0, by simpa using e1, Zf (Ja bV hc) (by omega) _ _ _ _ _⟩, by simp [intOf]; omega⟩
  obtain rfl : k = n := by omega
  have aS : Zj a b = s := by rw [<- hs.out]; unfold Zj; rw [HLA.out]
  have HS2 := lh aS
  clear aS hs
  have dJ : ¬ (k : Int) < (k : Int) := by omega
  obtain ⟨cG, cH, cI, cJ, cK, cL, cM, cN, cO, cP, aF, aG, aH, aI, aJ⟩ := c0.f5
  obtain ⟨p7, p8, p9, q8, q9⟩ := c1.c5
  go_wp2
  refine bodyPost_ret (v := .agg #[.bool (decide (s.num < 0)), .int .u64 (lo s.num.natAbs : Int), .string (mo s.num.natAbs), .int .u64 (lo ((qden s)) : Int), .string (mo ((qden s)))]) (by simp [results, Tryz.results97, go_sem, aF, aG, aH, aI, aJ]) rfl ?_
  exact ⟨by rw [HS2.out]; rfl, Zf p0 (by omega) _ _ _ _ _⟩
theorem Ji8 (A A' : Option Addr) (n c c' B m : Nat) (a b : List Rat) (w : World) (ha : ReadsQ w B A n a) (hb : ReadsQ w B A' n b) (hB : B <= w.heap.size) (hn : n <= 1000) (hm : 1 <= m) (hm2 : m <= 10000000) (sa : ∀ x ∈ a, QS m x) (sb : ∀ x ∈ b, QS m x) (hT : Tab w) :
  Calls Tryz.prog 49 #[.slice A n c, .slice A' n c'] w (Ret (.tuple #[qV (Zj a b), .bool true]) w) := by
 have hf := fun w' (x9 : Below w.heap.size w w') => Jc6 A A' n c c' B m a b w' (ha.below (x9.mono hB)) (hb.below (x9.mono hB)) (nt hB x9.size) hn hm hm2 sa sb (hT.next x9)
 generalize Zj a b = q at *
 unfold qV at hf ⊢
 have HF := lh hf
 clear hf ha hb sa sb
 obtain ⟨b0, hB, hZ⟩ := bx1 w 65 #[.bool false, .int .u64 0, .string ⟨#[]⟩, .int .u64 0, .string ⟨#[]⟩]
 go_enter Tryz.func49, Tryz.ntmps49
 go_wp2_with fail
 generalize (w.alloc (.cells #[.bool false, .int .u64 0, .string ⟨#[]⟩, .int .u64 0, .string ⟨#[]⟩] 65)) = W at *
 refine (HF.out W hB).mono ?_
 rintro e w1 ⟨rfl, aT⟩
 have b0 := b0.below aT b0.lt
 obtain ⟨cQ, cS, cT, cU, cV, cW, cZ, dA, dB, dC, aK, aL, aM, aN, aO⟩ := b0.f5
 go_wp2
 refine bodyPost_ret (v := .tuple #[.agg #[.bool (decide (q.num < 0)), .int .u64 (lo q.num.natAbs : Int), .string (mo q.num.natAbs), .int .u64 (lo ((qden q)) : Int), .string (mo ((qden q)))], .bool true]) (by simp [results, Tryz.results49, go_sem, aK, aL, aM, aN, aO]) rfl ?_
 exact ⟨rfl, Zf (Ja hB aT) (by omega) _ _ _ _ _⟩
theorem Yq {B k : Nat} {w w' : World} {ad : Addr} {v : Value} (hb : Below B w w') (h : w.cell? (ad.add k) = some v) (dD : ad.block < B) : w'.cell? (ad.add k) = some v := by
 rw [hb.cell (p := ad.add k) (by rw [Jz]; exact dD)]
 exact h
theorem Jib (x y : Rat) : Jcb x y = 0 ↔ x = y := by
 unfold Jcb
 by_cases h : x < y
 ·rw [if_pos h]
  exact ⟨fun e => absurd e (by omega), fun e => by subst e; grind⟩
 rw [if_neg h]
 by_cases h2 : y < x
 ·rw [if_pos h2]
  exact ⟨fun e => absurd e (by omega), fun e => by subst e; grind⟩
 rw [if_neg h2]
 exact ⟨fun _ => by grind, fun _ => rfl⟩
structure FarTo (x : List (List Rat)) (i j : Nat) (E : Nat -> Nat -> Rat) : Prop where
 old : ∀ a b, a < i -> b < i -> E a b = Zj (x.getD a []) (x.getD b [])
 row : ∀ b, b < j -> E i b = Zj (x.getD i []) (x.getD b [])
 col : ∀ b, b < j -> E b i = Zj (x.getD i []) (x.getD b [])
 diag : E i i = 0
theorem FarTo.next {x : List (List Rat)} {i : Nat} {E : Nat -> Nat -> Rat} (h : FarTo x i i E) (hl : ∀ a b, a <= i -> b <= i -> (x.getD a []).length = (x.getD b []).length) : ∀ a b, a < i + 1 -> b < i + 1 -> E a b = Zj (x.getD a []) (x.getD b []) := by
 intro a b ha hb
 by_cases h1 : a = i
 ·subst h1
  by_cases h2 : b = a
  ·subst h2; rw [h.diag, Jh6]
  exact h.row b (by omega)
 by_cases h2 : b = i
 ·subst h2
  rw [h.col a (by omega), Jh7 (hl b a (by omega) (by omega))]
 exact h.old a b (by omega) (by omega)
theorem FarTo.store {x : List (List Rat)} {i j : Nat} {E : Nat -> Nat -> Rat} {q : Rat} (h : FarTo x i j E) (hj : j < i) (hq : q = Zj (x.getD i []) (x.getD j [])) :
  FarTo x i (j + 1) (fun a b => if a = j then (if b = i then q else (fun a b => if a = i then (if b = j then q else E i b) else E a b) j b) else (fun a b => if a = i then (if b = j then q else E i b) else E a b) a b) := by
 refine ⟨fun a b ha hb => ?_, fun b hb => ?_, fun b hb => ?_, ?_⟩
 ·have e1 : ¬ a = i := by omega
  have e2 : ¬ b = i := by omega
  by_cases h1 : a = j
  ·subst h1
   simp only [if_true, e1, e2, if_false]
   exact h.old a b ha hb
  simp only [h1, e1, if_false]
  exact h.old a b ha hb
 ·have e1 : ¬ i = j := by omega
  simp only [e1, if_false, if_true]
  by_cases h1 : b = j
  ·rw [if_pos h1, h1, hq]
  rw [if_neg h1]; exact h.row b (by omega)
 ·by_cases h1 : b = j
  ·subst h1
   simp only [if_true]
   exact hq
  have e1 : ¬ b = i := by omega
  simp only [h1, e1, if_false]
  exact h.col b (by omega)
 have e1 : ¬ i = j := by omega
 simp only [e1, if_false, if_true]
 exact h.diag
theorem Jgx (w : World) (p q r s t : Addr) (x y z u v : Value) : (((((w.setCell p x).setCell q y).setCell r z).setCell s u).setCell t v).heap.size = w.heap.size := by simp
theorem Zm {g n c y : Nat} (h : (Value.slice (some ⟨g, 0, none⟩) n c).ownBlock = some y) : g = y := by simpa [Value.ownBlock] using h
theorem OwnQ.addr' {w : World} {A : Option Addr} {n c : Nat} {l : List Rat} (h : OwnQ w (.slice A n c) l) (hn : 0 < l.length) : ∃ g, A = some ⟨g, 0, none⟩ /\ n = l.length := by
 obtain ⟨g, hg⟩ := OwnQ.addr h hn
 exact ⟨g, hg, OwnQ.len h⟩
