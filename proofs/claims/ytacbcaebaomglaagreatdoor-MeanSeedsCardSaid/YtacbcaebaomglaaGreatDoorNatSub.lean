import Derived.Test.YtacbcaebaomglaaGreatDoorNatC
namespace Go.Proofs.YtacbcaebaomglaaGreatDoor
set_option maxRecDepth 100000
set_option maxHeartbeats 1000000
open Go.RowKit
set_option linter.all false
def Jmx (W : World) (gX cX n : Nat) (AY : Option Addr) (lY : List Nat) (s i : Nat) (c : Nat) (wr : World) : Prop :=
 ∃ l : List Nat, l.length = n /\ Own wr 59 Jk (.slice (some ⟨gX, 0, none⟩) l.length cX) l /\ Dig 18446744073709551616 l /\ dv 18446744073709551616 l + dv 18446744073709551616 (lY.take i) = s + c * 18446744073709551616 ^ i /\ Reads wr wr.heap.size 1 AY lY.length (lY.map Jk) /\ Below W.heap.size W wr
def Jm6 (a b : Nat) : Value := if a < b then .tuple #[Jh 0, .bool false] else .tuple #[Jh (a - b), .bool true]
theorem Jgh (a b : Nat) (w : World) (ha : Je a <= 1099511627776) (hb : Je b <= 1099511627776) : Calls Tryz.prog 138 #[Jh a, Jh b] w (Ret (Jm6 a b) w) := by
 have aN := Qu a ha
 have bI := Qu b hb
 unfold Jm6
 by_cases t8 : a < b
 ·rw [if_pos t8, Jce]
  have e := Zu t8
  unfold Jh
  obtain ⟨b0, b1, b2, hB, hZ⟩ := bx3 w 61 #[.int .u64 (lo a : Int), .string (mo a)] 61 #[.int .u64 (lo b : Int), .string (mo b)] 61 #[.int .u64 0, .string ⟨#[]⟩]
  go_enter Tryz.func138, Tryz.ntmps138
  go_wp2_with fail
  generalize (((w.alloc (.cells #[.int .u64 (lo a : Int), .string (mo a)] 61)).alloc (.cells #[.int .u64 (lo b : Int), .string (mo b)] 61)).alloc (.cells #[.int .u64 0, .string ⟨#[]⟩] 61)) = W at *
  refine (Zt a b W (by omega) (by omega)).mono ?_
  rintro e1 w1 ⟨rfl, j0⟩
  rw [e]
  have u4 := Ja hB j0
  (try clear j6 j7 j8 j9 e8 e9); obtain ⟨b2, j6, j7, j8, j9, e8, e9⟩ := b2.zf2 j0
  clear e b0 b1 t8
  go_wp2
  refine bodyPost_ret (v := .tuple #[.agg #[.int .u64 0, .string ⟨#[]⟩], .bool false]) (by simp [results, Tryz.results138, go_sem, e8, e9]) rfl ?_
  exact ⟨rfl, Za u4 (by omega) _ _⟩
 rw [if_neg t8]
 have bJ : ¬ Qx a b < 0 := by
  unfold Qx
  rw [if_neg t8]
  split <;> omega
 obtain ⟨cv, x7⟩ : ∃ cv, Qx a b = cv := ⟨_, rfl⟩
 rw [x7] at bJ
 by_cases aC : a < 18446744073709551616
 ·have bK : b < 18446744073709551616 := by omega
  have e2 : Jh (a - b) = .agg #[.int .u64 ((a : Int) - (b : Int)), .string ⟨#[]⟩] := by
   unfold Jh
   rw [Ju (a - b) (by omega), Qa (a - b) (by omega)]
   congr 4
   omega
  rw [e2]
  have k1 : (0 : Int) <= (a : Int) - (b : Int) := by omega
  have k2 : (a : Int) - (b : Int) <= 18446744073709551615 := by omega
  have k3 : IntKind.u64.wrap ((a : Int) - (b : Int)) = (a : Int) - (b : Int) := by
   simp only [IntKind.wrap, IntKind.bits, IntKind.signed]
   simp
   omega
  have hm := Kt a aC
  have aO := lh (Ju a aC)
  have aP := lh (Ju b bK)
  obtain ⟨bL, hm2⟩ := hm
  unfold Jh
  obtain ⟨b0, b1, b2, hB, hZ⟩ := bx3 w 61 #[.int .u64 (lo a : Int), .string (mo a)] 61 #[.int .u64 (lo b : Int), .string (mo b)] 61 #[.int .u64 0, .string ⟨#[]⟩]
  have HCV := lh x7
  clear x7 t8 e2
  go_enter Tryz.func138, Tryz.ntmps138
  go_wp2_with fail
  generalize (((w.alloc (.cells #[.int .u64 (lo a : Int), .string (mo a)] 61)).alloc (.cells #[.int .u64 (lo b : Int), .string (mo b)] 61)).alloc (.cells #[.int .u64 0, .string ⟨#[]⟩] 61)) = W at *
  refine (Zt a b W (by omega) (by omega)).mono ?_
  rintro e1 w1 ⟨rfl, j0⟩
  rw [HCV.out]
  have u4 := Ja hB j0
  (try clear o0 o8); obtain ⟨b0, o0, o8⟩ := b0.zc2 j0; (try clear o6 o9); obtain ⟨b1, o6, o9⟩ := b1.zc2 j0
  (try clear j6 j7 j8 j9 e8 e9); obtain ⟨b2, j6, j7, j8, j9, e8, e9⟩ := b2.zf2 j0
  rw [aO.out] at o0
  rw [aP.out] at o6
  clear aO aP
  go_wp2
  refine bodyPost_ret (v := .tuple #[.agg #[.int .u64 ((a : Int) - (b : Int)), .string ⟨#[]⟩], .bool true]) (by simp [results, Tryz.results138, go_sem, e8, e9]) rfl ?_
  exact ⟨rfl, Za u4 (by omega) _ _⟩
 obtain ⟨bL, hm2⟩ := Ka a aC
 unfold Jh
 obtain ⟨b0, b1, b2, hB, hZ⟩ := bx3 w 61 #[.int .u64 (lo a : Int), .string (mo a)] 61 #[.int .u64 (lo b : Int), .string (mo b)] 61 #[.int .u64 0, .string ⟨#[]⟩]
 have HCV := lh x7
 clear x7
 go_enter Tryz.func138, Tryz.ntmps138
 go_wp2_with fail
 generalize (((w.alloc (.cells #[.int .u64 (lo a : Int), .string (mo a)] 61)).alloc (.cells #[.int .u64 (lo b : Int), .string (mo b)] 61)).alloc (.cells #[.int .u64 0, .string ⟨#[]⟩] 61)) = W at *
 refine (Zt a b W (by omega) (by omega)).mono ?_
 rintro e1 w1 ⟨rfl, j0⟩
 rw [HCV.out]
 have u4 := Ja hB j0
 (try clear o0 o8); obtain ⟨b0, o0, o8⟩ := b0.zc2 j0; (try clear o6 o9); obtain ⟨b1, o6, o9⟩ := b1.zc2 j0
 have b2 := b2.below j0 b2.lt
 have cA := j0.size
 go_upto_region 5 with fail
 go_cut [6, 7] (fun v7 v8 wc => Two w1 (Jf a) (Jf b) v7 v8 wc)
 case first =>
  have c0 := b0.drew
  have c1 := b1.drew
  go_region_held3 (fun w' => w'.cell? ⟨w.heap.size, 0, none⟩ = some (.int .u64 (lo a : Int)) /\ w'.cell? ⟨w.heap.size, 1, none⟩ = some (.string (mo a)) /\ w'.cell? ⟨w.heap.size + 1, 0, none⟩ = some (.int .u64 (lo b : Int)) /\ w'.cell? ⟨w.heap.size + 1, 1, none⟩ = some (.string (mo b))) (go_keep) (first | (go_at_call_of 127 (Value.agg #[.int .u64 (lo a : Int), .string (mo a)]); refine (Xz a _ (by omega) (by omega)).mono ?_; rintro e wa ⟨va, rfl, aD⟩; have aQ := aD.2.1; (try clear p8 p9); obtain ⟨c0, p8, p9⟩ := c0.zc2 aQ; (try clear q8 s9); obtain ⟨c1, q8, s9⟩ := c1.zc2 aQ) | (go_at_call_of 127 (Value.agg #[.int .u64 (lo b : Int), .string (mo b)]); refine (Xz b _ (by omega) (by omega)).mono ?_; rintro e wb ⟨vb, rfl, aE⟩; have aR := aE.2.1; (try clear p8 p9); obtain ⟨c0, p8, p9⟩ := c0.zc2 aR; (try clear q8 s9); obtain ⟨c1, q8, s9⟩ := c1.zc2 aR))
  all_goals
   go_wp2_with fail
   go_meet
   first | exact Two.ab aD aE | exact Two.ba aE aD
 case rest =>
  have x8 : (Jf b).length <= (Jf a).length := by
   rcases Nat.lt_or_ge (Jf a).length (Jf b).length with h | h
   ·have := Zc h
    omega
   exact h
  have bM : XY w1 (a + b) u6 u7 wc := XY.of hcut x8 (Xo a (by omega)) aN (Jp a) (Jp b) (by rw [Jm, Jm])
  obtain ⟨aB, aF, aS, aT, bN, aU⟩ := hcut
  obtain ⟨A7, c7, rfl, bO, _⟩ := aB.form
  obtain ⟨AY, cY, rfl, _, _⟩ := aF.form
  obtain ⟨gX, rfl⟩ := aB.addr (Xo a (by omega))
  have bP := aT gX rfl
  have aV := Own.reads aF
  have bQ : ∀ ad, AY = some ad -> ad.block ≠ gX := fun ad he e => aU gX rfl (by rw [he, <- e]; rfl)
  have aW := Jp a
  have bR := Jp b
  have aX := Jm a
  have aY := Jm b
  clear bM aF aT bN aU b0 b1 o0 o8 o6 o9
  generalize Jf a = lX at *
  generalize Jf b = lY at *
  obtain ⟨p, hp⟩ : ∃ p, lX.length = p := ⟨_, rfl⟩
  obtain ⟨q, hq⟩ : ∃ q, lY.length = q := ⟨_, rfl⟩
  rw [hp, hq] at x8
  rw [hp] at aN bO
  rw [hp, hq]
  have HP := lh (And.intro hp hq)
  have HV := lh (And.intro aX aY)
  clear aX aY bI
  go_wp2_with fail
  go_loopw [8, 31] (fun c i wr => ∃ k c' : Nat, k <= p /\ c' <= 1 /\ i = .int .i64 k /\ c = .int .u64 c' /\ Jmx w1 gX c7 p AY lY a k c' wr) (fun _ i _ => p - (intOf i).toNat)
  case atStart => exact ⟨0, 0, Nat.zero_le _, Nat.zero_le _, rfl, rfl, lX, hp, aB, aW, by simp [dv]; exact HV.out.1, aV, aS⟩
  case round =>
   obtain ⟨k, c', hk, bS, rfl, rfl, l, hl, ho, hd, aZ, hr, x9⟩ := hrel
   clear hp hq aB aV aS aW
   have HL := lh hl
   have HDV := lh aZ
   have y8 := hr
   rw [HP.out.2] at y8
   clear hl aZ
   by_cases aG : k < p
   ·obtain ⟨x, hx⟩ : ∃ x, l[k]? = some x := ⟨_, List.getElem?_eq_getElem (by rw [HL.out]; exact aG)⟩
    have bT := ho.cellf hx
    have cB := ho.frozenf k
    unfold Jk at bT
    have bU : (k : Int) < (p : Int) := by omega
    obtain ⟨y, o7, cC⟩ : ∃ y : Nat, (lY[k]? = some y \/ (q <= k /\ y = 0)) /\ y < 18446744073709551616 := by
     by_cases aH : k < q
     ·obtain ⟨y, hy⟩ : ∃ y, lY[k]? = some y := ⟨_, List.getElem?_eq_getElem (by rw [HP.out.2]; exact aH)⟩
      exact ⟨y, .inl hy, bR.get hy⟩
     exact ⟨0, .inr ⟨by omega, rfl⟩, by omega⟩
    have cD := hd.get hx
    obtain ⟨S, hS⟩ : ∃ S, (x + 18446744073709551616 - y - c') % 18446744073709551616 = S := ⟨_, rfl⟩
    obtain ⟨C, hC⟩ : ∃ C, (if x < y + c' then 1 else 0) = C := ⟨_, rfl⟩
    have bV : S < 18446744073709551616 := by omega
    have bA : C <= 1 := by rw [<- hC]; split <;> omega
    have bB : S + y + c' = x + 18446744073709551616 * C := by
     rw [<- hC]
     split <;> omega
    have y9 : ∀ w, (callFunc 173 #[.int .u64 (x : Int), .int .u64 (y : Int), .int .u64 (c' : Int)]).run Tryz.prog w = .ok (.value (.tuple #[.int .u64 (S : Int), .int .u64 (C : Int)])) w := fun w => by
     have := Jc8 x y c' bS w
     rw [hS, hC] at this
     exact this
    have bC : dv 18446744073709551616 (lY.take (k + 1)) = dv 18446744073709551616 (lY.take k) + y * 18446744073709551616 ^ k := by
     rcases o7 with o7 | ⟨o7, rfl⟩
     ·exact Js o7
     rw [Qo (by rw [HP.out.2]; omega), Qo (by rw [HP.out.2]; omega)]
     omega
    have t7 := Ut (s := S) (c' := C) (b := y) hx bB HDV.out
    rw [<- bC] at t7
    have bD := ho.store k S
    have bE : Reads (wr.setCell ⟨gX, k, none⟩ (Jk S)) wr.heap.size 1 AY lY.length (lY.map Jk) := Reads.setFar hr (fun ad he => bQ ad he) _
    have bF := x9.setCell (p := ⟨gX, k, none⟩) bP (Jk S)
    have aA : Jmx w1 gX c7 p AY lY a (k + 1) C (wr.setCell ⟨gX, k, none⟩ (Jk S)) := by
     refine ⟨l.set k S, by rw [List.length_set]; exact HL.out, ?_, hd.set_ k bV, t7, ?_, bF⟩
     ·rw [List.length_set]; exact bD
     rw [World.size_setCell]; exact bE
    have HFIN := lh aA
    clear hS hC hx bC t7 bD bE bF aA ho hd x9 hr bB
    rcases o7 with o7 | ⟨o7, rfl⟩
    ·have aH : k < q := by rw [<- HP.out.2]; exact (List.getElem?_eq_some_iff.1 o7).1
     obtain ⟨ad, y', bW, _, aI, bX⟩ := y8.atf aH
     rw [o7] at aI
     obtain rfl : y = y' := by simpa using aI
     have aJ : (k : Int) < (q : Int) := by omega
     unfold Jk at bX
     clear aI o7 y8
     subst bW
     go_wp2
     exact ⟨⟨k + 1, C, by omega, bA, by go_num, rfl, HFIN.out⟩, by simp [intOf]; omega⟩
    have aJ : ¬ (k : Int) < (q : Int) := by omega
    have bG : ∀ w, (callFunc 173 #[.int .u64 (x : Int), .int .u64 0, .int .u64 (c' : Int)]).run Tryz.prog w = .ok (.value (.tuple #[.int .u64 (S : Int), .int .u64 (C : Int)])) w := y9
    clear y8 y9
    go_wp2
    exact ⟨⟨k + 1, C, by omega, bA, by go_num, rfl, HFIN.out⟩, by simp [intOf]; omega⟩
   obtain rfl : k = p := by omega
   have bU : ¬ (k : Int) < (k : Int) := by omega
   have p7 := HDV.out
   rw [Qo (by rw [HP.out.2]; omega), HV.out.2] at p7
   have b2 := b2.below x9 b2.lt
   have bY := Ja u4 x9
   have aK := Xm hd
   rw [HL.out] at aK
   have aL : c' = 0 := by
    rcases Nat.lt_or_ge c' 1 with h | h
    ·omega
    obtain rfl : c' = 1 := by omega
    omega
   subst aL
   rw [HL.out] at ho
   have aM := Own.reads ho
   rw [HL.out] at aM
   have e : dv 18446744073709551616 l = a - b := by omega
   have HE := lh e
   clear p7 hr y8 x9 ho e
   go_wp2_with fail
   refine (Qe _ k c7 _ l wr aM zd hd (by omega) (by omega)).mono ?_
   rintro e w4 ⟨rfl, bH⟩
   rw [HE.out]
   have bZ := Ja bY bH
   (try clear j6 j7 j8 j9 e8 e9); obtain ⟨b2, j6, j7, j8, j9, e8, e9⟩ := b2.zf2 bH
   clear aM
   unfold Jh
   generalize a - b = N at *
   go_wp2
   refine bodyPost_ret (v := .tuple #[.agg #[.int .u64 (lo N : Int), .string (mo N)], .bool true]) (by simp [results, Tryz.results138, go_sem, e8, e9]) rfl ?_
   exact ⟨rfl, Za bZ (by omega) _ _⟩
