import Derived.Test.YtecnjlcfoobepaaGreatDoorNatC
namespace Go.Proofs.YtecnjlcfoobepaaGreatDoor
set_option maxRecDepth 100000
set_option maxHeartbeats 1000000
open Go.RowKit
set_option linter.all false
def Jql (W : World) (gX cX n : Nat) (AY : Option Addr) (lY : List Nat) (s i : Nat) (c : Nat) (wr : World) : Prop :=
 ∃ l : List Nat, l.length = n /\ Own wr 50 Jm (.slice (some ⟨gX, 0, none⟩) l.length cX) l /\ Dig 18446744073709551616 l /\ dv 18446744073709551616 l + dv 18446744073709551616 (lY.take i) = s + c * 18446744073709551616 ^ i /\ Reads wr wr.heap.size 1 AY lY.length (lY.map Jm) /\ Below W.heap.size W wr
def Jqx (a b : Nat) : Value := if a < b then .tuple #[Jj 0, .bool false] else .tuple #[Jj (a - b), .bool true]
theorem Jhh (a b : Nat) (w : World) (ha : Je a <= 1099511627776) (hb : Je b <= 1099511627776) : Calls Tryz.prog 173 #[Jj a, Jj b] w (Ret (Jqx a b) w) := by
 have aZ := Qz a ha
 have bU := Qz b hb
 unfold Jqx
 by_cases aF : a < b
 ·rw [if_pos aF, Jc0]
  have e := Zs aF
  unfold Jj
  obtain ⟨b0, b1, b2, hB, hZ⟩ := bx3 w 52 #[.int .u64 (lo a : Int), .string (mo a)] 52 #[.int .u64 (lo b : Int), .string (mo b)] 52 #[.int .u64 0, .string ⟨#[]⟩]
  go_enter Tryz.func173, Tryz.ntmps173
  go_wp2_with fail
  generalize (((w.alloc (.cells #[.int .u64 (lo a : Int), .string (mo a)] 52)).alloc (.cells #[.int .u64 (lo b : Int), .string (mo b)] 52)).alloc (.cells #[.int .u64 0, .string ⟨#[]⟩] 52)) = W at *
  refine (Zr a b W (by omega) (by omega)).mono ?_
  rintro e1 w1 ⟨rfl, j8⟩
  rw [e]
  have aG := Ja hB j8
  (try clear j9 o0 o5 s9 j6 j7); obtain ⟨b2, j9, o0, o5, s9, j6, j7⟩ := b2.zf2 j8
  clear e b0 b1 aF
  go_wp2
  refine bodyPost_ret (v := .tuple #[.agg #[.int .u64 0, .string ⟨#[]⟩], .bool false]) (by simp [results, Tryz.results173, go_sem, j6, j7]) rfl ?_
  exact ⟨rfl, Xz aG (by omega) _ _⟩
 rw [if_neg aF]
 have bV : ¬ Xd a b < 0 := by
  unfold Xd
  rw [if_neg aF]
  split <;> omega
 obtain ⟨cv, aH⟩ : ∃ cv, Xd a b = cv := ⟨_, rfl⟩
 rw [aH] at bV
 by_cases aO : a < 18446744073709551616
 ·have bW : b < 18446744073709551616 := by omega
  have e2 : Jj (a - b) = .agg #[.int .u64 ((a : Int) - (b : Int)), .string ⟨#[]⟩] := by
   unfold Jj
   rw [Jx (a - b) (by omega), Qc (a - b) (by omega)]
   congr 4
   omega
  rw [e2]
  have k1 : (0 : Int) <= (a : Int) - (b : Int) := by omega
  have k2 : (a : Int) - (b : Int) <= 18446744073709551615 := by omega
  have k3 : IntKind.u64.wrap ((a : Int) - (b : Int)) = (a : Int) - (b : Int) := by
   simp only [IntKind.wrap, IntKind.bits, IntKind.signed]
   simp
   omega
  have hm := Kt a aO
  have bA := lh (Jx a aO)
  have bB := lh (Jx b bW)
  obtain ⟨bX, bY⟩ := hm
  unfold Jj
  obtain ⟨b0, b1, b2, hB, hZ⟩ := bx3 w 52 #[.int .u64 (lo a : Int), .string (mo a)] 52 #[.int .u64 (lo b : Int), .string (mo b)] 52 #[.int .u64 0, .string ⟨#[]⟩]
  have HCV := lh aH
  clear aH aF e2
  go_enter Tryz.func173, Tryz.ntmps173
  go_wp2_with fail
  generalize (((w.alloc (.cells #[.int .u64 (lo a : Int), .string (mo a)] 52)).alloc (.cells #[.int .u64 (lo b : Int), .string (mo b)] 52)).alloc (.cells #[.int .u64 0, .string ⟨#[]⟩] 52)) = W at *
  refine (Zr a b W (by omega) (by omega)).mono ?_
  rintro e1 w1 ⟨rfl, j8⟩
  rw [HCV.out]
  have aG := Ja hB j8
  (try clear t7 x9); obtain ⟨b0, t7, x9⟩ := b0.zc2 j8; (try clear t8 y8); obtain ⟨b1, t8, y8⟩ := b1.zc2 j8
  (try clear j9 o0 o5 s9 j6 j7); obtain ⟨b2, j9, o0, o5, s9, j6, j7⟩ := b2.zf2 j8
  rw [bA.out] at t7
  rw [bB.out] at t8
  clear bA bB
  go_wp2
  refine bodyPost_ret (v := .tuple #[.agg #[.int .u64 ((a : Int) - (b : Int)), .string ⟨#[]⟩], .bool true]) (by simp [results, Tryz.results173, go_sem, j6, j7]) rfl ?_
  exact ⟨rfl, Xz aG (by omega) _ _⟩
 obtain ⟨bX, bY⟩ := Yz a aO
 unfold Jj
 obtain ⟨b0, b1, b2, hB, hZ⟩ := bx3 w 52 #[.int .u64 (lo a : Int), .string (mo a)] 52 #[.int .u64 (lo b : Int), .string (mo b)] 52 #[.int .u64 0, .string ⟨#[]⟩]
 have HCV := lh aH
 clear aH
 go_enter Tryz.func173, Tryz.ntmps173
 go_wp2_with fail
 generalize (((w.alloc (.cells #[.int .u64 (lo a : Int), .string (mo a)] 52)).alloc (.cells #[.int .u64 (lo b : Int), .string (mo b)] 52)).alloc (.cells #[.int .u64 0, .string ⟨#[]⟩] 52)) = W at *
 refine (Zr a b W (by omega) (by omega)).mono ?_
 rintro e1 w1 ⟨rfl, j8⟩
 rw [HCV.out]
 have aG := Ja hB j8
 (try clear t7 x9); obtain ⟨b0, t7, x9⟩ := b0.zc2 j8; (try clear t8 y8); obtain ⟨b1, t8, y8⟩ := b1.zc2 j8
 have b2 := b2.below j8 b2.lt
 have cN := j8.size
 go_upto_region 5 with fail
 go_cut [6, 7] (fun v7 v8 wc => Two w1 (Jg a) (Jg b) v7 v8 wc)
 case first =>
  have c0 := b0.drew
  have c1 := b1.drew
  go_region_held3 (fun w' => w'.cell? ⟨w.heap.size, 0, none⟩ = some (.int .u64 (lo a : Int)) /\ w'.cell? ⟨w.heap.size, 1, none⟩ = some (.string (mo a)) /\ w'.cell? ⟨w.heap.size + 1, 0, none⟩ = some (.int .u64 (lo b : Int)) /\ w'.cell? ⟨w.heap.size + 1, 1, none⟩ = some (.string (mo b))) (go_keep) (first | (go_at_call_of 122 (Value.agg #[.int .u64 (lo a : Int), .string (mo a)]); refine (Xx a _ (by omega) (by omega)).mono ?_; rintro e wa ⟨va, rfl, aP⟩; have bC := aP.2.1; (try clear aA aB); obtain ⟨c0, aA, aB⟩ := c0.zc2 bC; (try clear aC aD); obtain ⟨c1, aC, aD⟩ := c1.zc2 bC) | (go_at_call_of 122 (Value.agg #[.int .u64 (lo b : Int), .string (mo b)]); refine (Xx b _ (by omega) (by omega)).mono ?_; rintro e wb ⟨vb, rfl, aQ⟩; have bD := aQ.2.1; (try clear aA aB); obtain ⟨c0, aA, aB⟩ := c0.zc2 bD; (try clear aC aD); obtain ⟨c1, aC, aD⟩ := c1.zc2 bD))
  all_goals
   go_wp2_with fail
   go_meet
   first | exact Two.ab aP aQ | exact Two.ba aQ aP
 case rest =>
  have aI : (Jg b).length <= (Jg a).length := by
   rcases Nat.lt_or_ge (Jg a).length (Jg b).length with h | h
   ·have := Za h
    omega
   exact h
  have bZ : XY w1 (a + b) u6 u7 wc := XY.of hcut aI (Xp a (by omega)) aZ (Js a) (Js b) (by rw [Jp, Jp])
  obtain ⟨aN, aR, bE, bF, cA, bG⟩ := hcut
  obtain ⟨A7, c7, rfl, cB, _⟩ := aN.form
  obtain ⟨AY, cY, rfl, _, _⟩ := aR.form
  obtain ⟨gX, rfl⟩ := aN.addr (Xp a (by omega))
  have cC := bF gX rfl
  have bH := Own.reads aR
  have cD : ∀ ad, AY = some ad -> ad.block ≠ gX := fun ad he e => bG gX rfl (by rw [he, <- e]; rfl)
  have bI := Js a
  have cE := Js b
  have bJ := Jp a
  have bK := Jp b
  clear bZ aR bF cA bG b0 b1 t7 x9 t8 y8
  generalize Jg a = lX at *
  generalize Jg b = lY at *
  obtain ⟨p, hp⟩ : ∃ p, lX.length = p := ⟨_, rfl⟩
  obtain ⟨q, hq⟩ : ∃ q, lY.length = q := ⟨_, rfl⟩
  rw [hp, hq] at aI
  rw [hp] at aZ cB
  rw [hp, hq]
  have HP := lh (And.intro hp hq)
  have HV := lh (And.intro bJ bK)
  clear bJ bK bU
  go_wp2_with fail
  go_loopw [8, 31] (fun c i wr => ∃ k c' : Nat, k <= p /\ c' <= 1 /\ i = .int .i64 k /\ c = .int .u64 c' /\ Jql w1 gX c7 p AY lY a k c' wr) (fun _ i _ => p - (intOf i).toNat)
  case atStart => exact ⟨0, 0, Nat.zero_le _, Nat.zero_le _, rfl, rfl, lX, hp, aN, bI, by simp [dv]; exact HV.out.1, bH, bE⟩
  case round =>
   obtain ⟨k, c', hk, cF, rfl, rfl, l, hl, ho, hd, bL, hr, aJ⟩ := hrel
   clear hp hq aN bH bE bI
   have HL := lh hl
   have HDV := lh bL
   have aK := hr
   rw [HP.out.2] at aK
   clear hl bL
   by_cases aS : k < p
   ·obtain ⟨x, hx⟩ : ∃ x, l[k]? = some x := ⟨_, List.getElem?_eq_getElem (by rw [HL.out]; exact aS)⟩
    have cG := ho.cellf hx
    have cO := ho.frozenf k
    unfold Jm at cG
    have cH : (k : Int) < (p : Int) := by omega
    obtain ⟨y, x8, cP⟩ : ∃ y : Nat, (lY[k]? = some y \/ (q <= k /\ y = 0)) /\ y < 18446744073709551616 := by
     by_cases aT : k < q
     ·obtain ⟨y, hy⟩ : ∃ y, lY[k]? = some y := ⟨_, List.getElem?_eq_getElem (by rw [HP.out.2]; exact aT)⟩
      exact ⟨y, .inl hy, cE.get hy⟩
     exact ⟨0, .inr ⟨by omega, rfl⟩, by omega⟩
    have cQ := hd.get hx
    obtain ⟨S, hS⟩ : ∃ S, (x + 18446744073709551616 - y - c') % 18446744073709551616 = S := ⟨_, rfl⟩
    obtain ⟨C, hC⟩ : ∃ C, (if x < y + c' then 1 else 0) = C := ⟨_, rfl⟩
    have cI : S < 18446744073709551616 := by omega
    have bM : C <= 1 := by rw [<- hC]; split <;> omega
    have bN : S + y + c' = x + 18446744073709551616 * C := by
     rw [<- hC]
     split <;> omega
    have aL : ∀ w, (callFunc 166 #[.int .u64 (x : Int), .int .u64 (y : Int), .int .u64 (c' : Int)]).run Tryz.prog w = .ok (.value (.tuple #[.int .u64 (S : Int), .int .u64 (C : Int)])) w := fun w => by
     have := Jdu x y c' cF w
     rw [hS, hC] at this
     exact this
    have bO : dv 18446744073709551616 (lY.take (k + 1)) = dv 18446744073709551616 (lY.take k) + y * 18446744073709551616 ^ k := by
     rcases x8 with x8 | ⟨x8, rfl⟩
     ·exact Jv x8
     rw [Qw (by rw [HP.out.2]; omega), Qw (by rw [HP.out.2]; omega)]
     omega
    have aE := Ux (s := S) (c' := C) (b := y) hx bN HDV.out
    rw [<- bO] at aE
    have bP := ho.store k S
    have bQ : Reads (wr.setCell ⟨gX, k, none⟩ (Jm S)) wr.heap.size 1 AY lY.length (lY.map Jm) := Reads.setFar hr (fun ad he => cD ad he) _
    have bR := aJ.setCell (p := ⟨gX, k, none⟩) cC (Jm S)
    have aM : Jql w1 gX c7 p AY lY a (k + 1) C (wr.setCell ⟨gX, k, none⟩ (Jm S)) := by
     refine ⟨l.set k S, by rw [List.length_set]; exact HL.out, ?_, hd.set_ k cI, aE, ?_, bR⟩
     ·rw [List.length_set]; exact bP
     rw [World.size_setCell]; exact bQ
    have HFIN := lh aM
    clear hS hC hx bO aE bP bQ bR aM ho hd aJ hr bN
    rcases x8 with x8 | ⟨x8, rfl⟩
    ·have aT : k < q := by rw [<- HP.out.2]; exact (List.getElem?_eq_some_iff.1 x8).1
     obtain ⟨ad, y', cJ, _, aU, cK⟩ := aK.atf aT
     rw [x8] at aU
     obtain rfl : y = y' := by simpa using aU
     have aV : (k : Int) < (q : Int) := by omega
     unfold Jm at cK
     clear aU x8 aK
     subst cJ
     go_wp2
     exact ⟨⟨k + 1, C, by omega, bM, by go_num, rfl, HFIN.out⟩, by simp [intOf]; omega⟩
    have aV : ¬ (k : Int) < (q : Int) := by omega
    have bS : ∀ w, (callFunc 166 #[.int .u64 (x : Int), .int .u64 0, .int .u64 (c' : Int)]).run Tryz.prog w = .ok (.value (.tuple #[.int .u64 (S : Int), .int .u64 (C : Int)])) w := aL
    clear aK aL
    go_wp2
    exact ⟨⟨k + 1, C, by omega, bM, by go_num, rfl, HFIN.out⟩, by simp [intOf]; omega⟩
   obtain rfl : k = p := by omega
   have cH : ¬ (k : Int) < (k : Int) := by omega
   have y9 := HDV.out
   rw [Qw (by rw [HP.out.2]; omega), HV.out.2] at y9
   have b2 := b2.below aJ b2.lt
   have cL := Ja aG aJ
   have aW := Xn hd
   rw [HL.out] at aW
   have aX : c' = 0 := by
    rcases Nat.lt_or_ge c' 1 with h | h
    ·omega
    obtain rfl : c' = 1 := by omega
    omega
   subst aX
   rw [HL.out] at ho
   have aY := Own.reads ho
   rw [HL.out] at aY
   have e : dv 18446744073709551616 l = a - b := by omega
   have HE := lh e
   clear y9 hr aK aJ ho e
   go_wp2_with fail
   refine (Qk _ k c7 _ l wr aY zd hd (by omega) (by omega)).mono ?_
   rintro e w4 ⟨rfl, bT⟩
   rw [HE.out]
   have cM := Ja cL bT
   (try clear j9 o0 o5 s9 j6 j7); obtain ⟨b2, j9, o0, o5, s9, j6, j7⟩ := b2.zf2 bT
   clear aY
   unfold Jj
   generalize a - b = N at *
   go_wp2
   refine bodyPost_ret (v := .tuple #[.agg #[.int .u64 (lo N : Int), .string (mo N)], .bool true]) (by simp [results, Tryz.results173, go_sem, j6, j7]) rfl ?_
   exact ⟨rfl, Xz cM (by omega) _ _⟩
