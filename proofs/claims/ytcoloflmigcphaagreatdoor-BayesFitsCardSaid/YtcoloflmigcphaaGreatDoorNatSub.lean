import Derived.Test.YtcoloflmigcphaaGreatDoorNatC
namespace Go.Proofs.YtcoloflmigcphaaGreatDoor
set_option maxRecDepth 100000
set_option maxHeartbeats 1000000
open Go.RowKit
set_option linter.all false
def Jly (W : World) (gX cX n : Nat) (AY : Option Addr) (lY : List Nat) (s i : Nat) (c : Nat) (wr : World) : Prop :=
 ∃ l : List Nat, l.length = n /\ Own wr 35 Jh (.slice (some ⟨gX, 0, none⟩) l.length cX) l /\ Dig 18446744073709551616 l /\ dv 18446744073709551616 l + dv 18446744073709551616 (lY.take i) = s + c * 18446744073709551616 ^ i /\ Reads wr wr.heap.size 1 AY lY.length (lY.map Jh) /\ Below W.heap.size W wr
def Jl7 (a b : Nat) : Value := if a < b then .tuple #[Jg 0, .bool false] else .tuple #[Jg (a - b), .bool true]
theorem Je7 (a b : Nat) (w : World) (ha : Je a <= 1099511627776) (hb : Je b <= 1099511627776) : Calls Tryz.prog 121 #[Jg a, Jg b] w (Ret (Jl7 a b) w) := by
 have aT := Qq a ha
 have bO := Qq b hb
 unfold Jl7
 by_cases y9 : a < b
 ·rw [if_pos y9, Jbb]
  have e := Zq y9
  unfold Jg
  obtain ⟨b0, b1, b2, hB, hZ⟩ := bx3 w 37 #[.int .u64 (lo a : Int), .string (mo a)] 37 #[.int .u64 (lo b : Int), .string (mo b)] 37 #[.int .u64 0, .string ⟨#[]⟩]
  go_enter Tryz.func121, Tryz.ntmps121
  go_wp2_with fail
  generalize (((w.alloc (.cells #[.int .u64 (lo a : Int), .string (mo a)] 37)).alloc (.cells #[.int .u64 (lo b : Int), .string (mo b)] 37)).alloc (.cells #[.int .u64 0, .string ⟨#[]⟩] 37)) = W at *
  refine (Zb a b W (by omega) (by omega)).mono ?_
  rintro e1 w1 ⟨rfl, j7⟩
  rw [e]
  have aA := Ja hB j7
  (try clear j8 j9 bR cN j0 j6); obtain ⟨b2, j8, j9, bR, cN, j0, j6⟩ := b2.zf2 j7
  clear e b0 b1 y9
  go_wp2
  refine bodyPost_ret (v := .tuple #[.agg #[.int .u64 0, .string ⟨#[]⟩], .bool false]) (by simp [results, Tryz.results121, go_sem, j0, j6]) rfl ?_
  exact ⟨rfl, Xo aA (by omega) _ _⟩
 rw [if_neg y9]
 have bP : ¬ Qz a b < 0 := by
  unfold Qz
  rw [if_neg y9]
  split <;> omega
 obtain ⟨cv, aB⟩ : ∃ cv, Qz a b = cv := ⟨_, rfl⟩
 rw [aB] at bP
 by_cases aI : a < 18446744073709551616
 ·have bQ : b < 18446744073709551616 := by omega
  have e2 : Jg (a - b) = .agg #[.int .u64 ((a : Int) - (b : Int)), .string ⟨#[]⟩] := by
   unfold Jg
   rw [Jp (a - b) (by omega), Jy (a - b) (by omega)]
   congr 4
   omega
  rw [e2]
  have k1 : (0 : Int) <= (a : Int) - (b : Int) := by omega
  have k2 : (a : Int) - (b : Int) <= 18446744073709551615 := by omega
  have k3 : IntKind.u64.wrap ((a : Int) - (b : Int)) = (a : Int) - (b : Int) := by
   simp only [IntKind.wrap, IntKind.bits, IntKind.signed]
   simp
   omega
  have hm := Yu a aI
  have aU := lh (Jp a aI)
  have aV := lh (Jp b bQ)
  obtain ⟨bS, bT⟩ := hm
  unfold Jg
  obtain ⟨b0, b1, b2, hB, hZ⟩ := bx3 w 37 #[.int .u64 (lo a : Int), .string (mo a)] 37 #[.int .u64 (lo b : Int), .string (mo b)] 37 #[.int .u64 0, .string ⟨#[]⟩]
  have HCV := lh aB
  clear aB y9 e2
  go_enter Tryz.func121, Tryz.ntmps121
  go_wp2_with fail
  generalize (((w.alloc (.cells #[.int .u64 (lo a : Int), .string (mo a)] 37)).alloc (.cells #[.int .u64 (lo b : Int), .string (mo b)] 37)).alloc (.cells #[.int .u64 0, .string ⟨#[]⟩] 37)) = W at *
  refine (Zb a b W (by omega) (by omega)).mono ?_
  rintro e1 w1 ⟨rfl, j7⟩
  rw [HCV.out]
  have aA := Ja hB j7
  (try clear cO cP); obtain ⟨b0, cO, cP⟩ := b0.zc2 j7; (try clear o0 p9); obtain ⟨b1, o0, p9⟩ := b1.zc2 j7
  (try clear j8 j9 bR cN j0 j6); obtain ⟨b2, j8, j9, bR, cN, j0, j6⟩ := b2.zf2 j7
  rw [aU.out] at cO
  rw [aV.out] at o0
  clear aU aV
  go_wp2
  refine bodyPost_ret (v := .tuple #[.agg #[.int .u64 ((a : Int) - (b : Int)), .string ⟨#[]⟩], .bool true]) (by simp [results, Tryz.results121, go_sem, j0, j6]) rfl ?_
  exact ⟨rfl, Xo aA (by omega) _ _⟩
 obtain ⟨bS, bT⟩ := Ya a aI
 unfold Jg
 obtain ⟨b0, b1, b2, hB, hZ⟩ := bx3 w 37 #[.int .u64 (lo a : Int), .string (mo a)] 37 #[.int .u64 (lo b : Int), .string (mo b)] 37 #[.int .u64 0, .string ⟨#[]⟩]
 have HCV := lh aB
 clear aB
 go_enter Tryz.func121, Tryz.ntmps121
 go_wp2_with fail
 generalize (((w.alloc (.cells #[.int .u64 (lo a : Int), .string (mo a)] 37)).alloc (.cells #[.int .u64 (lo b : Int), .string (mo b)] 37)).alloc (.cells #[.int .u64 0, .string ⟨#[]⟩] 37)) = W at *
 refine (Zb a b W (by omega) (by omega)).mono ?_
 rintro e1 w1 ⟨rfl, j7⟩
 rw [HCV.out]
 have aA := Ja hB j7
 (try clear cO cP); obtain ⟨b0, cO, cP⟩ := b0.zc2 j7; (try clear o0 p9); obtain ⟨b1, o0, p9⟩ := b1.zc2 j7
 have b2 := b2.below j7 b2.lt
 have cI := j7.size
 go_upto_region 5 with fail
 go_cut [6, 7] (fun v7 v8 wc => Two w1 (words a) (words b) v7 v8 wc)
 case first =>
  have c0 := b0.drew
  have c1 := b1.drew
  go_region_held3 (fun w' => w'.cell? ⟨w.heap.size, 0, none⟩ = some (.int .u64 (lo a : Int)) /\ w'.cell? ⟨w.heap.size, 1, none⟩ = some (.string (mo a)) /\ w'.cell? ⟨w.heap.size + 1, 0, none⟩ = some (.int .u64 (lo b : Int)) /\ w'.cell? ⟨w.heap.size + 1, 1, none⟩ = some (.string (mo b))) (go_keep) (first | (go_at_call_of 129 (Value.agg #[.int .u64 (lo a : Int), .string (mo a)]); refine (Xl a _ (by omega) (by omega)).mono ?_; rintro e wa ⟨va, rfl, aJ⟩; have aW := aJ.2.1; (try clear s9 cT); obtain ⟨c0, s9, cT⟩ := c0.zc2 aW; (try clear cU cZ); obtain ⟨c1, cU, cZ⟩ := c1.zc2 aW) | (go_at_call_of 129 (Value.agg #[.int .u64 (lo b : Int), .string (mo b)]); refine (Xl b _ (by omega) (by omega)).mono ?_; rintro e wb ⟨vb, rfl, aK⟩; have aX := aK.2.1; (try clear s9 cT); obtain ⟨c0, s9, cT⟩ := c0.zc2 aX; (try clear cU cZ); obtain ⟨c1, cU, cZ⟩ := c1.zc2 aX))
  all_goals
   go_wp2_with fail
   go_meet
   first | exact Two.ab aJ aK | exact Two.ba aK aJ
 case rest =>
  have aC : (words b).length <= (words a).length := by
   rcases Nat.lt_or_ge (words a).length (words b).length with h | h
   ·have := Xp h
    omega
   exact h
  have bU : XY w1 (a + b) u6 u7 wc := XY.of hcut aC (Xf a (by omega)) aT (Jl a) (Jl b) (by rw [Ji, Ji])
  obtain ⟨aH, aL, aY, aZ, bV, bA⟩ := hcut
  obtain ⟨A7, c7, rfl, bW, _⟩ := aH.form
  obtain ⟨AY, cY, rfl, _, _⟩ := aL.form
  obtain ⟨gX, rfl⟩ := aH.addr (Xf a (by omega))
  have bX := aZ gX rfl
  have bB := Own.reads aL
  have bY : ∀ ad, AY = some ad -> ad.block ≠ gX := fun ad he e => bA gX rfl (by rw [he, <- e]; rfl)
  have bC := Jl a
  have bZ := Jl b
  have bD := Ji a
  have bE := Ji b
  clear bU aL aZ bV bA b0 b1 cO cP o0 p9
  generalize words a = lX at *
  generalize words b = lY at *
  obtain ⟨p, hp⟩ : ∃ p, lX.length = p := ⟨_, rfl⟩
  obtain ⟨q, hq⟩ : ∃ q, lY.length = q := ⟨_, rfl⟩
  rw [hp, hq] at aC
  rw [hp] at aT bW
  rw [hp, hq]
  have HP := lh (And.intro hp hq)
  have HV := lh (And.intro bD bE)
  clear bD bE bO
  go_wp2_with fail
  go_loopw [8, 31] (fun c i wr => ∃ k c' : Nat, k <= p /\ c' <= 1 /\ i = .int .i64 k /\ c = .int .u64 c' /\ Jly w1 gX c7 p AY lY a k c' wr) (fun _ i _ => p - (intOf i).toNat)
  case atStart => exact ⟨0, 0, Nat.zero_le _, Nat.zero_le _, rfl, rfl, lX, hp, aH, bC, by simp [dv]; exact HV.out.1, bB, aY⟩
  case round =>
   obtain ⟨k, c', hk, cA, rfl, rfl, l, hl, ho, hd, bF, hr, aD⟩ := hrel
   clear hp hq aH bB aY bC
   have HL := lh hl
   have HDV := lh bF
   have aE := hr
   rw [HP.out.2] at aE
   clear hl bF
   by_cases aM : k < p
   ·obtain ⟨x, hx⟩ : ∃ x, l[k]? = some x := ⟨_, List.getElem?_eq_getElem (by rw [HL.out]; exact aM)⟩
    have cB := ho.cellf hx
    have cJ := ho.frozenf k
    unfold Jh at cB
    have dB : (k : Int) < (p : Int) := by omega
    obtain ⟨y, o9, cK⟩ : ∃ y : Nat, (lY[k]? = some y \/ (q <= k /\ y = 0)) /\ y < 18446744073709551616 := by
     by_cases aN : k < q
     ·obtain ⟨y, hy⟩ : ∃ y, lY[k]? = some y := ⟨_, List.getElem?_eq_getElem (by rw [HP.out.2]; exact aN)⟩
      exact ⟨y, .inl hy, bZ.get hy⟩
     exact ⟨0, .inr ⟨by omega, rfl⟩, by omega⟩
    have cL := hd.get hx
    obtain ⟨S, hS⟩ : ∃ S, (x + 18446744073709551616 - y - c') % 18446744073709551616 = S := ⟨_, rfl⟩
    obtain ⟨C, hC⟩ : ∃ C, (if x < y + c' then 1 else 0) = C := ⟨_, rfl⟩
    have cD : S < 18446744073709551616 := by omega
    have bG : C <= 1 := by rw [<- hC]; split <;> omega
    have bH : S + y + c' = x + 18446744073709551616 * C := by
     rw [<- hC]
     split <;> omega
    have aF : ∀ w, (callFunc 141 #[.int .u64 (x : Int), .int .u64 (y : Int), .int .u64 (c' : Int)]).run Tryz.prog w = .ok (.value (.tuple #[.int .u64 (S : Int), .int .u64 (C : Int)])) w := fun w => by
     have := Jb8 x y c' cA w
     rw [hS, hC] at this
     exact this
    have bI : dv 18446744073709551616 (lY.take (k + 1)) = dv 18446744073709551616 (lY.take k) + y * 18446744073709551616 ^ k := by
     rcases o9 with o9 | ⟨o9, rfl⟩
     ·exact Jv o9
     rw [Qm (by rw [HP.out.2]; omega), Qm (by rw [HP.out.2]; omega)]
     omega
    have dA := Ko (s := S) (c' := C) (b := y) hx bH HDV.out
    rw [<- bI] at dA
    have bJ := ho.store k S
    have bK : Reads (wr.setCell ⟨gX, k, none⟩ (Jh S)) wr.heap.size 1 AY lY.length (lY.map Jh) := Reads.setFar hr (fun ad he => bY ad he) _
    have bL := aD.setCell (p := ⟨gX, k, none⟩) bX (Jh S)
    have aG : Jly w1 gX c7 p AY lY a (k + 1) C (wr.setCell ⟨gX, k, none⟩ (Jh S)) := by
     refine ⟨l.set k S, by rw [List.length_set]; exact HL.out, ?_, hd.set_ k cD, dA, ?_, bL⟩
     ·rw [List.length_set]; exact bJ
     rw [World.size_setCell]; exact bK
    have HFIN := lh aG
    clear hS hC hx bI dA bJ bK bL aG ho hd aD hr bH
    rcases o9 with o9 | ⟨o9, rfl⟩
    ·have aN : k < q := by rw [<- HP.out.2]; exact (List.getElem?_eq_some_iff.1 o9).1
     obtain ⟨ad, y', cE, _, aO, cF⟩ := aE.atf aN
     rw [o9] at aO
     obtain rfl : y = y' := by simpa using aO
     have aP : (k : Int) < (q : Int) := by omega
     unfold Jh at cF
     clear aO o9 aE
     subst cE
     go_wp2
     exact ⟨⟨k + 1, C, by omega, bG, by go_num, rfl, HFIN.out⟩, by simp [intOf]; omega⟩
    have aP : ¬ (k : Int) < (q : Int) := by omega
    have bM : ∀ w, (callFunc 141 #[.int .u64 (x : Int), .int .u64 0, .int .u64 (c' : Int)]).run Tryz.prog w = .ok (.value (.tuple #[.int .u64 (S : Int), .int .u64 (C : Int)])) w := aF
    clear aE aF
    go_wp2
    exact ⟨⟨k + 1, C, by omega, bG, by go_num, rfl, HFIN.out⟩, by simp [intOf]; omega⟩
   obtain rfl : k = p := by omega
   have dB : ¬ (k : Int) < (k : Int) := by omega
   have cR := HDV.out
   rw [Qm (by rw [HP.out.2]; omega), HV.out.2] at cR
   have b2 := b2.below aD b2.lt
   have cG := Ja aA aD
   have aQ := Xm hd
   rw [HL.out] at aQ
   have aR : c' = 0 := by
    rcases Nat.lt_or_ge c' 1 with h | h
    ·omega
    obtain rfl : c' = 1 := by omega
    omega
   subst aR
   rw [HL.out] at ho
   have aS := Own.reads ho
   rw [HL.out] at aS
   have e : dv 18446744073709551616 l = a - b := by omega
   have HE := lh e
   clear cR hr aE aD ho e
   go_wp2_with fail
   refine (Qe _ k c7 _ l wr aS zd hd (by omega) (by omega)).mono ?_
   rintro e w4 ⟨rfl, bN⟩
   rw [HE.out]
   have cH := Ja cG bN
   (try clear j8 j9 bR cN j0 j6); obtain ⟨b2, j8, j9, bR, cN, j0, j6⟩ := b2.zf2 bN
   clear aS
   unfold Jg
   generalize a - b = N at *
   go_wp2
   refine bodyPost_ret (v := .tuple #[.agg #[.int .u64 (lo N : Int), .string (mo N)], .bool true]) (by simp [results, Tryz.results121, go_sem, j0, j6]) rfl ?_
   exact ⟨rfl, Xo cH (by omega) _ _⟩
