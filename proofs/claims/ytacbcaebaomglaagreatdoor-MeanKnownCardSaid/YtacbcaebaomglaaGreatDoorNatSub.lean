import Derived.Test.YtacbcaebaomglaaGreatDoorNatC
namespace Go.Proofs.YtacbcaebaomglaaGreatDoor
set_option maxRecDepth 100000
set_option maxHeartbeats 1000000
open Go.RowKit
set_option linter.all false
def Jj4 (W : World) (gX cX n : Nat) (AY : Option Addr) (lY : List Nat) (s i : Nat) (c : Nat) (wr : World) : Prop :=
 ∃ l : List Nat, l.length = n /\ Own wr 59 Jj (.slice (some ⟨gX, 0, none⟩) l.length cX) l /\ Dig 18446744073709551616 l /\ dv 18446744073709551616 l + dv 18446744073709551616 (lY.take i) = s + c * 18446744073709551616 ^ i /\ Reads wr wr.heap.size 1 AY lY.length (lY.map Jj) /\ Below W.heap.size W wr
def Jkd (a b : Nat) : Value := if a < b then .tuple #[Jh 0, .bool false] else .tuple #[Jh (a - b), .bool true]
theorem Jd1 (a b : Nat) (w : World) (ha : Je a <= 1099511627776) (hb : Je b <= 1099511627776) : Calls Tryz.prog 138 #[Jh a, Jh b] w (Ret (Jkd a b) w) := by
 have aI := Qm a ha
 have bD := Qm b hb
 unfold Jkd
 by_cases q8 : a < b
 ·rw [if_pos q8, Jav]
  have e := Zi q8
  unfold Jh
  obtain ⟨b0, b1, b2, hB, hZ⟩ := bx3 w 61 #[.int .u64 (lo a : Int), .string (mo a)] 61 #[.int .u64 (lo b : Int), .string (mo b)] 61 #[.int .u64 0, .string ⟨#[]⟩]
  go_enter Tryz.func138, Tryz.ntmps138
  go_wp2_with fail
  generalize (((w.alloc (.cells #[.int .u64 (lo a : Int), .string (mo a)] 61)).alloc (.cells #[.int .u64 (lo b : Int), .string (mo b)] 61)).alloc (.cells #[.int .u64 0, .string ⟨#[]⟩] 61)) = W at *
  refine (Xv a b W (by omega) (by omega)).mono ?_
  rintro e1 w1 ⟨rfl, j0⟩
  rw [e]
  have q9 := Ja hB j0
  (try clear j6 j7 j8 j9 e8 e9); obtain ⟨b2, j6, j7, j8, j9, e8, e9⟩ := b2.zf2 j0
  clear e b0 b1 q8
  go_wp2
  refine bodyPost_ret (v := .tuple #[.agg #[.int .u64 0, .string ⟨#[]⟩], .bool false]) (by simp [results, Tryz.results138, go_sem, e8, e9]) rfl ?_
  exact ⟨rfl, Xg q9 (by omega) _ _⟩
 rw [if_neg q8]
 have bE : ¬ Qw a b < 0 := by
  unfold Qw
  rw [if_neg q8]
  split <;> omega
 obtain ⟨cv, s9⟩ : ∃ cv, Qw a b = cv := ⟨_, rfl⟩
 rw [s9] at bE
 by_cases x9 : a < 18446744073709551616
 ·have bF : b < 18446744073709551616 := by omega
  have e2 : Jh (a - b) = .agg #[.int .u64 ((a : Int) - (b : Int)), .string ⟨#[]⟩] := by
   unfold Jh
   rw [Jo (a - b) (by omega), Ju (a - b) (by omega)]
   congr 4
   omega
  rw [e2]
  have k1 : (0 : Int) <= (a : Int) - (b : Int) := by omega
  have k2 : (a : Int) - (b : Int) <= 18446744073709551615 := by omega
  have k3 : IntKind.u64.wrap ((a : Int) - (b : Int)) = (a : Int) - (b : Int) := by
   simp only [IntKind.wrap, IntKind.bits, IntKind.signed]
   simp
   omega
  have hm := Ym a x9
  have aJ := lh (Jo a x9)
  have aK := lh (Jo b bF)
  obtain ⟨bG, hm2⟩ := hm
  unfold Jh
  obtain ⟨b0, b1, b2, hB, hZ⟩ := bx3 w 61 #[.int .u64 (lo a : Int), .string (mo a)] 61 #[.int .u64 (lo b : Int), .string (mo b)] 61 #[.int .u64 0, .string ⟨#[]⟩]
  have HCV := lh s9
  clear s9 q8 e2
  go_enter Tryz.func138, Tryz.ntmps138
  go_wp2_with fail
  generalize (((w.alloc (.cells #[.int .u64 (lo a : Int), .string (mo a)] 61)).alloc (.cells #[.int .u64 (lo b : Int), .string (mo b)] 61)).alloc (.cells #[.int .u64 0, .string ⟨#[]⟩] 61)) = W at *
  refine (Xv a b W (by omega) (by omega)).mono ?_
  rintro e1 w1 ⟨rfl, j0⟩
  rw [HCV.out]
  have q9 := Ja hB j0
  (try clear l5 o6); obtain ⟨b0, l5, o6⟩ := b0.zc2 j0; (try clear l7 o7); obtain ⟨b1, l7, o7⟩ := b1.zc2 j0
  (try clear j6 j7 j8 j9 e8 e9); obtain ⟨b2, j6, j7, j8, j9, e8, e9⟩ := b2.zf2 j0
  rw [aJ.out] at l5
  rw [aK.out] at l7
  clear aJ aK
  go_wp2
  refine bodyPost_ret (v := .tuple #[.agg #[.int .u64 ((a : Int) - (b : Int)), .string ⟨#[]⟩], .bool true]) (by simp [results, Tryz.results138, go_sem, e8, e9]) rfl ?_
  exact ⟨rfl, Xg q9 (by omega) _ _⟩
 obtain ⟨bG, hm2⟩ := Zq a x9
 unfold Jh
 obtain ⟨b0, b1, b2, hB, hZ⟩ := bx3 w 61 #[.int .u64 (lo a : Int), .string (mo a)] 61 #[.int .u64 (lo b : Int), .string (mo b)] 61 #[.int .u64 0, .string ⟨#[]⟩]
 have HCV := lh s9
 clear s9
 go_enter Tryz.func138, Tryz.ntmps138
 go_wp2_with fail
 generalize (((w.alloc (.cells #[.int .u64 (lo a : Int), .string (mo a)] 61)).alloc (.cells #[.int .u64 (lo b : Int), .string (mo b)] 61)).alloc (.cells #[.int .u64 0, .string ⟨#[]⟩] 61)) = W at *
 refine (Xv a b W (by omega) (by omega)).mono ?_
 rintro e1 w1 ⟨rfl, j0⟩
 rw [HCV.out]
 have q9 := Ja hB j0
 (try clear l5 o6); obtain ⟨b0, l5, o6⟩ := b0.zc2 j0; (try clear l7 o7); obtain ⟨b1, l7, o7⟩ := b1.zc2 j0
 have b2 := b2.below j0 b2.lt
 have bV := j0.size
 go_upto_region 5 with fail
 go_cut [6, 7] (fun v7 v8 wc => Two w1 (Jf a) (Jf b) v7 v8 wc)
 case first =>
  have c0 := b0.drew
  have c1 := b1.drew
  go_region_held3 (fun w' => w'.cell? ⟨w.heap.size, 0, none⟩ = some (.int .u64 (lo a : Int)) /\ w'.cell? ⟨w.heap.size, 1, none⟩ = some (.string (mo a)) /\ w'.cell? ⟨w.heap.size + 1, 0, none⟩ = some (.int .u64 (lo b : Int)) /\ w'.cell? ⟨w.heap.size + 1, 1, none⟩ = some (.string (mo b))) (go_keep) (first | (go_at_call_of 127 (Value.agg #[.int .u64 (lo a : Int), .string (mo a)]); refine (Xe a _ (by omega) (by omega)).mono ?_; rintro e wa ⟨va, rfl, y8⟩; have aL := y8.2.1; (try clear o9 p0); obtain ⟨c0, o9, p0⟩ := c0.zc2 aL; (try clear p7 p8); obtain ⟨c1, p7, p8⟩ := c1.zc2 aL) | (go_at_call_of 127 (Value.agg #[.int .u64 (lo b : Int), .string (mo b)]); refine (Xe b _ (by omega) (by omega)).mono ?_; rintro e wb ⟨vb, rfl, y9⟩; have aM := y9.2.1; (try clear o9 p0); obtain ⟨c0, o9, p0⟩ := c0.zc2 aM; (try clear p7 p8); obtain ⟨c1, p7, p8⟩ := c1.zc2 aM))
  all_goals
   go_wp2_with fail
   go_meet
   first | exact Two.ab y8 y9 | exact Two.ba y9 y8
 case rest =>
  have t7 : (Jf b).length <= (Jf a).length := by
   rcases Nat.lt_or_ge (Jf a).length (Jf b).length with h | h
   ·have := Xi h
    omega
   exact h
  have bH : XY w1 (a + b) u6 u7 wc := XY.of hcut t7 (Xb a (by omega)) aI (Jm a) (Jm b) (by rw [Jk, Jk])
  obtain ⟨x8, aA, aN, aO, bI, aP⟩ := hcut
  obtain ⟨A7, c7, rfl, bJ, _⟩ := x8.form
  obtain ⟨AY, cY, rfl, _, _⟩ := aA.form
  obtain ⟨gX, rfl⟩ := x8.addr (Xb a (by omega))
  have bK := aO gX rfl
  have aQ := Own.reads aA
  have bL : ∀ ad, AY = some ad -> ad.block ≠ gX := fun ad he e => aP gX rfl (by rw [he, <- e]; rfl)
  have aR := Jm a
  have bM := Jm b
  have aS := Jk a
  have aT := Jk b
  clear bH aA aO bI aP b0 b1 l5 o6 l7 o7
  generalize Jf a = lX at *
  generalize Jf b = lY at *
  obtain ⟨p, hp⟩ : ∃ p, lX.length = p := ⟨_, rfl⟩
  obtain ⟨q, hq⟩ : ∃ q, lY.length = q := ⟨_, rfl⟩
  rw [hp, hq] at t7
  rw [hp] at aI bJ
  rw [hp, hq]
  have HP := lh (And.intro hp hq)
  have HV := lh (And.intro aS aT)
  clear aS aT bD
  go_wp2_with fail
  go_loopw [8, 31] (fun c i wr => ∃ k c' : Nat, k <= p /\ c' <= 1 /\ i = .int .i64 k /\ c = .int .u64 c' /\ Jj4 w1 gX c7 p AY lY a k c' wr) (fun _ i _ => p - (intOf i).toNat)
  case atStart => exact ⟨0, 0, Nat.zero_le _, Nat.zero_le _, rfl, rfl, lX, hp, x8, aR, by simp [dv]; exact HV.out.1, aQ, aN⟩
  case round =>
   obtain ⟨k, c', hk, bN, rfl, rfl, l, hl, ho, hd, aU, hr, t8⟩ := hrel
   clear hp hq x8 aQ aN aR
   have HL := lh hl
   have HDV := lh aU
   have u4 := hr
   rw [HP.out.2] at u4
   clear hl aU
   by_cases aB : k < p
   ·obtain ⟨x, hx⟩ : ∃ x, l[k]? = some x := ⟨_, List.getElem?_eq_getElem (by rw [HL.out]; exact aB)⟩
    have bO := ho.cellf hx
    have bW := ho.frozenf k
    unfold Jj at bO
    have bP : (k : Int) < (p : Int) := by omega
    obtain ⟨y, o0, bX⟩ : ∃ y : Nat, (lY[k]? = some y \/ (q <= k /\ y = 0)) /\ y < 18446744073709551616 := by
     by_cases aC : k < q
     ·obtain ⟨y, hy⟩ : ∃ y, lY[k]? = some y := ⟨_, List.getElem?_eq_getElem (by rw [HP.out.2]; exact aC)⟩
      exact ⟨y, .inl hy, bM.get hy⟩
     exact ⟨0, .inr ⟨by omega, rfl⟩, by omega⟩
    have bY := hd.get hx
    obtain ⟨S, hS⟩ : ∃ S, (x + 18446744073709551616 - y - c') % 18446744073709551616 = S := ⟨_, rfl⟩
    obtain ⟨C, hC⟩ : ∃ C, (if x < y + c' then 1 else 0) = C := ⟨_, rfl⟩
    have bQ : S < 18446744073709551616 := by omega
    have aV : C <= 1 := by rw [<- hC]; split <;> omega
    have aW : S + y + c' = x + 18446744073709551616 * C := by
     rw [<- hC]
     split <;> omega
    have u5 : ∀ w, (callFunc 173 #[.int .u64 (x : Int), .int .u64 (y : Int), .int .u64 (c' : Int)]).run Tryz.prog w = .ok (.value (.tuple #[.int .u64 (S : Int), .int .u64 (C : Int)])) w := fun w => by
     have := Jbb x y c' bN w
     rw [hS, hC] at this
     exact this
    have aX : dv 18446744073709551616 (lY.take (k + 1)) = dv 18446744073709551616 (lY.take k) + y * 18446744073709551616 ^ k := by
     rcases o0 with o0 | ⟨o0, rfl⟩
     ·exact Jt o0
     rw [Qj (by rw [HP.out.2]; omega), Qj (by rw [HP.out.2]; omega)]
     omega
    have p9 := Kh (s := S) (c' := C) (b := y) hx aW HDV.out
    rw [<- aX] at p9
    have aY := ho.store k S
    have aZ : Reads (wr.setCell ⟨gX, k, none⟩ (Jj S)) wr.heap.size 1 AY lY.length (lY.map Jj) := Reads.setFar hr (fun ad he => bL ad he) _
    have bA := t8.setCell (p := ⟨gX, k, none⟩) bK (Jj S)
    have x7 : Jj4 w1 gX c7 p AY lY a (k + 1) C (wr.setCell ⟨gX, k, none⟩ (Jj S)) := by
     refine ⟨l.set k S, by rw [List.length_set]; exact HL.out, ?_, hd.set_ k bQ, p9, ?_, bA⟩
     ·rw [List.length_set]; exact aY
     rw [World.size_setCell]; exact aZ
    have HFIN := lh x7
    clear hS hC hx aX p9 aY aZ bA x7 ho hd t8 hr aW
    rcases o0 with o0 | ⟨o0, rfl⟩
    ·have aC : k < q := by rw [<- HP.out.2]; exact (List.getElem?_eq_some_iff.1 o0).1
     obtain ⟨ad, y', bR, _, aD, bS⟩ := u4.atf aC
     rw [o0] at aD
     obtain rfl : y = y' := by simpa using aD
     have aE : (k : Int) < (q : Int) := by omega
     unfold Jj at bS
     clear aD o0 u4
     subst bR
     go_wp2
     exact ⟨⟨k + 1, C, by omega, aV, by go_num, rfl, HFIN.out⟩, by simp [intOf]; omega⟩
    have aE : ¬ (k : Int) < (q : Int) := by omega
    have bB : ∀ w, (callFunc 173 #[.int .u64 (x : Int), .int .u64 0, .int .u64 (c' : Int)]).run Tryz.prog w = .ok (.value (.tuple #[.int .u64 (S : Int), .int .u64 (C : Int)])) w := u5
    clear u4 u5
    go_wp2
    exact ⟨⟨k + 1, C, by omega, aV, by go_num, rfl, HFIN.out⟩, by simp [intOf]; omega⟩
   obtain rfl : k = p := by omega
   have bP : ¬ (k : Int) < (k : Int) := by omega
   have o8 := HDV.out
   rw [Qj (by rw [HP.out.2]; omega), HV.out.2] at o8
   have b2 := b2.below t8 b2.lt
   have bT := Ja q9 t8
   have aF := Xf hd
   rw [HL.out] at aF
   have aG : c' = 0 := by
    rcases Nat.lt_or_ge c' 1 with h | h
    ·omega
    obtain rfl : c' = 1 := by omega
    omega
   subst aG
   rw [HL.out] at ho
   have aH := Own.reads ho
   rw [HL.out] at aH
   have e : dv 18446744073709551616 l = a - b := by omega
   have HE := lh e
   clear o8 hr u4 t8 ho e
   go_wp2_with fail
   refine (Qc _ k c7 _ l wr aH zd hd (by omega) (by omega)).mono ?_
   rintro e w4 ⟨rfl, bC⟩
   rw [HE.out]
   have bU := Ja bT bC
   (try clear j6 j7 j8 j9 e8 e9); obtain ⟨b2, j6, j7, j8, j9, e8, e9⟩ := b2.zf2 bC
   clear aH
   unfold Jh
   generalize a - b = N at *
   go_wp2
   refine bodyPost_ret (v := .tuple #[.agg #[.int .u64 (lo N : Int), .string (mo N)], .bool true]) (by simp [results, Tryz.results138, go_sem, e8, e9]) rfl ?_
   exact ⟨rfl, Xg bU (by omega) _ _⟩
