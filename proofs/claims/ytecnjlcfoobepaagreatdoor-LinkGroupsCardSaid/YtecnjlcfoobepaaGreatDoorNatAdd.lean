import Derived.Test.YtecnjlcfoobepaaGreatDoorNatB
namespace Go.Proofs.YtecnjlcfoobepaaGreatDoor
set_option maxRecDepth 100000
set_option maxHeartbeats 400000
open Go.RowKit
set_option linter.all false
theorem Jfy (a b : Nat) (w : World) (ha : a < 18446744073709551616) (hb : b < 18446744073709551616) : Calls Tryz.prog 172 #[Jj a, Jj b] w (Ret (Jj (a + b)) w) := by
 unfold Jj
 rw [Qc a ha, Jx a ha, Qc b hb, Jx b hb]
 obtain ⟨S, hS⟩ : ∃ S, (a + b) % 18446744073709551616 = S := ⟨_, rfl⟩
 obtain ⟨C, hC⟩ : ∃ C, (a + b) / 18446744073709551616 = C := ⟨_, rfl⟩
 have t8 : ∀ w, (callFunc 155 #[.int .u64 (a : Int), .int .u64 (b : Int), .int .u64 0]).run Tryz.prog w = .ok (.value (.tuple #[.int .u64 (S : Int), .int .u64 (C : Int)])) w := fun w => by
  have := Yh a b 0 (by omega) w
  rw [Nat.add_zero, hS, hC] at this
  exact this
 have HSC := lh (And.intro hS hC)
 have aN : S < 18446744073709551616 := by omega
 have aO : C <= 1 := by omega
 clear hS hC
 obtain ⟨b0, b1, b2, hB, hZ⟩ := bx3 w 52 #[.int .u64 (lo a : Int), .string (mo a)] 52 #[.int .u64 (lo b : Int), .string (mo b)] 52 #[.int .u64 0, .string ⟨#[]⟩]
 rw [Qc a ha, Jx a ha, Qc b hb, Jx b hb] at b0 b1 b2 hB hZ
 by_cases cA : C = 0
 ·subst cA
  have e : a + b = S := by have := HSC.out; omega
  rw [e, Qc S aN, Jx S aN]
  clear e
  go_enter Tryz.func172, Tryz.ntmps172
  go_wp2
  go_returns
  exact ⟨rfl, by go_grown⟩
 have cS : ((C : Int) == 0) = false := by simp; omega
 go_enter Tryz.func172, Tryz.ntmps172
 go_wp2_with fail
 generalize ((w.alloc (.cells #[.int .u64 (a : Int), .string ⟨#[]⟩] 52)).alloc (.cells #[.int .u64 (b : Int), .string ⟨#[]⟩] 52)).alloc (.cells #[.int .u64 0, .string ⟨#[]⟩] 52) = W at *
 have x8 := (Row.new W 50 Jm [S, C]).reads
 rw [hZ.out] at x8
 refine (Qk _ 2 2 _ [S, C] _ x8 (by simp; have := hZ.out; omega) (Dig.cons aN (Dig.cons (by omega) Dig.nil)) (by omega) (by omega)).mono ?_
 rintro e w1 ⟨rfl, x9⟩
 have e : dv 18446744073709551616 [S, C] = a + b := by
  simp only [dv]
  have := HSC.out
  omega
 rw [e]
 have x9 := Ja (Jb W _) x9
 (try clear j8 j9 o0 o5 j6 j7); obtain ⟨b2, j8, j9, o0, o5, j6, j7⟩ := b2.zf2 x9
 have aP := Ja hB x9
 clear e x8 t8 b0 b1
 unfold Jj
 generalize a + b = N at *
 go_wp2
 refine bodyPost_ret (v := .agg #[.int .u64 (lo N : Int), .string (mo N)]) (by simp [results, Tryz.results172, go_sem, j6, j7]) rfl ?_
 exact ⟨rfl, Xz aP (by omega) _ _⟩
def Jqt (W : World) (gX cX n : Nat) (AY : Option Addr) (lY : List Nat) (s i : Nat) (c : Nat) (wr : World) : Prop :=
 ∃ l : List Nat, l.length = n /\ Own wr 50 Jm (.slice (some ⟨gX, 0, none⟩) l.length cX) l /\ Dig 18446744073709551616 l /\ dv 18446744073709551616 l + c * 18446744073709551616 ^ i = s + dv 18446744073709551616 (lY.take i) /\ Reads wr wr.heap.size 1 AY lY.length (lY.map Jm) /\ Below W.heap.size W wr
theorem Ji7 (a b : Nat) (w : World) (bF : ¬ (a < 18446744073709551616 /\ b < 18446744073709551616)) (ha : Je a <= 1099511627776) (hb : Je b <= 1099511627776) : Calls Tryz.prog 172 #[Jj a, Jj b] w (Ret (Jj (a + b)) w) := by
 have aQ := Qz a ha
 have aR := Qz b hb
 have hc : (¬ (mo a).toList = [] /\ (mo a).toList.isEmpty = false) \/ ((mo a).toList = [] /\ (mo a).toList.isEmpty = true /\ ¬ (mo b).toList = [] /\ (mo b).toList.isEmpty = false) := by
  by_cases h : a < 18446744073709551616
  ·have h1 := Kt a h
   exact .inr ⟨h1.1, h1.2, Yz b (fun h2 => bF ⟨h, h2⟩)⟩
  exact .inl (Yz a h)
 unfold Jj
 obtain ⟨b0, b1, b2, hB, hZ⟩ := bx3 w 52 #[.int .u64 (lo a : Int), .string (mo a)] 52 #[.int .u64 (lo b : Int), .string (mo b)] 52 #[.int .u64 0, .string ⟨#[]⟩]
 go_enter Tryz.func172, Tryz.ntmps172
 rcases hc with ⟨bG, aS⟩ | ⟨bG, aS, bH, cB⟩
 all_goals
  go_upto_region 6 with fail
  generalize (((w.alloc (.cells #[.int .u64 (lo a : Int), .string (mo a)] 52)).alloc (.cells #[.int .u64 (lo b : Int), .string (mo b)] 52)).alloc (.cells #[.int .u64 0, .string ⟨#[]⟩] 52)) = W at *
  obtain ⟨aT, aU⟩ := b0.c2; obtain ⟨aV, aW⟩ := b1.c2
  go_cut [7, 8] (fun v7 v8 wc => Two W (Jg a) (Jg b) v7 v8 wc)
  case first =>
   have c0 := b0.drew
   have c1 := b1.drew
   go_region_held3 (fun w' => w'.cell? ⟨w.heap.size, 0, none⟩ = some (.int .u64 (lo a : Int)) /\ w'.cell? ⟨w.heap.size, 1, none⟩ = some (.string (mo a)) /\ w'.cell? ⟨w.heap.size + 1, 0, none⟩ = some (.int .u64 (lo b : Int)) /\ w'.cell? ⟨w.heap.size + 1, 1, none⟩ = some (.string (mo b))) (go_keep) (first | (go_at_call_of 122 (Value.agg #[.int .u64 (lo a : Int), .string (mo a)]); refine (Xx a _ (by omega) (by omega)).mono ?_; rintro e wa ⟨va, rfl, aX⟩; have bI := aX.2.1; (try clear y8 y9); obtain ⟨c0, y8, y9⟩ := c0.zc2 bI; (try clear aA aB); obtain ⟨c1, aA, aB⟩ := c1.zc2 bI) | (go_at_call_of 122 (Value.agg #[.int .u64 (lo b : Int), .string (mo b)]); refine (Xx b _ (by omega) (by omega)).mono ?_; rintro e wb ⟨vb, rfl, aY⟩; have bJ := aY.2.1; (try clear y8 y9); obtain ⟨c0, y8, y9⟩ := c0.zc2 bJ; (try clear aA aB); obtain ⟨c1, aA, aB⟩ := c1.zc2 bJ))
   all_goals
    go_wp2_with fail
    go_meet
    first | exact Two.ab aX aY | exact Two.ba aY aX
  case rest =>
   obtain ⟨A7, c7, rfl, _, _⟩ := hcut.1.form
   obtain ⟨A8, c8, rfl, _, _⟩ := hcut.2.1.form
   clear aT aU aV aW b0 b1 bG aS
   obtain ⟨la, aG⟩ : ∃ la, Jg a = la := ⟨_, rfl⟩
   obtain ⟨lb, aC⟩ : ∃ lb, Jg b = lb := ⟨_, rfl⟩
   have HA := lh (And.intro aG aC)
   rw [aG, aC] at hcut
   rw [aG, aC]
   rw [aG] at aQ
   rw [aC] at aR
   clear aG aC
   obtain ⟨m, hm⟩ : ∃ m, la.length = m := ⟨_, rfl⟩
   obtain ⟨n, hn⟩ : ∃ n, lb.length = n := ⟨_, rfl⟩
   rw [hm, hn] at hcut
   rw [hm] at aQ
   rw [hn] at aR
   rw [hm, hn]
   have HM := lh (And.intro hm hn)
   clear hm hn
   go_upto_if 44 with fail
   go_cut [7, 8] (fun v7 v8 wc => XY W (a + b) v7 v8 wc)
   case first =>
    have hs : dv 18446744073709551616 la + dv 18446744073709551616 lb = a + b := by rw [<- HA.out.1, <- HA.out.2, Jp, Jp]
    have bK : Dig 18446744073709551616 la := by rw [<- HA.out.1]; exact Js a
    have bL : Dig 18446744073709551616 lb := by rw [<- HA.out.2]; exact Js b
    have HS := lh hs
    clear hs
    have cC : 0 < m \/ 0 < n := by
     by_cases h : a = 0
     ·subst h
      refine .inr ?_
      rw [<- HM.out.2, <- HA.out.2]
      exact Xp b (fun h => bF ⟨by omega, by omega⟩)
     refine .inl ?_
     rw [<- HM.out.1, <- HA.out.1]
     exact Xp a h
    by_cases bM : m < n
    ·have aZ : (m : Int) < (n : Int) := by omega
     go_wp2
     go_meet
     exact XY.of hcut.swap (by rw [HM.out.1, HM.out.2]; omega) (by rw [HM.out.2]; omega) (by rw [HM.out.2]; omega) bL bK (by rw [Nat.add_comm]; exact HS.out)
    have aZ : ¬ (m : Int) < (n : Int) := by omega
    go_wp2
    go_meet
    exact XY.of hcut (by rw [HM.out.1, HM.out.2]; omega) (by rw [HM.out.1]; omega) (by rw [HM.out.1]; omega) bK bL HS.out
   case rest =>
    obtain ⟨gX, cX, lX, AY, cY, lY, rfl, bA, rfl, bN, cD, cE, aC, bO, cF, aH, aI, cG⟩ := hcut
    clear aQ aR HM HA
    obtain ⟨p, hp⟩ : ∃ p, lX.length = p := ⟨_, rfl⟩
    obtain ⟨q, hq⟩ : ∃ q, lY.length = q := ⟨_, rfl⟩
    have cT : p <= cX := by
     obtain ⟨A, c, hv, h1, _⟩ := bA.form
     injection hv with _ _ hv
     omega
    rw [hp, hq] at cE
    rw [hp] at aC
    rw [hp, hq]
    have HP := lh (And.intro hp hq)
    have HSUM := lh aH
    clear aH
    go_wp2_with fail
    go_loopw [9, 49] (fun c i wr => ∃ k c' : Nat, k <= p /\ c' <= 1 /\ i = .int .i64 k /\ c = .int .u64 c' /\ Jqt W gX cX p AY lY (dv 18446744073709551616 lX) k c' wr) (fun _ i _ => p - (intOf i).toNat)
    case atStart => exact ⟨0, 0, Nat.zero_le _, Nat.zero_le _, rfl, rfl, lX, hp, bA, bO, by simp [dv], bN, aI⟩
    case round =>
     obtain ⟨k, c', hk, cH, rfl, rfl, l, hl, ho, hd, bP, hr, aF⟩ := hrel
     clear hp hq bA bN aI bO
     have HL := lh hl
     have HDV := lh bP
     have aJ := hr
     rw [HP.out.2] at aJ
     clear hl bP
     by_cases bM : k < p
     ·obtain ⟨x, hx⟩ : ∃ x, l[k]? = some x := ⟨_, List.getElem?_eq_getElem (by rw [HL.out]; exact bM)⟩
      have cI := ho.cellf hx
      have cU := ho.frozenf k
      unfold Jm at cI
      have cJ : (k : Int) < (p : Int) := by omega
      obtain ⟨y, t7, cV⟩ : ∃ y : Nat, (lY[k]? = some y \/ (q <= k /\ y = 0)) /\ y < 18446744073709551616 := by
       by_cases bB : k < q
       ·obtain ⟨y, hy⟩ : ∃ y, lY[k]? = some y := ⟨_, List.getElem?_eq_getElem (by rw [HP.out.2]; exact bB)⟩
        exact ⟨y, .inl hy, cF.get hy⟩
       exact ⟨0, .inr ⟨by omega, rfl⟩, by omega⟩
      have cZ := hd.get hx
      obtain ⟨S, hS⟩ : ∃ S, (x + y + c') % 18446744073709551616 = S := ⟨_, rfl⟩
      obtain ⟨C, hC⟩ : ∃ C, (x + y + c') / 18446744073709551616 = C := ⟨_, rfl⟩
      have cK : S < 18446744073709551616 := by omega
      have aO : C <= 1 := by omega
      have t8 : ∀ w, (callFunc 155 #[.int .u64 (x : Int), .int .u64 (y : Int), .int .u64 (c' : Int)]).run Tryz.prog w = .ok (.value (.tuple #[.int .u64 (S : Int), .int .u64 (C : Int)])) w := fun w => by
       have := Yh x y c' cH w
       rw [hS, hC] at this
       exact this
      have bQ : dv 18446744073709551616 (lY.take (k + 1)) = dv 18446744073709551616 (lY.take k) + y * 18446744073709551616 ^ k := by
       rcases t7 with t7 | ⟨t7, rfl⟩
       ·exact Jv t7
       rw [Qw (by rw [HP.out.2]; omega), Qw (by rw [HP.out.2]; omega)]
       omega
      have aD := Uc (s := S) (c' := C) (b := y) hx (by omega) HDV.out
      rw [Nat.add_assoc, <- bQ] at aD
      have bR := ho.store k S
      have bS : Reads (wr.setCell ⟨gX, k, none⟩ (Jm S)) wr.heap.size 1 AY lY.length (lY.map Jm) := Reads.setFar hr (fun ad he => cD ad he) _
      have bT := aF.setCell (p := ⟨gX, k, none⟩) cG (Jm S)
      have aK : Jqt W gX cX p AY lY (dv 18446744073709551616 lX) (k + 1) C (wr.setCell ⟨gX, k, none⟩ (Jm S)) := by
       refine ⟨l.set k S, by rw [List.length_set]; exact HL.out, ?_, hd.set_ k cK, aD, ?_, bT⟩
       ·rw [List.length_set]; exact bR
       rw [World.size_setCell]; exact bS
      have HFIN := lh aK
      clear hS hC hx bQ aD bR bS bT aK ho hd aF hr
      rcases t7 with t7 | ⟨t7, rfl⟩
      ·have bB : k < q := by rw [<- HP.out.2]; exact (List.getElem?_eq_some_iff.1 t7).1
       obtain ⟨ad, y', cL, _, bC, cM⟩ := aJ.atf bB
       rw [t7] at bC
       obtain rfl : y = y' := by simpa using bC
       have bD : (k : Int) < (q : Int) := by omega
       unfold Jm at cM
       clear bC t7 aJ
       subst cL
       go_wp2
       exact ⟨⟨k + 1, C, by omega, aO, by go_num, rfl, HFIN.out⟩, by simp [intOf]; omega⟩
      have bD : ¬ (k : Int) < (q : Int) := by omega
      have bU : ∀ w, (callFunc 155 #[.int .u64 (x : Int), .int .u64 0, .int .u64 (c' : Int)]).run Tryz.prog w = .ok (.value (.tuple #[.int .u64 (S : Int), .int .u64 (C : Int)])) w := t8
      clear aJ t8
      go_wp2
      exact ⟨⟨k + 1, C, by omega, aO, by go_num, rfl, HFIN.out⟩, by simp [intOf]; omega⟩
     obtain rfl : k = p := by omega
     have cJ : ¬ (k : Int) < (k : Int) := by omega
     have s9 := HDV.out
     rw [Qw (by rw [HP.out.2]; omega), HSUM.out] at s9
     have b2 := b2.below aF b2.lt
     have bV := Ja hB aF
     have b2w := aF.size
     have bE := HL.out
     rw [HL.out] at ho
     have HF := lh s9
     clear s9 bE hr aJ aF
     by_cases cN : c' = 0
     ·subst cN
      have aE := Own.reads ho
      rw [HL.out] at aE
      go_wp2_with fail
      refine (Qk _ k cX _ l wr aE zd hd (by omega) (by omega)).mono ?_
      rintro e w1 ⟨rfl, x9⟩
      have e : dv 18446744073709551616 l = a + b := by have := HF.out; omega
      rw [e]
      have aP := Ja bV x9
      (try clear j8 j9 o0 o5 j6 j7); obtain ⟨b2, j8, j9, o0, o5, j6, j7⟩ := b2.zf2 x9
      clear e ho aE
      unfold Jj
      generalize a + b = N at *
      go_wp2
      refine bodyPost_ret (v := .agg #[.int .u64 (lo N : Int), .string (mo N)]) (by simp [results, Tryz.results172, go_sem, j6, j7]) rfl ?_
      exact ⟨rfl, Xz aP (by omega) _ _⟩
     have aS : ((c' : Int) != 0) = true := by simp [bne_iff_ne]; omega
     have bW : Own wr 50 Jm (.slice (some ⟨gX, 0, none⟩) k cX) l := ho
     go_wp2_with (at_builtin; refine Jds Tryz.eltU64 rfl (.tmp 76) (.tmp 78) rfl wr _ l c' _ rfl rfl bW rfl rfl ?c1 ?c2 ?_)
     case c1 => rw [HL.out]; unfold maxLen; omega
     case c2 => rw [HL.out]; omega
     intro v3 w3 aL bX
     have cO : W.heap.size <= wr.heap.size := by have := b2w; omega
     have bY : Below W.heap.size wr w3 := Grew.below bX cO (fun k' cP => by simp [Value.ownBlock] at cP; omega)
     have b2 := b2.below bY (by have := hZ.out; omega)
     have cQ : Below w.heap.size w w3 := bV.trans (bY.mono hB.size)
     obtain ⟨A3, c3, aM, bH, cB⟩ := aL.form
     rw [aM] at aL
     have aE := Own.reads aL
     have bE : (l ++ [c']).length = k + 1 := by rw [List.length_append, HL.out]; rfl
     rw [bE] at aE bH aM
     rw [aM]
     clear aM aL bX ho bW
     go_wp2_with fail
     refine (Qk _ (k + 1) c3 _ (l ++ [c']) w3 aE zd (hd.append (Dig.cons (by omega) Dig.nil)) (by omega) (by omega)).mono ?_
     rintro e w4 ⟨rfl, bZ⟩
     have e : dv 18446744073709551616 (l ++ [c']) = a + b := by
      have := HF.out
      rw [Yf, HL.out]
      simp only [dv, Nat.mul_zero, Nat.add_zero]
      rw [Nat.mul_comm]
      omega
     rw [e]
     have cR := Ja cQ bZ
     (try clear j8 j9 o0 o5 j6 j7); obtain ⟨b2, j8, j9, o0, o5, j6, j7⟩ := b2.zf2 bZ
     clear e aE
     unfold Jj
     generalize a + b = N at *
     go_wp2
     refine bodyPost_ret (v := .agg #[.int .u64 (lo N : Int), .string (mo N)]) (by simp [results, Tryz.results172, go_sem, j6, j7]) rfl ?_
     exact ⟨rfl, Xz cR (by omega) _ _⟩
theorem Jq7 (a b : Nat) (w : World) (ha : Je a <= 1099511627776) (hb : Je b <= 1099511627776) : Calls Tryz.prog 172 #[Jj a, Jj b] w (Ret (Jj (a + b)) w) := by
 by_cases h : a < 18446744073709551616 /\ b < 18446744073709551616
 ·exact Jfy a b w h.1 h.2
 exact Ji7 a b w h ha hb
