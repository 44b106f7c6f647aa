import Derived.Test.YtcoloflmigcphaaGreatDoorNatB
namespace Go.Proofs.YtcoloflmigcphaaGreatDoor
set_option maxRecDepth 100000
set_option maxHeartbeats 400000
open Go.RowKit
set_option linter.all false
theorem Jdr (a b : Nat) (w : World) (ha : a < 18446744073709551616) (hb : b < 18446744073709551616) : Calls Tryz.prog 120 #[Jg a, Jg b] w (Ret (Jg (a + b)) w) := by
 unfold Jg
 rw [Jy a ha, Jp a ha, Jy b hb, Jp b hb]
 obtain ⟨S, hS⟩ : ∃ S, (a + b) % 18446744073709551616 = S := ⟨_, rfl⟩
 obtain ⟨C, hC⟩ : ∃ C, (a + b) / 18446744073709551616 = C := ⟨_, rfl⟩
 have o0 : ∀ w, (callFunc 140 #[.int .u64 (a : Int), .int .u64 (b : Int), .int .u64 0]).run Tryz.prog w = .ok (.value (.tuple #[.int .u64 (S : Int), .int .u64 (C : Int)])) w := fun w => by
  have := Zo a b 0 (by omega) w
  rw [Nat.add_zero, hS, hC] at this
  exact this
 have HSC := lh (And.intro hS hC)
 have aH : S < 18446744073709551616 := by omega
 have aI : C <= 1 := by omega
 clear hS hC
 obtain ⟨b0, b1, b2, hB, hZ⟩ := bx3 w 37 #[.int .u64 (lo a : Int), .string (mo a)] 37 #[.int .u64 (lo b : Int), .string (mo b)] 37 #[.int .u64 0, .string ⟨#[]⟩]
 rw [Jy a ha, Jp a ha, Jy b hb, Jp b hb] at b0 b1 b2 hB hZ
 by_cases bV : C = 0
 ·subst bV
  have e : a + b = S := by have := HSC.out; omega
  rw [e, Jy S aH, Jp S aH]
  clear e
  go_enter Tryz.func120, Tryz.ntmps120
  go_wp2
  go_returns
  exact ⟨rfl, by go_grown⟩
 have cO : ((C : Int) == 0) = false := by simp; omega
 go_enter Tryz.func120, Tryz.ntmps120
 go_wp2_with fail
 generalize ((w.alloc (.cells #[.int .u64 (a : Int), .string ⟨#[]⟩] 37)).alloc (.cells #[.int .u64 (b : Int), .string ⟨#[]⟩] 37)).alloc (.cells #[.int .u64 0, .string ⟨#[]⟩] 37) = W at *
 have o9 := (Row.new W 35 Jh [S, C]).reads
 rw [hZ.out] at o9
 refine (Qe _ 2 2 _ [S, C] _ o9 (by simp; have := hZ.out; omega) (Dig.cons aH (Dig.cons (by omega) Dig.nil)) (by omega) (by omega)).mono ?_
 rintro e w1 ⟨rfl, cZ⟩
 have e : dv 18446744073709551616 [S, C] = a + b := by
  simp only [dv]
  have := HSC.out
  omega
 rw [e]
 have cZ := Ja (Jb W _) cZ
 (try clear j7 j8 j9 bR j0 j6); obtain ⟨b2, j7, j8, j9, bR, j0, j6⟩ := b2.zf2 cZ
 have aJ := Ja hB cZ
 clear e o9 o0 b0 b1
 unfold Jg
 generalize a + b = N at *
 go_wp2
 refine bodyPost_ret (v := .agg #[.int .u64 (lo N : Int), .string (mo N)]) (by simp [results, Tryz.results120, go_sem, j0, j6]) rfl ?_
 exact ⟨rfl, Xo aJ (by omega) _ _⟩
def Jl3 (W : World) (gX cX n : Nat) (AY : Option Addr) (lY : List Nat) (s i : Nat) (c : Nat) (wr : World) : Prop :=
 ∃ l : List Nat, l.length = n /\ Own wr 35 Jh (.slice (some ⟨gX, 0, none⟩) l.length cX) l /\ Dig 18446744073709551616 l /\ dv 18446744073709551616 l + c * 18446744073709551616 ^ i = s + dv 18446744073709551616 (lY.take i) /\ Reads wr wr.heap.size 1 AY lY.length (lY.map Jh) /\ Below W.heap.size W wr
theorem Jgr (a b : Nat) (w : World) (aZ : ¬ (a < 18446744073709551616 /\ b < 18446744073709551616)) (ha : Je a <= 1099511627776) (hb : Je b <= 1099511627776) : Calls Tryz.prog 120 #[Jg a, Jg b] w (Ret (Jg (a + b)) w) := by
 have aK := Qq a ha
 have aL := Qq b hb
 have hc : (¬ (mo a).toList = [] /\ (mo a).toList.isEmpty = false) \/ ((mo a).toList = [] /\ (mo a).toList.isEmpty = true /\ ¬ (mo b).toList = [] /\ (mo b).toList.isEmpty = false) := by
  by_cases h : a < 18446744073709551616
  ·have h1 := Yu a h
   exact .inr ⟨h1.1, h1.2, Ya b (fun h2 => aZ ⟨h, h2⟩)⟩
  exact .inl (Ya a h)
 unfold Jg
 obtain ⟨b0, b1, b2, hB, hZ⟩ := bx3 w 37 #[.int .u64 (lo a : Int), .string (mo a)] 37 #[.int .u64 (lo b : Int), .string (mo b)] 37 #[.int .u64 0, .string ⟨#[]⟩]
 go_enter Tryz.func120, Tryz.ntmps120
 rcases hc with ⟨bA, aM⟩ | ⟨bA, aM, bB, bW⟩
 all_goals
  go_upto_region 6 with fail
  generalize (((w.alloc (.cells #[.int .u64 (lo a : Int), .string (mo a)] 37)).alloc (.cells #[.int .u64 (lo b : Int), .string (mo b)] 37)).alloc (.cells #[.int .u64 0, .string ⟨#[]⟩] 37)) = W at *
  obtain ⟨aN, aO⟩ := b0.c2; obtain ⟨aP, aQ⟩ := b1.c2
  go_cut [7, 8] (fun v7 v8 wc => Two W (words a) (words b) v7 v8 wc)
  case first =>
   have c0 := b0.drew
   have c1 := b1.drew
   go_region_held3 (fun w' => w'.cell? ⟨w.heap.size, 0, none⟩ = some (.int .u64 (lo a : Int)) /\ w'.cell? ⟨w.heap.size, 1, none⟩ = some (.string (mo a)) /\ w'.cell? ⟨w.heap.size + 1, 0, none⟩ = some (.int .u64 (lo b : Int)) /\ w'.cell? ⟨w.heap.size + 1, 1, none⟩ = some (.string (mo b))) (go_keep) (first | (go_at_call_of 129 (Value.agg #[.int .u64 (lo a : Int), .string (mo a)]); refine (Xl a _ (by omega) (by omega)).mono ?_; rintro e wa ⟨va, rfl, aR⟩; have bC := aR.2.1; (try clear p9 dA); obtain ⟨c0, p9, dA⟩ := c0.zc2 bC; (try clear s9 dB); obtain ⟨c1, s9, dB⟩ := c1.zc2 bC) | (go_at_call_of 129 (Value.agg #[.int .u64 (lo b : Int), .string (mo b)]); refine (Xl b _ (by omega) (by omega)).mono ?_; rintro e wb ⟨vb, rfl, aS⟩; have bD := aS.2.1; (try clear p9 dA); obtain ⟨c0, p9, dA⟩ := c0.zc2 bD; (try clear s9 dB); obtain ⟨c1, s9, dB⟩ := c1.zc2 bD))
   all_goals
    go_wp2_with fail
    go_meet
    first | exact Two.ab aR aS | exact Two.ba aS aR
  case rest =>
   obtain ⟨A7, c7, rfl, _, _⟩ := hcut.1.form
   obtain ⟨A8, c8, rfl, _, _⟩ := hcut.2.1.form
   clear aN aO aP aQ b0 b1 bA aM
   obtain ⟨la, aA⟩ : ∃ la, words a = la := ⟨_, rfl⟩
   obtain ⟨lb, dC⟩ : ∃ lb, words b = lb := ⟨_, rfl⟩
   have HA := lh (And.intro aA dC)
   rw [aA, dC] at hcut
   rw [aA, dC]
   rw [aA] at aK
   rw [dC] at aL
   clear aA dC
   obtain ⟨m, hm⟩ : ∃ m, la.length = m := ⟨_, rfl⟩
   obtain ⟨n, hn⟩ : ∃ n, lb.length = n := ⟨_, rfl⟩
   rw [hm, hn] at hcut
   rw [hm] at aK
   rw [hn] at aL
   rw [hm, hn]
   have HM := lh (And.intro hm hn)
   clear hm hn
   go_upto_if 44 with fail
   go_cut [7, 8] (fun v7 v8 wc => XY W (a + b) v7 v8 wc)
   case first =>
    have hs : dv 18446744073709551616 la + dv 18446744073709551616 lb = a + b := by rw [<- HA.out.1, <- HA.out.2, Ji, Ji]
    have bE : Dig 18446744073709551616 la := by rw [<- HA.out.1]; exact Jl a
    have bF : Dig 18446744073709551616 lb := by rw [<- HA.out.2]; exact Jl b
    have HS := lh hs
    clear hs
    have bX : 0 < m \/ 0 < n := by
     by_cases h : a = 0
     ·subst h
      refine .inr ?_
      rw [<- HM.out.2, <- HA.out.2]
      exact Xf b (fun h => aZ ⟨by omega, by omega⟩)
     refine .inl ?_
     rw [<- HM.out.1, <- HA.out.1]
     exact Xf a h
    by_cases bG : m < n
    ·have aT : (m : Int) < (n : Int) := by omega
     go_wp2
     go_meet
     exact XY.of hcut.swap (by rw [HM.out.1, HM.out.2]; omega) (by rw [HM.out.2]; omega) (by rw [HM.out.2]; omega) bF bE (by rw [Nat.add_comm]; exact HS.out)
    have aT : ¬ (m : Int) < (n : Int) := by omega
    go_wp2
    go_meet
    exact XY.of hcut (by rw [HM.out.1, HM.out.2]; omega) (by rw [HM.out.1]; omega) (by rw [HM.out.1]; omega) bE bF HS.out
   case rest =>
    obtain ⟨gX, cX, lX, AY, cY, lY, rfl, aU, rfl, bH, bY, bZ, dC, bI, cA, aB, aC, cB⟩ := hcut
    clear aK aL HM HA
    obtain ⟨p, hp⟩ : ∃ p, lX.length = p := ⟨_, rfl⟩
    obtain ⟨q, hq⟩ : ∃ q, lY.length = q := ⟨_, rfl⟩
    have cP : p <= cX := by
     obtain ⟨A, c, hv, h1, _⟩ := aU.form
     injection hv with _ _ hv
     omega
    rw [hp, hq] at bZ
    rw [hp] at dC
    rw [hp, hq]
    have HP := lh (And.intro hp hq)
    have HSUM := lh aB
    clear aB
    go_wp2_with fail
    go_loopw [9, 49] (fun c i wr => ∃ k c' : Nat, k <= p /\ c' <= 1 /\ i = .int .i64 k /\ c = .int .u64 c' /\ Jl3 W gX cX p AY lY (dv 18446744073709551616 lX) k c' wr) (fun _ i _ => p - (intOf i).toNat)
    case atStart => exact ⟨0, 0, Nat.zero_le _, Nat.zero_le _, rfl, rfl, lX, hp, aU, bI, by simp [dv], bH, aC⟩
    case round =>
     obtain ⟨k, c', hk, dF, rfl, rfl, l, hl, ho, hd, bJ, hr, y9⟩ := hrel
     clear hp hq aU bH aC bI
     have HL := lh hl
     have HDV := lh bJ
     have aD := hr
     rw [HP.out.2] at aD
     clear hl bJ
     by_cases bG : k < p
     ·obtain ⟨x, hx⟩ : ∃ x, l[k]? = some x := ⟨_, List.getElem?_eq_getElem (by rw [HL.out]; exact bG)⟩
      have cD := ho.cellf hx
      have dG := ho.frozenf k
      unfold Jh at cD
      have cE : (k : Int) < (p : Int) := by omega
      obtain ⟨y, cU, cR⟩ : ∃ y : Nat, (lY[k]? = some y \/ (q <= k /\ y = 0)) /\ y < 18446744073709551616 := by
       by_cases aV : k < q
       ·obtain ⟨y, hy⟩ : ∃ y, lY[k]? = some y := ⟨_, List.getElem?_eq_getElem (by rw [HP.out.2]; exact aV)⟩
        exact ⟨y, .inl hy, cA.get hy⟩
       exact ⟨0, .inr ⟨by omega, rfl⟩, by omega⟩
      have dH := hd.get hx
      obtain ⟨S, hS⟩ : ∃ S, (x + y + c') % 18446744073709551616 = S := ⟨_, rfl⟩
      obtain ⟨C, hC⟩ : ∃ C, (x + y + c') / 18446744073709551616 = C := ⟨_, rfl⟩
      have cF : S < 18446744073709551616 := by omega
      have aI : C <= 1 := by omega
      have o0 : ∀ w, (callFunc 140 #[.int .u64 (x : Int), .int .u64 (y : Int), .int .u64 (c' : Int)]).run Tryz.prog w = .ok (.value (.tuple #[.int .u64 (S : Int), .int .u64 (C : Int)])) w := fun w => by
       have := Zo x y c' dF w
       rw [hS, hC] at this
       exact this
      have bK : dv 18446744073709551616 (lY.take (k + 1)) = dv 18446744073709551616 (lY.take k) + y * 18446744073709551616 ^ k := by
       rcases cU with cU | ⟨cU, rfl⟩
       ·exact Jv cU
       rw [Qm (by rw [HP.out.2]; omega), Qm (by rw [HP.out.2]; omega)]
       omega
      have dD := Ky (s := S) (c' := C) (b := y) hx (by omega) HDV.out
      rw [Nat.add_assoc, <- bK] at dD
      have bL := ho.store k S
      have bM : Reads (wr.setCell ⟨gX, k, none⟩ (Jh S)) wr.heap.size 1 AY lY.length (lY.map Jh) := Reads.setFar hr (fun ad he => bY ad he) _
      have bN := y9.setCell (p := ⟨gX, k, none⟩) cB (Jh S)
      have aE : Jl3 W gX cX p AY lY (dv 18446744073709551616 lX) (k + 1) C (wr.setCell ⟨gX, k, none⟩ (Jh S)) := by
       refine ⟨l.set k S, by rw [List.length_set]; exact HL.out, ?_, hd.set_ k cF, dD, ?_, bN⟩
       ·rw [List.length_set]; exact bL
       rw [World.size_setCell]; exact bM
      have HFIN := lh aE
      clear hS hC hx bK dD bL bM bN aE ho hd y9 hr
      rcases cU with cU | ⟨cU, rfl⟩
      ·have aV : k < q := by rw [<- HP.out.2]; exact (List.getElem?_eq_some_iff.1 cU).1
       obtain ⟨ad, y', cG, _, aW, cH⟩ := aD.atf aV
       rw [cU] at aW
       obtain rfl : y = y' := by simpa using aW
       have aX : (k : Int) < (q : Int) := by omega
       unfold Jh at cH
       clear aW cU aD
       subst cG
       go_wp2
       exact ⟨⟨k + 1, C, by omega, aI, by go_num, rfl, HFIN.out⟩, by simp [intOf]; omega⟩
      have aX : ¬ (k : Int) < (q : Int) := by omega
      have bO : ∀ w, (callFunc 140 #[.int .u64 (x : Int), .int .u64 0, .int .u64 (c' : Int)]).run Tryz.prog w = .ok (.value (.tuple #[.int .u64 (S : Int), .int .u64 (C : Int)])) w := o0
      clear aD o0
      go_wp2
      exact ⟨⟨k + 1, C, by omega, aI, by go_num, rfl, HFIN.out⟩, by simp [intOf]; omega⟩
     obtain rfl : k = p := by omega
     have cE : ¬ (k : Int) < (k : Int) := by omega
     have cT := HDV.out
     rw [Qm (by rw [HP.out.2]; omega), HSUM.out] at cT
     have b2 := b2.below y9 b2.lt
     have bP := Ja hB y9
     have b2w := y9.size
     have aY := HL.out
     rw [HL.out] at ho
     have HF := lh cT
     clear cT aY hr aD y9
     by_cases cI : c' = 0
     ·subst cI
      have dE := Own.reads ho
      rw [HL.out] at dE
      go_wp2_with fail
      refine (Qe _ k cX _ l wr dE zd hd (by omega) (by omega)).mono ?_
      rintro e w1 ⟨rfl, cZ⟩
      have e : dv 18446744073709551616 l = a + b := by have := HF.out; omega
      rw [e]
      have aJ := Ja bP cZ
      (try clear j7 j8 j9 bR j0 j6); obtain ⟨b2, j7, j8, j9, bR, j0, j6⟩ := b2.zf2 cZ
      clear e ho dE
      unfold Jg
      generalize a + b = N at *
      go_wp2
      refine bodyPost_ret (v := .agg #[.int .u64 (lo N : Int), .string (mo N)]) (by simp [results, Tryz.results120, go_sem, j0, j6]) rfl ?_
      exact ⟨rfl, Xo aJ (by omega) _ _⟩
     have aM : ((c' : Int) != 0) = true := by simp [bne_iff_ne]; omega
     have bQ : Own wr 35 Jh (.slice (some ⟨gX, 0, none⟩) k cX) l := ho
     go_wp2_with (at_builtin; refine Joi Tryz.eltU64 rfl (.tmp 76) (.tmp 78) rfl wr _ l c' _ rfl rfl bQ rfl rfl ?c1 ?c2 ?_)
     case c1 => rw [HL.out]; unfold maxLen; omega
     case c2 => rw [HL.out]; omega
     intro v3 w3 aF bS
     have cJ : W.heap.size <= wr.heap.size := by have := b2w; omega
     have bT : Below W.heap.size wr w3 := Grew.below bS cJ (fun k' cK => by simp [Value.ownBlock] at cK; omega)
     have b2 := b2.below bT (by have := hZ.out; omega)
     have cL : Below w.heap.size w w3 := bP.trans (bT.mono hB.size)
     obtain ⟨A3, c3, aG, bB, bW⟩ := aF.form
     rw [aG] at aF
     have dE := Own.reads aF
     have aY : (l ++ [c']).length = k + 1 := by rw [List.length_append, HL.out]; rfl
     rw [aY] at dE bB aG
     rw [aG]
     clear aG aF bS ho bQ
     go_wp2_with fail
     refine (Qe _ (k + 1) c3 _ (l ++ [c']) w3 dE zd (hd.append (Dig.cons (by omega) Dig.nil)) (by omega) (by omega)).mono ?_
     rintro e w4 ⟨rfl, bU⟩
     have e : dv 18446744073709551616 (l ++ [c']) = a + b := by
      have := HF.out
      rw [Yp, HL.out]
      simp only [dv, Nat.mul_zero, Nat.add_zero]
      rw [Nat.mul_comm]
      omega
     rw [e]
     have cN := Ja cL bU
     (try clear j7 j8 j9 bR j0 j6); obtain ⟨b2, j7, j8, j9, bR, j0, j6⟩ := b2.zf2 bU
     clear e dE
     unfold Jg
     generalize a + b = N at *
     go_wp2
     refine bodyPost_ret (v := .agg #[.int .u64 (lo N : Int), .string (mo N)]) (by simp [results, Tryz.results120, go_sem, j0, j6]) rfl ?_
     exact ⟨rfl, Xo cN (by omega) _ _⟩
theorem Jme (a b : Nat) (w : World) (ha : Je a <= 1099511627776) (hb : Je b <= 1099511627776) : Calls Tryz.prog 120 #[Jg a, Jg b] w (Ret (Jg (a + b)) w) := by
 by_cases h : a < 18446744073709551616 /\ b < 18446744073709551616
 ·exact Jdr a b w h.1 h.2
 exact Jgr a b w h ha hb
