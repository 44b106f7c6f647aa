import Derived.Test.YtacbcaebaomglaaGreatDoorNatB
namespace Go.Proofs.YtacbcaebaomglaaGreatDoor
set_option maxRecDepth 100000
set_option maxHeartbeats 400000
open Go.RowKit
set_option linter.all false
theorem Je0 (a b : Nat) (w : World) (ha : a < 18446744073709551616) (hb : b < 18446744073709551616) : Calls Tryz.prog 137 #[Jh a, Jh b] w (Ret (Jh (a + b)) w) := by
 unfold Jh
 rw [Qa a ha, Ju a ha, Qa b hb, Ju b hb]
 obtain ⟨S, hS⟩ : ∃ S, (a + b) % 18446744073709551616 = S := ⟨_, rfl⟩
 obtain ⟨C, hC⟩ : ∃ C, (a + b) / 18446744073709551616 = C := ⟨_, rfl⟩
 have o6 : ∀ w, (callFunc 164 #[.int .u64 (a : Int), .int .u64 (b : Int), .int .u64 0]).run Tryz.prog w = .ok (.value (.tuple #[.int .u64 (S : Int), .int .u64 (C : Int)])) w := fun w => by
  have := Yl a b 0 (by omega) w
  rw [Nat.add_zero, hS, hC] at this
  exact this
 have HSC := lh (And.intro hS hC)
 have aB : S < 18446744073709551616 := by omega
 have aC : C <= 1 := by omega
 clear hS hC
 obtain ⟨b0, b1, b2, hB, hZ⟩ := bx3 w 61 #[.int .u64 (lo a : Int), .string (mo a)] 61 #[.int .u64 (lo b : Int), .string (mo b)] 61 #[.int .u64 0, .string ⟨#[]⟩]
 rw [Qa a ha, Ju a ha, Qa b hb, Ju b hb] at b0 b1 b2 hB hZ
 by_cases bO : C = 0
 ·subst bO
  have e : a + b = S := by have := HSC.out; omega
  rw [e, Qa S aB, Ju S aB]
  clear e
  go_enter Tryz.func137, Tryz.ntmps137
  go_wp2
  go_returns
  exact ⟨rfl, by go_grown⟩
 have cG : ((C : Int) == 0) = false := by simp; omega
 go_enter Tryz.func137, Tryz.ntmps137
 go_wp2_with fail
 generalize ((w.alloc (.cells #[.int .u64 (a : Int), .string ⟨#[]⟩] 61)).alloc (.cells #[.int .u64 (b : Int), .string ⟨#[]⟩] 61)).alloc (.cells #[.int .u64 0, .string ⟨#[]⟩] 61) = W at *
 have o7 := (Row.new W 59 Jk [S, C]).reads
 rw [hZ.out] at o7
 refine (Qe _ 2 2 _ [S, C] _ o7 (by simp; have := hZ.out; omega) (Dig.cons aB (Dig.cons (by omega) Dig.nil)) (by omega) (by omega)).mono ?_
 rintro e w1 ⟨rfl, o8⟩
 have e : dv 18446744073709551616 [S, C] = a + b := by
  simp only [dv]
  have := HSC.out
  omega
 rw [e]
 have o8 := Ja (Jb W _) o8
 (try clear j0 j6 j7 j8 e8 e9); obtain ⟨b2, j0, j6, j7, j8, e8, e9⟩ := b2.zf2 o8
 have aD := Ja hB o8
 clear e o7 o6 b0 b1
 unfold Jh
 generalize a + b = N at *
 go_wp2
 refine bodyPost_ret (v := .agg #[.int .u64 (lo N : Int), .string (mo N)]) (by simp [results, Tryz.results137, go_sem, e8, e9]) rfl ?_
 exact ⟨rfl, Za aD (by omega) _ _⟩
def Jm3 (W : World) (gX cX n : Nat) (AY : Option Addr) (lY : List Nat) (s i : Nat) (c : Nat) (wr : World) : Prop :=
 ∃ l : List Nat, l.length = n /\ Own wr 59 Jk (.slice (some ⟨gX, 0, none⟩) l.length cX) l /\ Dig 18446744073709551616 l /\ dv 18446744073709551616 l + c * 18446744073709551616 ^ i = s + dv 18446744073709551616 (lY.take i) /\ Reads wr wr.heap.size 1 AY lY.length (lY.map Jk) /\ Below W.heap.size W wr
theorem Jh2 (a b : Nat) (w : World) (aT : ¬ (a < 18446744073709551616 /\ b < 18446744073709551616)) (ha : Je a <= 1099511627776) (hb : Je b <= 1099511627776) : Calls Tryz.prog 137 #[Jh a, Jh b] w (Ret (Jh (a + b)) w) := by
 have aE := Qu a ha
 have aF := Qu b hb
 have hc : (¬ (mo a).toList = [] /\ (mo a).toList.isEmpty = false) \/ ((mo a).toList = [] /\ (mo a).toList.isEmpty = true /\ ¬ (mo b).toList = [] /\ (mo b).toList.isEmpty = false) := by
  by_cases h : a < 18446744073709551616
  ·have h1 := Kt a h
   exact .inr ⟨h1.1, h1.2, Ka b (fun h2 => aT ⟨h, h2⟩)⟩
  exact .inl (Ka a h)
 unfold Jh
 obtain ⟨b0, b1, b2, hB, hZ⟩ := bx3 w 61 #[.int .u64 (lo a : Int), .string (mo a)] 61 #[.int .u64 (lo b : Int), .string (mo b)] 61 #[.int .u64 0, .string ⟨#[]⟩]
 go_enter Tryz.func137, Tryz.ntmps137
 rcases hc with ⟨aU, aG⟩ | ⟨aU, aG, aV, bP⟩
 all_goals
  go_upto_region 6 with fail
  generalize (((w.alloc (.cells #[.int .u64 (lo a : Int), .string (mo a)] 61)).alloc (.cells #[.int .u64 (lo b : Int), .string (mo b)] 61)).alloc (.cells #[.int .u64 0, .string ⟨#[]⟩] 61)) = W at *
  obtain ⟨aH, aI⟩ := b0.c2; obtain ⟨aJ, aK⟩ := b1.c2
  go_cut [7, 8] (fun v7 v8 wc => Two W (Jf a) (Jf b) v7 v8 wc)
  case first =>
   have c0 := b0.drew
   have c1 := b1.drew
   go_region_held3 (fun w' => w'.cell? ⟨w.heap.size, 0, none⟩ = some (.int .u64 (lo a : Int)) /\ w'.cell? ⟨w.heap.size, 1, none⟩ = some (.string (mo a)) /\ w'.cell? ⟨w.heap.size + 1, 0, none⟩ = some (.int .u64 (lo b : Int)) /\ w'.cell? ⟨w.heap.size + 1, 1, none⟩ = some (.string (mo b))) (go_keep) (first | (go_at_call_of 127 (Value.agg #[.int .u64 (lo a : Int), .string (mo a)]); refine (Xz a _ (by omega) (by omega)).mono ?_; rintro e wa ⟨va, rfl, aL⟩; have aW := aL.2.1; (try clear o9 p7); obtain ⟨c0, o9, p7⟩ := c0.zc2 aW; (try clear p8 p9); obtain ⟨c1, p8, p9⟩ := c1.zc2 aW) | (go_at_call_of 127 (Value.agg #[.int .u64 (lo b : Int), .string (mo b)]); refine (Xz b _ (by omega) (by omega)).mono ?_; rintro e wb ⟨vb, rfl, aM⟩; have aX := aM.2.1; (try clear o9 p7); obtain ⟨c0, o9, p7⟩ := c0.zc2 aX; (try clear p8 p9); obtain ⟨c1, p8, p9⟩ := c1.zc2 aX))
   all_goals
    go_wp2_with fail
    go_meet
    first | exact Two.ab aL aM | exact Two.ba aM aL
  case rest =>
   obtain ⟨A7, c7, rfl, _, _⟩ := hcut.1.form
   obtain ⟨A8, c8, rfl, _, _⟩ := hcut.2.1.form
   clear aH aI aJ aK b0 b1 aU aG
   obtain ⟨la, u4⟩ : ∃ la, Jf a = la := ⟨_, rfl⟩
   obtain ⟨lb, q8⟩ : ∃ lb, Jf b = lb := ⟨_, rfl⟩
   have HA := lh (And.intro u4 q8)
   rw [u4, q8] at hcut
   rw [u4, q8]
   rw [u4] at aE
   rw [q8] at aF
   clear u4 q8
   obtain ⟨m, hm⟩ : ∃ m, la.length = m := ⟨_, rfl⟩
   obtain ⟨n, hn⟩ : ∃ n, lb.length = n := ⟨_, rfl⟩
   rw [hm, hn] at hcut
   rw [hm] at aE
   rw [hn] at aF
   rw [hm, hn]
   have HM := lh (And.intro hm hn)
   clear hm hn
   go_upto_if 44 with fail
   go_cut [7, 8] (fun v7 v8 wc => XY W (a + b) v7 v8 wc)
   case first =>
    have hs : dv 18446744073709551616 la + dv 18446744073709551616 lb = a + b := by rw [<- HA.out.1, <- HA.out.2, Jm, Jm]
    have aY : Dig 18446744073709551616 la := by rw [<- HA.out.1]; exact Jp a
    have aZ : Dig 18446744073709551616 lb := by rw [<- HA.out.2]; exact Jp b
    have HS := lh hs
    clear hs
    have bQ : 0 < m \/ 0 < n := by
     by_cases h : a = 0
     ·subst h
      refine .inr ?_
      rw [<- HM.out.2, <- HA.out.2]
      exact Xo b (fun h => aT ⟨by omega, by omega⟩)
     refine .inl ?_
     rw [<- HM.out.1, <- HA.out.1]
     exact Xo a h
    by_cases bA : m < n
    ·have aN : (m : Int) < (n : Int) := by omega
     go_wp2
     go_meet
     exact XY.of hcut.swap (by rw [HM.out.1, HM.out.2]; omega) (by rw [HM.out.2]; omega) (by rw [HM.out.2]; omega) aZ aY (by rw [Nat.add_comm]; exact HS.out)
    have aN : ¬ (m : Int) < (n : Int) := by omega
    go_wp2
    go_meet
    exact XY.of hcut (by rw [HM.out.1, HM.out.2]; omega) (by rw [HM.out.1]; omega) (by rw [HM.out.1]; omega) aY aZ HS.out
   case rest =>
    obtain ⟨gX, cX, lX, AY, cY, lY, rfl, aO, rfl, bB, bR, bS, q8, bC, bT, x7, x8, bU⟩ := hcut
    clear aE aF HM HA
    obtain ⟨p, hp⟩ : ∃ p, lX.length = p := ⟨_, rfl⟩
    obtain ⟨q, hq⟩ : ∃ q, lY.length = q := ⟨_, rfl⟩
    have cH : p <= cX := by
     obtain ⟨A, c, hv, h1, _⟩ := aO.form
     injection hv with _ _ hv
     omega
    rw [hp, hq] at bS
    rw [hp] at q8
    rw [hp, hq]
    have HP := lh (And.intro hp hq)
    have HSUM := lh x7
    clear x7
    go_wp2_with fail
    go_loopw [9, 49] (fun c i wr => ∃ k c' : Nat, k <= p /\ c' <= 1 /\ i = .int .i64 k /\ c = .int .u64 c' /\ Jm3 W gX cX p AY lY (dv 18446744073709551616 lX) k c' wr) (fun _ i _ => p - (intOf i).toNat)
    case atStart => exact ⟨0, 0, Nat.zero_le _, Nat.zero_le _, rfl, rfl, lX, hp, aO, bC, by simp [dv], bB, x8⟩
    case round =>
     obtain ⟨k, c', hk, bV, rfl, rfl, l, hl, ho, hd, bD, hr, t8⟩ := hrel
     clear hp hq aO bB x8 bC
     have HL := lh hl
     have HDV := lh bD
     have x9 := hr
     rw [HP.out.2] at x9
     clear hl bD
     by_cases bA : k < p
     ·obtain ⟨x, hx⟩ : ∃ x, l[k]? = some x := ⟨_, List.getElem?_eq_getElem (by rw [HL.out]; exact bA)⟩
      have bW := ho.cellf hx
      have cI := ho.frozenf k
      unfold Jk at bW
      have bX : (k : Int) < (p : Int) := by omega
      obtain ⟨y, o0, cJ⟩ : ∃ y : Nat, (lY[k]? = some y \/ (q <= k /\ y = 0)) /\ y < 18446744073709551616 := by
       by_cases aP : k < q
       ·obtain ⟨y, hy⟩ : ∃ y, lY[k]? = some y := ⟨_, List.getElem?_eq_getElem (by rw [HP.out.2]; exact aP)⟩
        exact ⟨y, .inl hy, bT.get hy⟩
       exact ⟨0, .inr ⟨by omega, rfl⟩, by omega⟩
      have cK := hd.get hx
      obtain ⟨S, hS⟩ : ∃ S, (x + y + c') % 18446744073709551616 = S := ⟨_, rfl⟩
      obtain ⟨C, hC⟩ : ∃ C, (x + y + c') / 18446744073709551616 = C := ⟨_, rfl⟩
      have bY : S < 18446744073709551616 := by omega
      have aC : C <= 1 := by omega
      have o6 : ∀ w, (callFunc 164 #[.int .u64 (x : Int), .int .u64 (y : Int), .int .u64 (c' : Int)]).run Tryz.prog w = .ok (.value (.tuple #[.int .u64 (S : Int), .int .u64 (C : Int)])) w := fun w => by
       have := Yl x y c' bV w
       rw [hS, hC] at this
       exact this
      have bE : dv 18446744073709551616 (lY.take (k + 1)) = dv 18446744073709551616 (lY.take k) + y * 18446744073709551616 ^ k := by
       rcases o0 with o0 | ⟨o0, rfl⟩
       ·exact Js o0
       rw [Qo (by rw [HP.out.2]; omega), Qo (by rw [HP.out.2]; omega)]
       omega
      have s9 := Ua (s := S) (c' := C) (b := y) hx (by omega) HDV.out
      rw [Nat.add_assoc, <- bE] at s9
      have bF := ho.store k S
      have bG : Reads (wr.setCell ⟨gX, k, none⟩ (Jk S)) wr.heap.size 1 AY lY.length (lY.map Jk) := Reads.setFar hr (fun ad he => bR ad he) _
      have bH := t8.setCell (p := ⟨gX, k, none⟩) bU (Jk S)
      have y8 : Jm3 W gX cX p AY lY (dv 18446744073709551616 lX) (k + 1) C (wr.setCell ⟨gX, k, none⟩ (Jk S)) := by
       refine ⟨l.set k S, by rw [List.length_set]; exact HL.out, ?_, hd.set_ k bY, s9, ?_, bH⟩
       ·rw [List.length_set]; exact bF
       rw [World.size_setCell]; exact bG
      have HFIN := lh y8
      clear hS hC hx bE s9 bF bG bH y8 ho hd t8 hr
      rcases o0 with o0 | ⟨o0, rfl⟩
      ·have aP : k < q := by rw [<- HP.out.2]; exact (List.getElem?_eq_some_iff.1 o0).1
       obtain ⟨ad, y', bZ, _, aQ, cA⟩ := x9.atf aP
       rw [o0] at aQ
       obtain rfl : y = y' := by simpa using aQ
       have aR : (k : Int) < (q : Int) := by omega
       unfold Jk at cA
       clear aQ o0 x9
       subst bZ
       go_wp2
       exact ⟨⟨k + 1, C, by omega, aC, by go_num, rfl, HFIN.out⟩, by simp [intOf]; omega⟩
      have aR : ¬ (k : Int) < (q : Int) := by omega
      have bI : ∀ w, (callFunc 164 #[.int .u64 (x : Int), .int .u64 0, .int .u64 (c' : Int)]).run Tryz.prog w = .ok (.value (.tuple #[.int .u64 (S : Int), .int .u64 (C : Int)])) w := o6
      clear x9 o6
      go_wp2
      exact ⟨⟨k + 1, C, by omega, aC, by go_num, rfl, HFIN.out⟩, by simp [intOf]; omega⟩
     obtain rfl : k = p := by omega
     have bX : ¬ (k : Int) < (k : Int) := by omega
     have j9 := HDV.out
     rw [Qo (by rw [HP.out.2]; omega), HSUM.out] at j9
     have b2 := b2.below t8 b2.lt
     have bJ := Ja hB t8
     have b2w := t8.size
     have aS := HL.out
     rw [HL.out] at ho
     have HF := lh j9
     clear j9 aS hr x9 t8
     by_cases cB : c' = 0
     ·subst cB
      have t7 := Own.reads ho
      rw [HL.out] at t7
      go_wp2_with fail
      refine (Qe _ k cX _ l wr t7 zd hd (by omega) (by omega)).mono ?_
      rintro e w1 ⟨rfl, o8⟩
      have e : dv 18446744073709551616 l = a + b := by have := HF.out; omega
      rw [e]
      have aD := Ja bJ o8
      (try clear j0 j6 j7 j8 e8 e9); obtain ⟨b2, j0, j6, j7, j8, e8, e9⟩ := b2.zf2 o8
      clear e ho t7
      unfold Jh
      generalize a + b = N at *
      go_wp2
      refine bodyPost_ret (v := .agg #[.int .u64 (lo N : Int), .string (mo N)]) (by simp [results, Tryz.results137, go_sem, e8, e9]) rfl ?_
      exact ⟨rfl, Za aD (by omega) _ _⟩
     have aG : ((c' : Int) != 0) = true := by simp [bne_iff_ne]; omega
     have bK : Own wr 59 Jk (.slice (some ⟨gX, 0, none⟩) k cX) l := ho
     go_wp2_with (at_builtin; refine Jmt Tryz.eltU64 rfl (.tmp 76) (.tmp 78) rfl wr _ l c' _ rfl rfl bK rfl rfl ?c1 ?c2 ?_)
     case c1 => rw [HL.out]; unfold maxLen; omega
     case c2 => rw [HL.out]; omega
     intro v3 w3 y9 bL
     have cC : W.heap.size <= wr.heap.size := by have := b2w; omega
     have bM : Below W.heap.size wr w3 := Grew.below bL cC (fun k' cD => by simp [Value.ownBlock] at cD; omega)
     have b2 := b2.below bM (by have := hZ.out; omega)
     have cE : Below w.heap.size w w3 := bJ.trans (bM.mono hB.size)
     obtain ⟨A3, c3, aA, aV, bP⟩ := y9.form
     rw [aA] at y9
     have t7 := Own.reads y9
     have aS : (l ++ [c']).length = k + 1 := by rw [List.length_append, HL.out]; rfl
     rw [aS] at t7 aV aA
     rw [aA]
     clear aA y9 bL ho bK
     go_wp2_with fail
     refine (Qe _ (k + 1) c3 _ (l ++ [c']) w3 t7 zd (hd.append (Dig.cons (by omega) Dig.nil)) (by omega) (by omega)).mono ?_
     rintro e w4 ⟨rfl, bN⟩
     have e : dv 18446744073709551616 (l ++ [c']) = a + b := by
      have := HF.out
      rw [Yk, HL.out]
      simp only [dv, Nat.mul_zero, Nat.add_zero]
      rw [Nat.mul_comm]
      omega
     rw [e]
     have cF := Ja cE bN
     (try clear j0 j6 j7 j8 e8 e9); obtain ⟨b2, j0, j6, j7, j8, e8, e9⟩ := b2.zf2 bN
     clear e t7
     unfold Jh
     generalize a + b = N at *
     go_wp2
     refine bodyPost_ret (v := .agg #[.int .u64 (lo N : Int), .string (mo N)]) (by simp [results, Tryz.results137, go_sem, e8, e9]) rfl ?_
     exact ⟨rfl, Za cF (by omega) _ _⟩
theorem Jnh (a b : Nat) (w : World) (ha : Je a <= 1099511627776) (hb : Je b <= 1099511627776) : Calls Tryz.prog 137 #[Jh a, Jh b] w (Ret (Jh (a + b)) w) := by
 by_cases h : a < 18446744073709551616 /\ b < 18446744073709551616
 ·exact Je0 a b w h.1 h.2
 exact Jh2 a b w h ha hb
