import Derived.Test.YtacbcaebaomglaaGreatDoorNatB
namespace Go.Proofs.YtacbcaebaomglaaGreatDoor
set_option maxRecDepth 100000
set_option maxHeartbeats 400000
open Go.RowKit
set_option linter.all false
theorem Jcu (a b : Nat) (w : World) (ha : a < 18446744073709551616) (hb : b < 18446744073709551616) : Calls Tryz.prog 137 #[Jh a, Jh b] w (Ret (Jh (a + b)) w) := by
 unfold Jh
 rw [Ju a ha, Jo a ha, Ju b hb, Jo b hb]
 obtain ⟨S, hS⟩ : ∃ S, (a + b) % 18446744073709551616 = S := ⟨_, rfl⟩
 obtain ⟨C, hC⟩ : ∃ C, (a + b) / 18446744073709551616 = C := ⟨_, rfl⟩
 have l7 : ∀ w, (callFunc 164 #[.int .u64 (a : Int), .int .u64 (b : Int), .int .u64 0]).run Tryz.prog w = .ok (.value (.tuple #[.int .u64 (S : Int), .int .u64 (C : Int)])) w := fun w => by
  have := Zg a b 0 (by omega) w
  rw [Nat.add_zero, hS, hC] at this
  exact this
 have HSC := lh (And.intro hS hC)
 have x8 : S < 18446744073709551616 := by omega
 have x9 : C <= 1 := by omega
 clear hS hC
 obtain ⟨b0, b1, b2, hB, hZ⟩ := bx3 w 61 #[.int .u64 (lo a : Int), .string (mo a)] 61 #[.int .u64 (lo b : Int), .string (mo b)] 61 #[.int .u64 0, .string ⟨#[]⟩]
 rw [Ju a ha, Jo a ha, Ju b hb, Jo b hb] at b0 b1 b2 hB hZ
 by_cases bJ : C = 0
 ·subst bJ
  have e : a + b = S := by have := HSC.out; omega
  rw [e, Ju S x8, Jo S x8]
  clear e
  go_enter Tryz.func137, Tryz.ntmps137
  go_wp2
  go_returns
  exact ⟨rfl, by go_grown⟩
 have cB : ((C : Int) == 0) = false := by simp; omega
 go_enter Tryz.func137, Tryz.ntmps137
 go_wp2_with fail
 generalize ((w.alloc (.cells #[.int .u64 (a : Int), .string ⟨#[]⟩] 61)).alloc (.cells #[.int .u64 (b : Int), .string ⟨#[]⟩] 61)).alloc (.cells #[.int .u64 0, .string ⟨#[]⟩] 61) = W at *
 have o0 := (Row.new W 59 Jj [S, C]).reads
 rw [hZ.out] at o0
 refine (Qc _ 2 2 _ [S, C] _ o0 (by simp; have := hZ.out; omega) (Dig.cons x8 (Dig.cons (by omega) Dig.nil)) (by omega) (by omega)).mono ?_
 rintro e w1 ⟨rfl, o6⟩
 have e : dv 18446744073709551616 [S, C] = a + b := by
  simp only [dv]
  have := HSC.out
  omega
 rw [e]
 have o6 := Ja (Jb W _) o6
 (try clear j0 j6 j7 j8 e8 e9); obtain ⟨b2, j0, j6, j7, j8, e8, e9⟩ := b2.zf2 o6
 have y8 := Ja hB o6
 clear e o0 l7 b0 b1
 unfold Jh
 generalize a + b = N at *
 go_wp2
 refine bodyPost_ret (v := .agg #[.int .u64 (lo N : Int), .string (mo N)]) (by simp [results, Tryz.results137, go_sem, e8, e9]) rfl ?_
 exact ⟨rfl, Xg y8 (by omega) _ _⟩
def Jka (W : World) (gX cX n : Nat) (AY : Option Addr) (lY : List Nat) (s i : Nat) (c : Nat) (wr : World) : Prop :=
 ∃ l : List Nat, l.length = n /\ Own wr 59 Jj (.slice (some ⟨gX, 0, none⟩) l.length cX) l /\ Dig 18446744073709551616 l /\ dv 18446744073709551616 l + c * 18446744073709551616 ^ i = s + dv 18446744073709551616 (lY.take i) /\ Reads wr wr.heap.size 1 AY lY.length (lY.map Jj) /\ Below W.heap.size W wr
theorem Jfe (a b : Nat) (w : World) (aO : ¬ (a < 18446744073709551616 /\ b < 18446744073709551616)) (ha : Je a <= 1099511627776) (hb : Je b <= 1099511627776) : Calls Tryz.prog 137 #[Jh a, Jh b] w (Ret (Jh (a + b)) w) := by
 have y9 := Qm a ha
 have aA := Qm b hb
 have hc : (¬ (mo a).toList = [] /\ (mo a).toList.isEmpty = false) \/ ((mo a).toList = [] /\ (mo a).toList.isEmpty = true /\ ¬ (mo b).toList = [] /\ (mo b).toList.isEmpty = false) := by
  by_cases h : a < 18446744073709551616
  ·have h1 := Ym a h
   exact .inr ⟨h1.1, h1.2, Zq b (fun h2 => aO ⟨h, h2⟩)⟩
  exact .inl (Zq a h)
 unfold Jh
 obtain ⟨b0, b1, b2, hB, hZ⟩ := bx3 w 61 #[.int .u64 (lo a : Int), .string (mo a)] 61 #[.int .u64 (lo b : Int), .string (mo b)] 61 #[.int .u64 0, .string ⟨#[]⟩]
 go_enter Tryz.func137, Tryz.ntmps137
 rcases hc with ⟨aP, aB⟩ | ⟨aP, aB, aQ, bK⟩
 all_goals
  go_upto_region 6 with fail
  generalize (((w.alloc (.cells #[.int .u64 (lo a : Int), .string (mo a)] 61)).alloc (.cells #[.int .u64 (lo b : Int), .string (mo b)] 61)).alloc (.cells #[.int .u64 0, .string ⟨#[]⟩] 61)) = W at *
  obtain ⟨aC, aD⟩ := b0.c2; obtain ⟨aE, aF⟩ := b1.c2
  go_cut [7, 8] (fun v7 v8 wc => Two W (Jf a) (Jf b) v7 v8 wc)
  case first =>
   have c0 := b0.drew
   have c1 := b1.drew
   go_region_held3 (fun w' => w'.cell? ⟨w.heap.size, 0, none⟩ = some (.int .u64 (lo a : Int)) /\ w'.cell? ⟨w.heap.size, 1, none⟩ = some (.string (mo a)) /\ w'.cell? ⟨w.heap.size + 1, 0, none⟩ = some (.int .u64 (lo b : Int)) /\ w'.cell? ⟨w.heap.size + 1, 1, none⟩ = some (.string (mo b))) (go_keep) (first | (go_at_call_of 127 (Value.agg #[.int .u64 (lo a : Int), .string (mo a)]); refine (Xe a _ (by omega) (by omega)).mono ?_; rintro e wa ⟨va, rfl, aG⟩; have aR := aG.2.1; (try clear o7 o8); obtain ⟨c0, o7, o8⟩ := c0.zc2 aR; (try clear o9 p0); obtain ⟨c1, o9, p0⟩ := c1.zc2 aR) | (go_at_call_of 127 (Value.agg #[.int .u64 (lo b : Int), .string (mo b)]); refine (Xe b _ (by omega) (by omega)).mono ?_; rintro e wb ⟨vb, rfl, aH⟩; have aS := aH.2.1; (try clear o7 o8); obtain ⟨c0, o7, o8⟩ := c0.zc2 aS; (try clear o9 p0); obtain ⟨c1, o9, p0⟩ := c1.zc2 aS))
   all_goals
    go_wp2_with fail
    go_meet
    first | exact Two.ab aG aH | exact Two.ba aH aG
  case rest =>
   obtain ⟨A7, c7, rfl, _, _⟩ := hcut.1.form
   obtain ⟨A8, c8, rfl, _, _⟩ := hcut.2.1.form
   clear aC aD aE aF b0 b1 aP aB
   obtain ⟨la, q9⟩ : ∃ la, Jf a = la := ⟨_, rfl⟩
   obtain ⟨lb, p7⟩ : ∃ lb, Jf b = lb := ⟨_, rfl⟩
   have HA := lh (And.intro q9 p7)
   rw [q9, p7] at hcut
   rw [q9, p7]
   rw [q9] at y9
   rw [p7] at aA
   clear q9 p7
   obtain ⟨m, hm⟩ : ∃ m, la.length = m := ⟨_, rfl⟩
   obtain ⟨n, hn⟩ : ∃ n, lb.length = n := ⟨_, rfl⟩
   rw [hm, hn] at hcut
   rw [hm] at y9
   rw [hn] at aA
   rw [hm, hn]
   have HM := lh (And.intro hm hn)
   clear hm hn
   go_upto_if 44 with fail
   go_cut [7, 8] (fun v7 v8 wc => XY W (a + b) v7 v8 wc)
   case first =>
    have hs : dv 18446744073709551616 la + dv 18446744073709551616 lb = a + b := by rw [<- HA.out.1, <- HA.out.2, Jk, Jk]
    have aT : Dig 18446744073709551616 la := by rw [<- HA.out.1]; exact Jm a
    have aU : Dig 18446744073709551616 lb := by rw [<- HA.out.2]; exact Jm b
    have HS := lh hs
    clear hs
    have bL : 0 < m \/ 0 < n := by
     by_cases h : a = 0
     ·subst h
      refine .inr ?_
      rw [<- HM.out.2, <- HA.out.2]
      exact Xb b (fun h => aO ⟨by omega, by omega⟩)
     refine .inl ?_
     rw [<- HM.out.1, <- HA.out.1]
     exact Xb a h
    by_cases aV : m < n
    ·have aI : (m : Int) < (n : Int) := by omega
     go_wp2
     go_meet
     exact XY.of hcut.swap (by rw [HM.out.1, HM.out.2]; omega) (by rw [HM.out.2]; omega) (by rw [HM.out.2]; omega) aU aT (by rw [Nat.add_comm]; exact HS.out)
    have aI : ¬ (m : Int) < (n : Int) := by omega
    go_wp2
    go_meet
    exact XY.of hcut (by rw [HM.out.1, HM.out.2]; omega) (by rw [HM.out.1]; omega) (by rw [HM.out.1]; omega) aT aU HS.out
   case rest =>
    obtain ⟨gX, cX, lX, AY, cY, lY, rfl, aJ, rfl, aW, bM, bN, p7, aX, bO, s9, t7, bP⟩ := hcut
    clear y9 aA HM HA
    obtain ⟨p, hp⟩ : ∃ p, lX.length = p := ⟨_, rfl⟩
    obtain ⟨q, hq⟩ : ∃ q, lY.length = q := ⟨_, rfl⟩
    have cC : p <= cX := by
     obtain ⟨A, c, hv, h1, _⟩ := aJ.form
     injection hv with _ _ hv
     omega
    rw [hp, hq] at bN
    rw [hp] at p7
    rw [hp, hq]
    have HP := lh (And.intro hp hq)
    have HSUM := lh s9
    clear s9
    go_wp2_with fail
    go_loopw [9, 49] (fun c i wr => ∃ k c' : Nat, k <= p /\ c' <= 1 /\ i = .int .i64 k /\ c = .int .u64 c' /\ Jka W gX cX p AY lY (dv 18446744073709551616 lX) k c' wr) (fun _ i _ => p - (intOf i).toNat)
    case atStart => exact ⟨0, 0, Nat.zero_le _, Nat.zero_le _, rfl, rfl, lX, hp, aJ, aX, by simp [dv], aW, t7⟩
    case round =>
     obtain ⟨k, c', hk, bQ, rfl, rfl, l, hl, ho, hd, aY, hr, q8⟩ := hrel
     clear hp hq aJ aW t7 aX
     have HL := lh hl
     have HDV := lh aY
     have t8 := hr
     rw [HP.out.2] at t8
     clear hl aY
     by_cases aV : k < p
     ·obtain ⟨x, hx⟩ : ∃ x, l[k]? = some x := ⟨_, List.getElem?_eq_getElem (by rw [HL.out]; exact aV)⟩
      have bR := ho.cellf hx
      have cD := ho.frozenf k
      unfold Jj at bR
      have bS : (k : Int) < (p : Int) := by omega
      obtain ⟨y, l5, cE⟩ : ∃ y : Nat, (lY[k]? = some y \/ (q <= k /\ y = 0)) /\ y < 18446744073709551616 := by
       by_cases aK : k < q
       ·obtain ⟨y, hy⟩ : ∃ y, lY[k]? = some y := ⟨_, List.getElem?_eq_getElem (by rw [HP.out.2]; exact aK)⟩
        exact ⟨y, .inl hy, bO.get hy⟩
       exact ⟨0, .inr ⟨by omega, rfl⟩, by omega⟩
      have cF := hd.get hx
      obtain ⟨S, hS⟩ : ∃ S, (x + y + c') % 18446744073709551616 = S := ⟨_, rfl⟩
      obtain ⟨C, hC⟩ : ∃ C, (x + y + c') / 18446744073709551616 = C := ⟨_, rfl⟩
      have bT : S < 18446744073709551616 := by omega
      have x9 : C <= 1 := by omega
      have l7 : ∀ w, (callFunc 164 #[.int .u64 (x : Int), .int .u64 (y : Int), .int .u64 (c' : Int)]).run Tryz.prog w = .ok (.value (.tuple #[.int .u64 (S : Int), .int .u64 (C : Int)])) w := fun w => by
       have := Zg x y c' bQ w
       rw [hS, hC] at this
       exact this
      have aZ : dv 18446744073709551616 (lY.take (k + 1)) = dv 18446744073709551616 (lY.take k) + y * 18446744073709551616 ^ k := by
       rcases l5 with l5 | ⟨l5, rfl⟩
       ·exact Jt l5
       rw [Qj (by rw [HP.out.2]; omega), Qj (by rw [HP.out.2]; omega)]
       omega
      have p8 := Kq (s := S) (c' := C) (b := y) hx (by omega) HDV.out
      rw [Nat.add_assoc, <- aZ] at p8
      have bA := ho.store k S
      have bB : Reads (wr.setCell ⟨gX, k, none⟩ (Jj S)) wr.heap.size 1 AY lY.length (lY.map Jj) := Reads.setFar hr (fun ad he => bM ad he) _
      have bC := q8.setCell (p := ⟨gX, k, none⟩) bP (Jj S)
      have u4 : Jka W gX cX p AY lY (dv 18446744073709551616 lX) (k + 1) C (wr.setCell ⟨gX, k, none⟩ (Jj S)) := by
       refine ⟨l.set k S, by rw [List.length_set]; exact HL.out, ?_, hd.set_ k bT, p8, ?_, bC⟩
       ·rw [List.length_set]; exact bA
       rw [World.size_setCell]; exact bB
      have HFIN := lh u4
      clear hS hC hx aZ p8 bA bB bC u4 ho hd q8 hr
      rcases l5 with l5 | ⟨l5, rfl⟩
      ·have aK : k < q := by rw [<- HP.out.2]; exact (List.getElem?_eq_some_iff.1 l5).1
       obtain ⟨ad, y', bU, _, aL, bV⟩ := t8.atf aK
       rw [l5] at aL
       obtain rfl : y = y' := by simpa using aL
       have aM : (k : Int) < (q : Int) := by omega
       unfold Jj at bV
       clear aL l5 t8
       subst bU
       go_wp2
       exact ⟨⟨k + 1, C, by omega, x9, by go_num, rfl, HFIN.out⟩, by simp [intOf]; omega⟩
      have aM : ¬ (k : Int) < (q : Int) := by omega
      have bD : ∀ w, (callFunc 164 #[.int .u64 (x : Int), .int .u64 0, .int .u64 (c' : Int)]).run Tryz.prog w = .ok (.value (.tuple #[.int .u64 (S : Int), .int .u64 (C : Int)])) w := l7
      clear t8 l7
      go_wp2
      exact ⟨⟨k + 1, C, by omega, x9, by go_num, rfl, HFIN.out⟩, by simp [intOf]; omega⟩
     obtain rfl : k = p := by omega
     have bS : ¬ (k : Int) < (k : Int) := by omega
     have j9 := HDV.out
     rw [Qj (by rw [HP.out.2]; omega), HSUM.out] at j9
     have b2 := b2.below q8 b2.lt
     have bE := Ja hB q8
     have b2w := q8.size
     have aN := HL.out
     rw [HL.out] at ho
     have HF := lh j9
     clear j9 aN hr t8 q8
     by_cases bW : c' = 0
     ·subst bW
      have p9 := Own.reads ho
      rw [HL.out] at p9
      go_wp2_with fail
      refine (Qc _ k cX _ l wr p9 zd hd (by omega) (by omega)).mono ?_
      rintro e w1 ⟨rfl, o6⟩
      have e : dv 18446744073709551616 l = a + b := by have := HF.out; omega
      rw [e]
      have y8 := Ja bE o6
      (try clear j0 j6 j7 j8 e8 e9); obtain ⟨b2, j0, j6, j7, j8, e8, e9⟩ := b2.zf2 o6
      clear e ho p9
      unfold Jh
      generalize a + b = N at *
      go_wp2
      refine bodyPost_ret (v := .agg #[.int .u64 (lo N : Int), .string (mo N)]) (by simp [results, Tryz.results137, go_sem, e8, e9]) rfl ?_
      exact ⟨rfl, Xg y8 (by omega) _ _⟩
     have aB : ((c' : Int) != 0) = true := by simp [bne_iff_ne]; omega
     have bF : Own wr 59 Jj (.slice (some ⟨gX, 0, none⟩) k cX) l := ho
     go_wp2_with (at_builtin; refine Jlr Tryz.eltU64 rfl (.tmp 76) (.tmp 78) rfl wr _ l c' _ rfl rfl bF rfl rfl ?c1 ?c2 ?_)
     case c1 => rw [HL.out]; unfold maxLen; omega
     case c2 => rw [HL.out]; omega
     intro v3 w3 u5 bG
     have bX : W.heap.size <= wr.heap.size := by have := b2w; omega
     have bH : Below W.heap.size wr w3 := Grew.below bG bX (fun k' bY => by simp [Value.ownBlock] at bY; omega)
     have b2 := b2.below bH (by have := hZ.out; omega)
     have bZ : Below w.heap.size w w3 := bE.trans (bH.mono hB.size)
     obtain ⟨A3, c3, x7, aQ, bK⟩ := u5.form
     rw [x7] at u5
     have p9 := Own.reads u5
     have aN : (l ++ [c']).length = k + 1 := by rw [List.length_append, HL.out]; rfl
     rw [aN] at p9 aQ x7
     rw [x7]
     clear x7 u5 bG ho bF
     go_wp2_with fail
     refine (Qc _ (k + 1) c3 _ (l ++ [c']) w3 p9 zd (hd.append (Dig.cons (by omega) Dig.nil)) (by omega) (by omega)).mono ?_
     rintro e w4 ⟨rfl, bI⟩
     have e : dv 18446744073709551616 (l ++ [c']) = a + b := by
      have := HF.out
      rw [Yh, HL.out]
      simp only [dv, Nat.mul_zero, Nat.add_zero]
      rw [Nat.mul_comm]
      omega
     rw [e]
     have cA := Ja bZ bI
     (try clear j0 j6 j7 j8 e8 e9); obtain ⟨b2, j0, j6, j7, j8, e8, e9⟩ := b2.zf2 bI
     clear e p9
     unfold Jh
     generalize a + b = N at *
     go_wp2
     refine bodyPost_ret (v := .agg #[.int .u64 (lo N : Int), .string (mo N)]) (by simp [results, Tryz.results137, go_sem, e8, e9]) rfl ?_
     exact ⟨rfl, Xg cA (by omega) _ _⟩
theorem Jkj (a b : Nat) (w : World) (ha : Je a <= 1099511627776) (hb : Je b <= 1099511627776) : Calls Tryz.prog 137 #[Jh a, Jh b] w (Ret (Jh (a + b)) w) := by
 by_cases h : a < 18446744073709551616 /\ b < 18446744073709551616
 ·exact Jcu a b w h.1 h.2
 exact Jfe a b w h ha hb
