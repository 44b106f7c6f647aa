import Derived.Test.YtcoloflmigcphaaGreatDoorBayesJ
namespace Go.Proofs.YtcoloflmigcphaaGreatDoor
set_option maxRecDepth 100000
set_option maxHeartbeats 8000000
open Go.RowKit
set_option linter.all false
theorem Jp1 (A : Option Addr) (n c B : Nat) (l : List Int) (w : World) (h : ReadsI w B A n l) (hn : n <= 1000) (hl : ∀ x ∈ l, -1099511627776 <= x /\ x <= 1099511627776) :
  Calls Tryz.prog 57 #[.slice A n c] w fun e w' => e = .returned (.int .i64 l.sum) /\ w = w' := by
 have fM := h.len
 have HS := lh (Jf9 (b := 1099511627776) (by omega) hl)
 have H := lh h
 clear h hl
 go_enter Tryz.func57, Tryz.ntmps57
 go_wp2_with fail
 go_loopw [3, 4] (fun v p wr => ∃ k : Nat, k <= n /\ p = .int .i64 (k : Int) /\ v = .int .i64 (l.take k).sum /\ w = wr) (fun _ p _ => n - (intOf p).toNat)
 case atStart => exact ⟨0, by omega, rfl, rfl, rfl⟩
 case round =>
  obtain ⟨k, hk, rfl, rfl, rfl⟩ := hrel
  by_cases aV : k < n
  ·have k1 : (k : Int) < (n : Int) := by omega
   obtain ⟨ad, x, rfl, gM, hx, hc⟩ := H.out.at_ aV
   have h1 := HS.out (k + 1)
   have hs := Jcj hx
   obtain ⟨s, e1⟩ : ∃ s, (l.take k).sum = s := ⟨_, rfl⟩
   obtain ⟨t, e2⟩ : ∃ t, (l.take (k + 1)).sum = t := ⟨_, rfl⟩
   rw [e1, e2] at hs
   rw [e2] at h1
   rw [e1]
   have hw : wrap64 (s + x) = t := by rw [<- hs]; exact Jfv (by omega) (by omega)
   have E2 := lh e2
   clear e1 e2 hs h1 hx gM
   go_wp2
   exact ⟨⟨k + 1, by omega, by go_num, by rw [hw, E2.out], trivial⟩, by simp [intOf]; omega⟩
  obtain rfl : k = n := by omega
  have k1 : ¬ (k : Int) < (k : Int) := by omega
  rw [List.take_of_length_le (by omega)]
  go_wp2
  go_ret
  exact ⟨rfl, rfl⟩
section
variable {m : BM}
theorem Joo (h : Xk m.seen.length m.words = false) : Xi m = false := by
 unfold Xi
 rw [h]
 rfl
theorem Jpp (h : m.counts.length ≠ m.seen.length) : Xi m = false := by
 unfold Xi
 rw [decide_eq_false h, Bool.and_false, Bool.false_and]
theorem Jo3 {k : Nat} {t : List (List Int)} (ht : m.counts[k]? = some t) (h : Ym m.words t = false) : Xi m = false := by
 unfold Xi
 rw [Jay ht h, Bool.and_false]
end
theorem Jpq (ng : Bool) (A7 A8 : Option Addr) (l7 d7 l8 d8 : Nat) (A1 A2 A3 : Option Addr) (n1 c1 n2 c2 n3 c3 B : Nat) (m : BM) (w : World) (h : RdB w B ⟨A1, n1, c1⟩ ⟨A2, n2, c2⟩ ⟨A3, n3, c3⟩ m) (hB : B <= w.heap.size) (hL : LenB m) :
  Calls Tryz.prog 55 #[.agg #[.bool ng, .slice A7 l7 d7, .slice A8 l8 d8, .slice A1 n1 c1, .slice A2 n2 c2, .slice A3 n3 c3]] w (Ret (.bool (Xi m)) w) := by
 have aA : m.words.length = n1 := h.words.len
 have aG : m.seen.length = n2 := h.seen.len
 have aH : m.counts.length = n3 := ReadsS.len h.counts
 obtain ⟨R, hR⟩ : ∃ R, Xi m = R := ⟨_, rfl⟩
 rw [hR]
 have HR := lh hR
 have H := lh h
 have HL := lh hL
 have HBB := lh hB
 have HW := lh (And.intro aA (And.intro aG aH))
 clear h hL hB hR aA aG aH
 obtain ⟨b0, hB, hZ⟩ := bx1 w 31 #[.bool ng, .slice A7 l7 d7, .slice A8 l8 d8, .slice A1 n1 c1, .slice A2 n2 c2, .slice A3 n3 c3]
 go_enter Tryz.func55, Tryz.ntmps55
 go_upto_region 1 with fail
 generalize (w.alloc (.cells #[.bool ng, .slice A7 l7 d7, .slice A8 l8 d8, .slice A1 n1 c1, .slice A2 n2 c2, .slice A3 n3 c3] 31)) = W at *
 have HBW := lh hB
 have HM := lh (HBW.out.mono HBB.out)
 obtain ⟨x0, x1, x2, x3, x4, x5⟩ := b0.c6
 clear hB hZ
 by_cases h1 : n2 < 1
 ·obtain rfl : R = false := by rw [<- HR.out]; exact Joo (Ue (.inl (by have := HW.out; omega)))
  have k1 : (n2 : Int) < 1 := by omega
  go_wp2
  go_ret
  exact ⟨rfl, HBW.out⟩
 have k1 : ¬ (n2 : Int) < 1 := by omega
 by_cases h2 : 12 < n2
 ·obtain rfl : R = false := by rw [<- HR.out]; exact Joo (Ue (.inr (.inl (by have := HW.out; omega))))
  have k2 : (12 : Int) < (n2 : Int) := by omega
  go_wp2
  go_ret
  exact ⟨rfl, HBW.out⟩
 have k2 : ¬ (12 : Int) < (n2 : Int) := by omega
 by_cases h3 : n1 < 1
 ·obtain rfl : R = false := by rw [<- HR.out]; exact Joo (Ue (.inr (.inr (.inl (by have := HW.out; omega)))))
  have k3 : (n1 : Int) < 1 := by omega
  go_wp2
  go_ret
  exact ⟨rfl, HBW.out⟩
 have k3 : ¬ (n1 : Int) < 1 := by omega
 by_cases h4 : 20 < n1
 ·obtain rfl : R = false := by rw [<- HR.out]; exact Joo (Ue (.inr (.inr (.inr (by have := HW.out; omega)))))
  have k4 : (20 : Int) < (n1 : Int) := by omega
  go_wp2
  go_ret
  exact ⟨rfl, HBW.out⟩
 have k4 : ¬ (20 : Int) < (n1 : Int) := by omega
 by_cases h5 : n3 = n2
 case neg =>
  obtain rfl : R = false := by rw [<- HR.out]; exact Jpp (by have := HW.out; omega)
  have q1 : ((n3 : Int) != (n2 : Int)) = true := by simp; omega
  have q2 : ((n3 : Int) == (n2 : Int)) = false := by simp; omega
  have q3 : ¬ (n3 : Int) = (n2 : Int) := by omega
  go_wp2
  go_ret
  exact ⟨rfl, HBW.out⟩
 subst h5
 have q1 : ((n3 : Int) != (n3 : Int)) = false := by simp
 have q2 : ((n3 : Int) == (n3 : Int)) = true := by simp
 go_wp2_with fail
 go_loopw [3] (fun p wr => ∃ k : Nat, k <= n1 /\ p = .int .i64 (k : Int) /\ (∀ x ∈ m.words.take k, 1 <= x /\ x <= 12) /\ W = wr) (fun p _ => n1 - (intOf p).toNat)
 case atStart => exact ⟨0, by omega, rfl, by simp, rfl⟩
 case round =>
  obtain ⟨k, hk, rfl, bY, rfl⟩ := hrel
  have HIN := lh bY
  clear bY
  by_cases aV : k < n1
  ·have p1 : (k : Int) < (n1 : Int) := by omega
   obtain ⟨ad, x, rfl, gM, hx, hc⟩ := H.out.words.at_ (k := k) aV
   have aW := Qg HM.out hc gM
   have HX := lh hx
   clear hx hc gM
   by_cases y1 : x < 1
   ·obtain rfl : R = false := by rw [<- HR.out]; exact Joo (Jbq HX.out (.inl y1))
    go_wp2
    go_ret
    exact ⟨rfl, HBW.out⟩
   by_cases y2 : 12 < x
   ·obtain rfl : R = false := by rw [<- HR.out]; exact Joo (Jbq HX.out (.inr y2))
    go_wp2
    go_ret
    exact ⟨rfl, HBW.out⟩
   have HN := lh (Yv HX.out HIN.out (p := fun x => 1 <= x /\ x <= 12) ⟨by omega, by omega⟩)
   clear HIN HX
   go_wp2
   exact ⟨⟨k + 1, by omega, by go_num, HN.out, trivial⟩, by simp [intOf]; omega⟩
  obtain rfl : k = n1 := by omega
  have p1 : ¬ (k : Int) < (k : Int) := by omega
  have HSZ : Hid (Xk m.seen.length m.words = true) := lh (Jgc (by have := HW.out; omega) (by have := HW.out; omega) (by have := HW.out; omega) (by have := HW.out; omega) (by have := HIN.out; rw [List.take_of_length_le (by have := HW.out.1; omega)] at this; exact this))
  clear HIN
  go_wp2_with fail
  have HC := lh b0
  clear b0 x0 x1 x2 x3 x4 x5
  go_loopw [4] (fun p wr => ∃ c : Nat, c <= n3 /\ p = .int .i64 (c : Int) /\ (∀ t ∈ m.counts.take c, Ym m.words t = true) /\ Blk wr w.heap.size 31 #[.bool ng, .slice A7 l7 d7, .slice A8 l8 d8, .slice A1 k c1, .slice A2 n3 c2, .slice A3 n3 c3] /\ Below w.heap.size w wr) (fun p _ => n3 - (intOf p).toNat)
  case atStart => exact ⟨0, by omega, rfl, by simp, HC.out, HBW.out⟩
  case round =>
   obtain ⟨c, hc, rfl, aE, b0, j8⟩ := hrel
   rename World => wr
   have HF := lh aE
   have hm := j8.mono HBB.out
   clear aE HC
   obtain ⟨x0, x1, x2, x3, x4, x5⟩ := b0.c6
   by_cases cE : c < n3
   ·have p2 : (c : Int) < (n3 : Int) := by omega
    obtain ⟨t, ht⟩ : ∃ t, m.counts[c]? = some t := ⟨_, List.getElem?_eq_getElem (by have := HW.out.2.2; omega)⟩
    obtain ⟨ad, A4, n4, c4, rfl, gM, aX, hr⟩ := H.out.counts.at_ ht
    have aW := Qg hm aX gM
    have cF : t.length = n4 := ReadsS.len hr
    have HT := lh (And.intro ht (And.intro cF (And.intro aX gM)))
    have HR4 := lh hr
    have HBQ := lh j8
    clear aX gM ht cF hr hm j8
    go_upto_region 11 with fail
    go_quiet (fail)
    have b0 := b0.drewN nq
    have HBQ := lh (Jw HBQ.out nq)
    clear x0 x1 x2 x3 x4 x5 aW
    generalize wr.drewN nq = wd at *
    by_cases eN : n4 = k
    case neg =>
     obtain rfl : R = false := by rw [<- HR.out]; exact Jo3 HT.out.1 (Jkb (by rw [HW.out.1, HT.out.2.1]; exact eN))
     have q3 : ((n4 : Int) != (k : Int)) = true := by simp; omega
     have q4 : ((n4 : Int) == (k : Int)) = false := by simp; omega
     have q5 : ¬ (n4 : Int) = (k : Int) := by omega
     go_wp2
     go_ret
     exact ⟨rfl, HBQ.out⟩
    subst eN
    have q3 : ((n4 : Int) != (n4 : Int)) = false := by simp
    have q4 : ((n4 : Int) == (n4 : Int)) = true := by simp
    have HC := lh b0
    clear b0
    go_wp2_with fail
    go_loopw [5] (fun p wi => ∃ i : Nat, i <= n4 /\ p = .int .i64 (i : Int) /\ (∀ p ∈ (t.zip m.words).take i, (p.1.length : Int) = p.2) /\ Blk wi w.heap.size 31 #[.bool ng, .slice A7 l7 d7, .slice A8 l8 d8, .slice A1 n4 c1, .slice A2 n3 c2, .slice (some ad) n3 c3] /\ Below w.heap.size w wi) (fun p _ => n4 - (intOf p).toNat)
    case atStart => exact ⟨0, by omega, rfl, by simp, HC.out, HBQ.out⟩
    case round =>
     obtain ⟨i, hi, rfl, cG, b0, cH⟩ := hrel
     rename World => wi
     have HCL := lh cG
     have hm := cH.mono HBB.out
     clear cG HC HBQ
     obtain ⟨x0, x1, x2, x3, x4, x5⟩ := b0.c6
     by_cases bY : i < n4
     ·have p3 : (i : Int) < (n4 : Int) := by omega
      obtain ⟨j0, j7⟩ : ∃ j0, t[i]? = some j0 := ⟨_, List.getElem?_eq_getElem (by have := HT.out.2.1; omega)⟩
      obtain ⟨ad2, A5, n5, c5, rfl, s9, aZ, eO⟩ := HR4.out.at_ j7
      have dW := Qg hm HT.out.2.2.1 HT.out.2.2.2
      have bA := Qg hm aZ s9
      have cI : j0.length = n5 := ReadsI.len eO
      obtain ⟨ad3, y, rfl, cJ, hy, eP⟩ := H.out.words.at_ (k := i) bY
      have dX := Qg hm eP cJ
      have HXY := lh (And.intro j7 (And.intro hy cI))
      have HBI := lh cH
      clear j7 hy cI aZ eP eO s9 cJ hm cH
      go_upto_region 16 with fail
      go_quiet (fail)
      have b0 := b0.drewN nq
      have HBI := lh (Jw HBI.out nq)
      clear x0 x1 x2 x3 x4 x5 dW bA dX
      generalize wi.drewN nq = we at *
      by_cases dL : (n5 : Int) = y
      case neg =>
       obtain rfl : R = false := by rw [<- HR.out]; exact Jo3 HT.out.1 (Jkc HXY.out.1 HXY.out.2.1 (by rw [HXY.out.2.2]; exact dL))
       have q5 : ((n5 : Int) != y) = true := by simp; omega
       have q6 : ((n5 : Int) == y) = false := by simp; omega
       go_wp2
       go_ret
       exact ⟨rfl, HBI.out⟩
      subst dL
      have q5 : ((n5 : Int) != (n5 : Int)) = false := by simp
      have q6 : ((n5 : Int) == (n5 : Int)) = true := by simp
      have HN := lh (Yv (l := t.zip m.words) (k := i) (y := (j0, (n5 : Int))) (p := fun p => (p.1.length : Int) = p.2) (by rw [List.getElem?_zip_eq_some]; exact ⟨HXY.out.1, HXY.out.2.1⟩) HCL.out (by show (j0.length : Int) = _; rw [HXY.out.2.2]))
      have HC := lh b0
      clear HCL b0
      go_wp2
      exact ⟨⟨i + 1, by omega, by go_num, HN.out, HC.out, HBI.out⟩, by simp [intOf]; omega⟩
     obtain rfl : i = n4 := by omega
     have p3 : ¬ (i : Int) < (i : Int) := by omega
     have HN := lh (Yv HT.out.1 HF.out (p := fun t => Ym m.words t = true) (Jic (by rw [HW.out.1, HT.out.2.1]) (by have := HCL.out; rw [List.take_of_length_le (by have := HW.out.1; have := HT.out.2.1; simp; omega)] at this; exact this)))
     have HC := lh b0
     have HBI := lh cH
     clear HF HCL b0 cH hm
     go_wp2
     exact ⟨⟨c + 1, by omega, by go_num, HN.out, HC.out, HBI.out⟩, by simp [intOf]; omega⟩
   obtain rfl : c = n3 := by omega
   have p2 : ¬ (c : Int) < (c : Int) := by omega
   obtain rfl : R = true := by rw [<- HR.out]; exact Jey HSZ.out (by have := HW.out; omega) (by have := HF.out; rw [List.take_of_length_le (by have := HW.out.2.2; omega)] at this; exact this)
   have HBQ := lh j8
   clear HF j8 hm
   go_wp2
   go_ret
   exact ⟨rfl, HBQ.out⟩
theorem Jp2 (ng : Bool) (A7 A8 : Option Addr) (l7 d7 l8 d8 : Nat) (A1 A2 A3 : Option Addr) (n1 c1 n2 c2 n3 c3 B : Nat) (m : BM) (w : World) (h : RdB w B ⟨A1, n1, c1⟩ ⟨A2, n2, c2⟩ ⟨A3, n3, c3⟩ m) (hq : IsQ w B (.agg #[.bool ng, .slice A7 l7 d7, .slice A8 l8 d8]) m.smooth) (hB : B <= w.heap.size) (hL : LenB m) :
  Calls Tryz.prog 18 #[.agg #[.bool ng, .slice A7 l7 d7, .slice A8 l8 d8, .slice A1 n1 c1, .slice A2 n2 c2, .slice A3 n3 c3]] w (Ret (.int .i64 (Jk m)) w) := by
 have aA : m.words.length = n1 := h.words.len
 have aG : m.seen.length = n2 := h.seen.len
 have aH : m.counts.length = n3 := ReadsS.len h.counts
 have gG : n1 <= 1000 := by have := hL.words; omega
 have gH : n2 <= 1000 := by have := hL.seen; omega
 have dY : n3 <= 1000 := by have := hL.counts; omega
 obtain ⟨R, hR⟩ : ∃ R, Jk m = R := ⟨_, rfl⟩
 rw [hR]
 have HR := lh hR
 obtain ⟨sh, dZ⟩ : ∃ sh, Xi m = sh := ⟨_, rfl⟩
 have HSH := lh (fun w' (hb : Below w.heap.size w w') => Jpq ng A7 A8 l7 d7 l8 d8 A1 A2 A3 n1 c1 n2 c2 n3 c3 B m w' (h.below (hb.mono hB)) (nt hB hb.size) hL)
 rw [dZ] at HSH
 have cK := fun w' (hb : Below w.heap.size w w') => Jqv m.smooth B _ w' (hq.below (hb.mono hB)) (nt hB hb.size)
 have eQ : m.smooth.num.sign <= 0 ↔ m.smooth <= 0 := Joa m.smooth
 generalize m.smooth.num.sign = sg at *
 have HSG := lh cK
 have HQ := lh eQ
 have HS := lh dZ
 have H := lh h
 have HL := lh hL
 have HBB := lh hB
 have HW := lh (And.intro aA (And.intro aG aH))
 clear h hq hL hB hR dZ cK eQ aA aG aH
 obtain ⟨b0, hB, hZ⟩ := bx1 w 31 #[.bool ng, .slice A7 l7 d7, .slice A8 l8 d8, .slice A1 n1 c1, .slice A2 n2 c2, .slice A3 n3 c3]
 go_enter Tryz.func18, Tryz.ntmps18
 go_upto_region 1 with fail
 generalize (w.alloc (.cells #[.bool ng, .slice A7 l7 d7, .slice A8 l8 d8, .slice A1 n1 c1, .slice A2 n2 c2, .slice A3 n3 c3] 31)) = W at *
 have HBW := lh hB
 obtain ⟨x0, x1, x2, x3, x4, x5⟩ := b0.c6
 clear hB hZ
 go_wp2_with fail
 refine (HSH.out _ HBW.out).mono ?_
 rintro e w1 ⟨rfl, eA⟩
 have b0 := b0.below eA b0.lt
 have HB1 := lh (HBW.out.trans (eA.mono HBW.out.size))
 clear x0 x1 x2 x3 x4 x5 eA HBW HSH
 obtain ⟨x0, x1, x2, x3, x4, x5⟩ := b0.c6
 cases sh with
 | false =>
  obtain rfl : R = 5 := by rw [<- HR.out]; unfold Jk; rw [if_pos HS.out]
  go_wp2
  go_ret
  exact ⟨rfl, HB1.out⟩
 | true =>
  have eB := (Yf m).1 HS.out
  have HFT := lh eB.2.2
  obtain rfl : n3 = n2 := by have := eB.2.1; have := HW.out; omega
  clear eB
  go_wp2_with fail
  refine (HSG.out _ HB1.out).mono ?_
  rintro e w2 ⟨rfl, j9⟩
  have b0 := b0.below j9 b0.lt
  have HB2 := lh (HB1.out.trans (j9.mono HB1.out.size))
  clear x0 x1 x2 x3 x4 x5 j9 HB1 HSG
  obtain ⟨x0, x1, x2, x3, x4, x5⟩ := b0.c6
  by_cases cK : sg <= 0
  ·obtain rfl : R = 1 := by rw [<- HR.out]; exact Jdt HS.out (HQ.out.1 cK)
   go_wp2
   go_ret
   exact ⟨rfl, HB2.out⟩
  have HPOS : Hid (0 < m.smooth) := lh (Rat.not_le.1 fun h => cK (HQ.out.2 h))
  have HC := lh b0
  clear b0 x0 x1 x2 x3 x4 x5
  go_wp2_with fail
  go_loopw [3] (fun p wr => ∃ c : Nat, c <= n3 /\ p = .int .i64 (c : Int) /\ (∀ p ∈ (m.seen.zip m.counts).take c, Xu p.1 p.2 = true) /\ Blk wr w.heap.size 31 #[.bool ng, .slice A7 l7 d7, .slice A8 l8 d8, .slice A1 n1 c1, .slice A2 n3 c2, .slice A3 n3 c3] /\ Below w.heap.size w wr) (fun p _ => n3 - (intOf p).toNat)
  case atStart => exact ⟨0, by omega, rfl, by simp, HC.out, HB2.out⟩
  case round =>
   obtain ⟨c, hc, rfl, cL, b0, j8⟩ := hrel
   rename World => wr
   have HOK := lh cL
   have HBW := lh j8
   clear cL HC HB2
   obtain ⟨x0, x1, x2, x3, x4, x5⟩ := b0.c6
   by_cases cE : c < n3
   ·as_aux_lemma =>
    have k1 : (c : Int) < (n3 : Int) := by omega
    obtain ⟨ad, s, rfl, gM, hs, aI⟩ := H.out.seen.at_ (k := c) cE
    obtain ⟨t, ht⟩ : ∃ t, m.counts[c]? = some t := ⟨_, List.getElem?_eq_getElem (by have := HW.out.2.2; omega)⟩
    obtain ⟨ad2, A4, n4, c4, rfl, s9, aJ, hr⟩ := H.out.counts.at_ ht
    have aW := Qg (j8.mono HBB.out) aI gM
    have cF : t.length = n4 := ReadsS.len hr
    have eC := (Kt _ _).1 (HFT.out t (List.mem_of_getElem? ht))
    obtain rfl : n4 = n1 := by have := eC.1; have := HW.out.1; omega
    have HST := lh (And.intro hs ht)
    have HC2 := lh (And.intro (And.intro aI gM) (And.intro aJ s9))
    have HR4 := lh (And.intro hr (And.intro cF eC.2))
    clear hs ht aI aJ hr gM s9 cF eC j8
    by_cases s1 : s < 0
    ·obtain rfl : R = 1 := by rw [<- HR.out]; exact Yy HS.out HPOS.out HST.out.1 HST.out.2 (Jak (.inl s1))
     go_wp2
     go_ret
     exact ⟨rfl, HBW.out⟩
    by_cases s2 : 1073741824 < s
    ·obtain rfl : R = 1 := by rw [<- HR.out]; exact Yy HS.out HPOS.out HST.out.1 HST.out.2 (Jak (.inr s2))
     go_wp2
     go_ret
     exact ⟨rfl, HBW.out⟩
    go_wp2_with fail
    have HC := lh b0
    clear b0 x0 x1 x2 x3 x4 x5 aW
    go_loopw [4] (fun p wq => ∃ i : Nat, i <= n4 /\ p = .int .i64 (i : Int) /\ (∀ j0 ∈ t.take i, Kd s j0 = true) /\ Blk wq w.heap.size 31 #[.bool ng, .slice A7 l7 d7, .slice A8 l8 d8, .slice A1 n4 c1, .slice (some ad) n3 c2, .slice (some ad2) n3 c3] /\ Below w.heap.size w wq) (fun p _ => n4 - (intOf p).toNat)
    case atStart => exact ⟨0, by omega, rfl, by simp, HC.out, HBW.out⟩
    case round =>
     obtain ⟨i, hi, rfl, aX, b0, dM⟩ := hrel
     rename World => wq
     have HCL := lh aX
     have HBQ := lh dM
     have hm := dM.mono HBB.out
     clear aX HC HBW
     obtain ⟨x0, x1, x2, x3, x4, x5⟩ := b0.c6
     by_cases bY : i < n4
     ·as_aux_lemma =>
      have k2 : (i : Int) < (n4 : Int) := by omega
      obtain ⟨j0, j7⟩ : ∃ j0, t[i]? = some j0 := ⟨_, List.getElem?_eq_getElem (by have := HR4.out.2.1; omega)⟩
      obtain ⟨ad3, A5, n5, c5, rfl, bB, aK, eD⟩ := HR4.out.1.at_ j7
      obtain ⟨ad4, y, rfl, gU, hy, o9⟩ := H.out.words.at_ (k := i) bY
      have eR : j0.length = n5 := ReadsI.len eD
      obtain rfl : y = (n5 : Int) := by rw [<- HR4.out.2.2 i j0 y j7 hy, eR]
      have cI : n5 <= 1000 := by have := (HL.out.rows t (List.mem_of_getElem? HST.out.2)).2 j0 (List.mem_of_getElem? j7); omega
      have y1 := Qg hm o9 gU
      have y2 := Qg hm HC2.out.2.1 HC2.out.2.2
      have y3 := Qg hm aK bB
      have HR5 := lh eD
      have HCO := lh j7
      clear aK eD bB j7 hy gU o9 dM eR
      go_wp2_with fail
      go_loopw [5] (fun p wp => ∃ j : Nat, j <= n5 /\ p = .int .i64 (j : Int) /\ (∀ x ∈ j0.take j, 0 <= x /\ x <= 1073741824) /\ wq = wp) (fun p _ => n5 - (intOf p).toNat)
      case atStart => exact ⟨0, by omega, rfl, by simp, rfl⟩
      case round =>
       obtain ⟨j, hj, rfl, eS, rfl⟩ := hrel
       have HNM := lh eS
       clear eS
       by_cases fN : j < n5
       ·have k3 : (j : Int) < (n5 : Int) := by omega
        obtain ⟨ad6, x, rfl, gU, hx, o9⟩ := HR5.out.at_ fN
        have fO := Qg hm o9 gU
        have HX := lh hx
        clear o9 gU hx
        by_cases z1 : x < 0
        ·obtain rfl : R = 1 := by rw [<- HR.out]; exact Yy HS.out HPOS.out HST.out.1 HST.out.2 (Uu HCO.out (Jd8 HX.out (.inl z1)))
         clear hm
         go_wp2
         go_ret
         exact ⟨rfl, HBQ.out⟩
        by_cases z2 : 1073741824 < x
        ·obtain rfl : R = 1 := by rw [<- HR.out]; exact Yy HS.out HPOS.out HST.out.1 HST.out.2 (Uu HCO.out (Jd8 HX.out (.inr z2)))
         clear hm
         go_wp2
         go_ret
         exact ⟨rfl, HBQ.out⟩
        have HN := lh (Yv HX.out HNM.out (p := fun x => 0 <= x /\ x <= 1073741824) ⟨by omega, by omega⟩)
        clear HNM HX hm
        go_wp2
        exact ⟨⟨j + 1, by omega, by go_num, HN.out, trivial⟩, by simp [intOf]; omega⟩
       obtain rfl : j = n5 := by omega
       have k3 : ¬ (j : Int) < (j : Int) := by omega
       have HAL : Hid (∀ x ∈ j0, 0 <= x /\ x <= 1073741824) := lh (by have := HNM.out; rw [List.take_of_length_le (by rw [ReadsI.len HR5.out]; omega)] at this; exact this)
       have eE := fun n => Jp1 A5 j c5 B j0 (wq.drewN n) (Reads.drewN (rkindI.below HR5.out hm) n) cI (fun x hx => by have := HAL.out x hx; omega)
       obtain ⟨sm, eF⟩ : ∃ sm, j0.sum = sm := ⟨_, rfl⟩
       rw [eF] at eE
       have HTO := lh eE
       have HSM := lh eF
       have y4 := Qg hm HC2.out.1.1 HC2.out.1.2
       clear HNM eF eE hm
       go_upto_region 18 with fail
       go_quiet ((go_at_call 57; exact Jp4 (HTO.out _)))
       have b0 := b0.drewN nq
       have HBQ := lh (Jw HBQ.out nq)
       clear x0 x1 x2 x3 x4 x5 y1 y2 y3 y4 HTO
       generalize wq.drewN nq = wp at *
       by_cases fP : s < sm
       ·obtain rfl : R = 1 := by rw [<- HR.out]; exact Yy HS.out HPOS.out HST.out.1 HST.out.2 (Uu HCO.out (Jjr (by rw [HSM.out]; exact fP)))
        go_wp2
        go_ret
        exact ⟨rfl, HBQ.out⟩
       have HN := lh (Yv HCO.out HCL.out (p := fun j0 => Kd s j0 = true) (Jhw HAL.out (by rw [HSM.out]; omega)))
       have HC := lh b0
       clear HCL HAL b0
       go_wp2
       exact ⟨⟨i + 1, by omega, by go_num, HN.out, HC.out, HBQ.out⟩, by simp [intOf]; omega⟩
     obtain rfl : i = n4 := by omega
     have k2 : ¬ (i : Int) < (i : Int) := by omega
     have HN := lh (Yv (l := m.seen.zip m.counts) (k := c) (y := (s, t)) (p := fun p => Xu p.1 p.2 = true) (by rw [List.getElem?_zip_eq_some]; exact HST.out) HOK.out ((Xy _ _).2 ⟨by omega, by omega, by have := HCL.out; rw [List.take_of_length_le (by have := HR4.out.2.1; omega)] at this; exact this⟩))
     have HC := lh b0
     clear HCL HOK b0 dM hm
     go_wp2
     exact ⟨⟨c + 1, by omega, by go_num, HN.out, HC.out, HBQ.out⟩, by simp [intOf]; omega⟩
   obtain rfl : c = n3 := by omega
   have k1 : ¬ (c : Int) < (c : Int) := by omega
   obtain rfl : R = 0 := by rw [<- HR.out]; exact Jg6 HS.out HPOS.out (by have := HOK.out; rw [List.take_of_length_le (by have := HW.out; simp; omega)] at this; exact this)
   clear HOK j8 b0
   go_wp2
   go_ret
   exact ⟨rfl, HBW.out⟩
theorem Jo9 (ng : Bool) (A7 A8 : Option Addr) (l7 d7 l8 d8 : Nat) (A1 A2 A3 : Option Addr) (n1 c1 n2 c2 n3 c3 B : Nat) (m : BM) (A4 : Option Addr) (n4 c4 : Nat) (row : List Int) (w : World) (h : ReadsI w B A1 n1 m.words) (h4 : ReadsI w B A4 n4 row) (hB : B <= w.heap.size) (o0 : n4 <= 1000) :
  Calls Tryz.prog 68 #[.agg #[.bool ng, .slice A7 l7 d7, .slice A8 l8 d8, .slice A1 n1 c1, .slice A2 n2 c2, .slice A3 n3 c3], .slice A4 n4 c4] w (Ret (.int .i64 (Zz m row)) w) := by
 have aA : m.words.length = n1 := h.len
 have cN : row.length = n4 := h4.len
 obtain ⟨R, hR⟩ : ∃ R, Zz m row = R := ⟨_, rfl⟩
 rw [hR]
 have HRE := lh hR
 have H := lh h
 have H4 := lh h4
 have HBB := lh hB
 have HW := lh (And.intro aA cN)
 clear h h4 hB hR aA cN
 obtain ⟨b0, hB, hZ⟩ := bx1 w 31 #[.bool ng, .slice A7 l7 d7, .slice A8 l8 d8, .slice A1 n1 c1, .slice A2 n2 c2, .slice A3 n3 c3]
 go_enter Tryz.func68, Tryz.ntmps68
 go_upto_region 1 with fail
 generalize (w.alloc (.cells #[.bool ng, .slice A7 l7 d7, .slice A8 l8 d8, .slice A1 n1 c1, .slice A2 n2 c2, .slice A3 n3 c3] 31)) = W at *
 have HBW := lh hB
 obtain ⟨x0, x1, x2, x3, x4, x5⟩ := b0.c6
 clear hB hZ
 by_cases hn : n4 = n1
 case neg =>
  obtain rfl : R = 5 := by rw [<- HRE.out]; exact Jgg (by rw [HW.out.1, HW.out.2]; exact hn)
  have q3 : ((n4 : Int) != (n1 : Int)) = true := by simp; omega
  have q4 : ((n4 : Int) == (n1 : Int)) = false := by simp; omega
  have q5 : ¬ (n4 : Int) = (n1 : Int) := by omega
  go_wp2
  go_ret
  exact ⟨rfl, HBW.out⟩
 subst hn
 have q3 : ((n4 : Int) != (n4 : Int)) = false := by simp
 have q4 : ((n4 : Int) == (n4 : Int)) = true := by simp
 have HC := lh b0
 clear b0
 go_wp2_with fail
 clear x0 x1 x2 x3 x4 x5
 go_loopw [5] (fun p wr => ∃ k : Nat, k <= n4 /\ p = .int .i64 (k : Int) /\ (∀ p ∈ (row.zip m.words).take k, -1 <= p.1 /\ p.1 < p.2) /\ Blk wr w.heap.size 31 #[.bool ng, .slice A7 l7 d7, .slice A8 l8 d8, .slice A1 n4 c1, .slice A2 n2 c2, .slice A3 n3 c3] /\ Below w.heap.size w wr) (fun p _ => n4 - (intOf p).toNat)
 case atStart => exact ⟨0, by omega, rfl, by simp, HC.out, HBW.out⟩
 case round =>
  obtain ⟨k, hk, rfl, cL, b0, j8⟩ := hrel
  rename World => wr
  have HOK := lh cL
  have hm := j8.mono HBB.out
  clear cL HC HBW
  by_cases aV : k < n4
  ·have k1 : (k : Int) < (n4 : Int) := by omega
   obtain ⟨ad, x, rfl, gM, hx, hc⟩ := H4.out.at_ aV
   obtain ⟨ad2, y, rfl, s9, hy, aZ⟩ := H.out.at_ (k := k) aV
   have aW := Qg hm hc gM
   have bA := Qg hm aZ s9
   have HXY := lh (And.intro hx hy)
   have HBQ := lh j8
   obtain ⟨x0, x1, x2, x3, x4, x5⟩ := b0.c6
   clear hc aZ gM s9 hx hy hm j8
   by_cases x9 : x < -1
   ·obtain rfl : R = 1 := by rw [<- HRE.out]; exact Jbr (by rw [HW.out.1, HW.out.2]) HXY.out.1 HXY.out.2 (.inl x9)
    have f1 : decide (x < -1) = true := decide_eq_true x9
    go_upto_region 6 with fail
    go_quiet (fail)
    have HBQ := lh (Jw HBQ.out nq)
    clear x0 x1 x2 x3 x4 x5 aW bA b0
    generalize wr.drewN nq = we at *
    go_wp2
    go_ret
    exact ⟨rfl, HBQ.out⟩
   have f1 : decide (x < -1) = false := decide_eq_false x9
   go_upto_region 6 with fail
   go_quiet (fail)
   have b0 := b0.drewN nq
   have HBQ := lh (Jw HBQ.out nq)
   clear x0 x1 x2 x3 x4 x5 aW bA
   generalize wr.drewN nq = we at *
   by_cases x10 : y <= x
   ·obtain rfl : R = 1 := by rw [<- HRE.out]; exact Jbr (by rw [HW.out.1, HW.out.2]) HXY.out.1 HXY.out.2 (.inr x10)
    go_wp2
    go_ret
    exact ⟨rfl, HBQ.out⟩
   have HN := lh (Yv (l := row.zip m.words) (k := k) (y := (x, y)) (p := fun p => -1 <= p.1 /\ p.1 < p.2) (by rw [List.getElem?_zip_eq_some]; exact HXY.out) HOK.out ⟨by show -1 <= x; omega, by show x < y; omega⟩)
   have HC := lh b0
   clear HOK HXY b0
   go_wp2
   exact ⟨⟨k + 1, by omega, by go_num, HN.out, HC.out, HBQ.out⟩, by simp [intOf]; omega⟩
  obtain rfl : k = n4 := by omega
  have k1 : ¬ (k : Int) < (k : Int) := by omega
  obtain rfl : R = 0 := by rw [<- HRE.out]; exact Jez (by rw [HW.out.1, HW.out.2]) (by have := HOK.out; rw [List.take_of_length_le (by have := HW.out; simp; omega)] at this; exact this)
  have HBQ := lh j8
  clear HOK hm j8 b0
  go_wp2
  go_ret
  exact ⟨rfl, HBQ.out⟩
theorem Jpb (w : World) : Own (w.alloc (.cells #[] 3)) 3 zv (.slice (some ⟨w.heap.size, 0, none⟩) 0 0) [] := World.ownsRow_made (base := 0) (size := 1) (e := 3) w #[] 0 (Nat.zero_le _) (Nat.zero_le _) rfl
def Jos : Nat -> Nat
 | 3 => 1
 | 6 => 1
 | 7 => 2
 | 10 => 2
 | 12 => 3
 | _ => 0
structure InR (W : World) (q : Rat) (ws ss : List Int) (x0 x1 x4 x5 x8 x9 : Value) (d : Nat -> Bool) (val : Nat -> Value) (w : World) : Prop where
 bel : Below W.heap.size W w
 ap : Apart Jos W.heap.size w.heap.size d val
 v0 : d 0 = true -> val 0 = x0
 v1 : d 1 = true -> val 1 = x1
 v2 : d 2 = true -> val 2 = qV q
 v3 : d 3 = true -> (∃ g, val 3 = .slice (some ⟨g, 0, none⟩) 0 0) /\ (d 6 = false -> Own w 3 zv (val 3) [])
 v4 : d 4 = true -> val 4 = x4
 v5 : d 5 = true -> val 5 = x5
 v6 : d 6 = true -> d 3 = true /\ Own w 3 zv (val 6) ws
 v7 : d 7 = true -> (∃ g, val 7 = .slice (some ⟨g, 0, none⟩) 0 0) /\ (d 10 = false -> Own w 3 zv (val 7) [])
 v8 : d 8 = true -> val 8 = x8
 v9 : d 9 = true -> val 9 = x9
 v10 : d 10 = true -> d 7 = true /\ Own w 3 zv (val 10) ss
 v11 : d 11 = true -> d 6 = true /\ d 10 = true /\ val 11 = .agg #[.bool (decide (q.num < 0)), .int .u64 (lo q.num.natAbs : Int), .string (mo q.num.natAbs), .int .u64 (lo ((qden q)) : Int), .string (mo ((qden q))), val 6, val 10, .slice none 0 0]
 v12 : d 12 = true -> ∃ g y0 y1 y2 y3 y4 y5 y6 y7, val 12 = .pointer (some ⟨g, 0, none⟩) /\ Blk w g 43 #[y0, y1, y2, y3, y4, y5, y6, y7] /\ (d 13 = true -> d 11 = true /\ val 11 = .agg #[y0, y1, y2, y3, y4, y5, y6, y7])
 v13 : d 13 = true -> d 12 = true
theorem InR.next {W w w' : World} {q : Rat} {ws ss : List Int} {x0 x1 x4 x5 x8 x9 : Value} {d : Nat -> Bool} {val : Nat -> Value} (h : InR W q ws ss x0 x1 x4 x5 x8 x9 d val w) (hb : Below w.heap.size w w') : InR W q ws ss x0 x1 x4 x5 x8 x9 d val w' where
 bel := h.bel.trans (hb.mono h.bel.size)
 ap := h.ap.hi hb.size
 v0 := h.v0
 v1 := h.v1
 v2 := h.v2
 v3 := fun h1 => ⟨(h.v3 h1).1, fun h2 => ((h.v3 h1).2 h2).below hb ((h.v3 h1).2 h2).lt⟩
 v4 := h.v4
 v5 := h.v5
 v6 := fun h1 => ⟨(h.v6 h1).1, (h.v6 h1).2.below hb (h.v6 h1).2.lt⟩
 v7 := fun h1 => ⟨(h.v7 h1).1, fun h2 => ((h.v7 h1).2 h2).below hb ((h.v7 h1).2 h2).lt⟩
 v8 := h.v8
 v9 := h.v9
 v10 := fun h1 => ⟨(h.v10 h1).1, (h.v10 h1).2.below hb (h.v10 h1).2.lt⟩
 v11 := h.v11
 v12 := fun h1 => by
  obtain ⟨g, y0, y1, y2, y3, y4, y5, y6, y7, e, hk, h2⟩ := h.v12 h1
  exact ⟨g, y0, y1, y2, y3, y4, y5, y6, y7, e, hk.below hb hk.lt, h2⟩
 v13 := h.v13
def ModG (L : Nat) (m : BM) (v : Value) (w : World) : Prop := ∃ (W S C : SW) (F G H : Nat -> Prop), v = .agg #[.bool (decide (m.smooth.num < 0)), .int .u64 (lo m.smooth.num.natAbs : Int), .string (mo m.smooth.num.natAbs), .int .u64 (lo ((qden m.smooth)) : Int), .string (mo ((qden m.smooth))), W.v, S.v, C.v] /\ OwB 3 22 65 L w W S C F G H m
theorem Jpf {w2 w3 : World} {j0 : List Int} {v' : Value} (ho : Own w3 3 zv v' ([] ++ j0)) (hg : Grew (w2.alloc (.cells #[] 3)) w3 (.slice (some ⟨w2.heap.size, 0, none⟩) 0 0) v') :
  ∃ A c, v' = .slice A j0.length c /\ Own w3 3 zv v' j0 /\ (∀ b, v'.ownBlock = some b -> w2.heap.size <= b) /\ Below w2.heap.size w2 w3 := by
 rw [List.nil_append] at ho
 obtain ⟨A, c, e, -⟩ := ho.form
 have h1 : ∀ k, (Value.slice (some ⟨w2.heap.size, 0, none⟩) 0 0).ownBlock = some k -> w2.heap.size <= k := fun k hk => by
  have e : w2.heap.size = k := Option.some.inj hk
  omega
 have h2 : w2.heap.size <= (w2.alloc (.cells #[] 3)).heap.size := (Jb w2 _).size
 exact ⟨A, c, e, ho, hg.fresh h2 h1, (Jb w2 _).trans (hg.below h2 h1)⟩
def InP (L : Nat) (w : World) (g : Nat) (m : BM) : Prop := ∃ (W S C : SW) (F G H : Nat -> Prop), Blk w g 43 #[.bool (decide (m.smooth.num < 0)), .int .u64 (lo m.smooth.num.natAbs : Int), .string (mo m.smooth.num.natAbs), .int .u64 (lo ((qden m.smooth)) : Int), .string (mo ((qden m.smooth))), W.v, S.v, C.v] /\ OwB 3 22 65 L w W S C F G H m /\ (¬ F g /\ ¬ G g /\ ¬ H g) /\ L <= g
theorem InP.grow {L L2 g : Nat} {w2 w4 : World} {q : Rat} {ws ss : List Int} {cs : List (List (List Int))} {t : List (List Int)} {AW AS AC A4 : Option Addr} {nW cW nS cS nC cC n4 c4 : Nat} {F G H S2 S4 : Nat -> Prop} (bk : Blk w2 g 43 #[.bool (decide (q.num < 0)), .int .u64 (lo q.num.natAbs : Int), .string (mo q.num.natAbs), .int .u64 (lo ((qden q)) : Int), .string (mo ((qden q))), .slice AW nW cW, .slice AS nS cS, .slice AC nC cC])
  (ho : OwB 3 22 65 L w2 ⟨AW, nW, cW⟩ ⟨AS, nS, cS⟩ ⟨AC, nC, cC⟩ F G H ⟨q, ws, ss, cs⟩) (hg : ¬ F g /\ ¬ G g /\ ¬ H g) (bZ : L <= g) (j6 : Grew w2 w4 (.slice AC nC cC) (.slice A4 n4 c4)) (hn : Nest 65 (Nest 22 (NRow 3 zv)) w4 S4 (.slice A4 n4 c4) (cs ++ [t]))
  (p9 : ∀ x, S4 x -> H x \/ S2 x \/ w2.heap.size <= x) (gQ : ∀ x, S2 x -> L2 <= x) (hF : ∀ x, F x -> x < L2) (hG : ∀ x, G x -> x < L2) (bL : g < L2) (fQ : L <= L2) : InP L (w4.setCell ⟨g, 7, none⟩ (.slice A4 n4 c4)) g ⟨q, ws, ss, cs ++ [t]⟩ := by
 have gO : ∀ x, (Value.slice AC nC cC).ownBlock = some x -> H x := by obtain ⟨rl, F1, q1, q2, q3, q4, q5, q6, q7⟩ := ho.counts; exact q6
 obtain ⟨o1, o2, o3⟩ := ho.old
 have bk4 : Blk w4 g 43 #[.bool (decide (q.num < 0)), .int .u64 (lo q.num.natAbs : Int), .string (mo q.num.natAbs), .int .u64 (lo ((qden q)) : Int), .string (mo ((qden q))), .slice AW nW cW, .slice AS nS cS, .slice AC nC cC] := (j6.block g bk.lt fun e => hg.2.2 (gO g e.symm)).trans bk
 have hx : Exc g w4 (w4.setCell ⟨g, 7, none⟩ (.slice A4 n4 c4)) := (Exc.refl g w4).set_ 7 _
 have dN := Js 3 zv
 have k4 : ∀ x, S4 x -> L <= x /\ ¬ F x /\ ¬ G x /\ x ≠ g := fun x hx => by
  rcases p9 x hx with h | h | h
  ·exact ⟨ho.from3 x h, fun e => ho.ap13 x e h, fun e => ho.ap23 x e h, fun e => hg.2.2 (by rw [<- e]; exact h)⟩
  ·have := gQ x h
   exact ⟨by omega, fun e => by have := hF x e; omega, fun e => by have := hG x e; omega, by omega⟩
  have := bk.lt
  exact ⟨by omega, fun e => by have := o1 x e; omega, fun e => by have := o2 x e; omega, by omega⟩
 have loc1 : ∀ x, F x -> (w4.setCell ⟨g, 7, none⟩ (.slice A4 n4 c4)).heap[x]? = w2.heap[x]? := fun x aB => (hx.block x (Nat.lt_of_lt_of_le (o1 x aB) j6.size) fun e => hg.1 (by rw [<- e]; exact aB)).trans (j6.block x (o1 x aB) fun e => ho.ap13 x aB (gO x e.symm))
 have loc2 : ∀ x, G x -> (w4.setCell ⟨g, 7, none⟩ (.slice A4 n4 c4)).heap[x]? = w2.heap[x]? := fun x aB => (hx.block x (Nat.lt_of_lt_of_le (o2 x aB) j6.size) fun e => hg.2.1 (by rw [<- e]; exact aB)).trans (j6.block x (o2 x aB) fun e => ho.ap23 x aB (gO x e.symm))
 refine ⟨⟨AW, nW, cW⟩, ⟨AS, nS, cS⟩, ⟨A4, n4, c4⟩, F, G, S4, (by have h := bk4.set_ 7 (.slice A4 n4 c4); simp only [SW.v]; simpa using h), ⟨dN.loc ho.words (nt j6.size hx.size) loc1, dN.loc ho.seen (nt j6.size hx.size) loc2, hn.loc (Xt dN _) hx.size fun x h => hx.block x (hn.lt (Xt dN _) h) (k4 x h).2.2.2, ho.from1, ho.from2, fun x h => (k4 x h).1, ho.ap12, fun x h h' => (k4 x h').2.1 h, fun x h h' => (k4 x h').2.2.1 h⟩, ⟨hg.1, hg.2.1, fun h => (k4 g h).2.2.2 rfl⟩, bZ⟩
theorem InR.end_ {W w : World} {q : Rat} {ws ss : List Int} {x0 x1 x4 x5 x8 x9 : Value} {d : Nat -> Bool} {val : Nat -> Value} (hF : InR W q ws ss x0 x1 x4 x5 x8 x9 d val w) (hd : ∀ i, i < 14 -> d i = true) : ∃ g, val 12 = .pointer (some ⟨g, 0, none⟩) /\ InP W.heap.size w g ⟨q, ws, ss, []⟩ /\ Below W.heap.size W w := by
 obtain ⟨-, o6⟩ := hF.v6 (hd 6 (by decide))
 obtain ⟨-, o10⟩ := hF.v10 (hd 10 (by decide))
 obtain ⟨-, -, e11⟩ := hF.v11 (hd 11 (by decide))
 obtain ⟨g, y0, y1, y2, y3, y4, y5, y6, y7, e12, hk, fR⟩ := hF.v12 (hd 12 (by decide))
 have e13 := e11.symm.trans (fR (hd 13 (by decide))).2
 injection e13 with e13
 rw [<- e13] at hk
 obtain ⟨A, c, e6, -⟩ := o6.form
 obtain ⟨A', c', e10, -⟩ := o10.form
 have eT := hF.ap
 have b6 : Jom (val 6) = (val 6).ownBlock := by rw [e6]; rfl
 have b10 : Jom (val 10) = (val 10).ownBlock := by rw [e10]; rfl
 have b12 : Jom (val 12) = some g := by rw [e12]; rfl
 have gM := fun i b (h : i < 14) (h0 : Jos i ≠ 0) (hb : Jom (val i) = some b) => eT.lt i b (hd i h) h0 hb
 have gV := fun i j b (h : i < 14) (h' : j < 14) (h0 : Jos i ≠ 0) (fS : Jos j ≠ 0) (h1 : Jos i ≠ Jos j) (hb : Jom (val i) = some b) => eT.ap i j b (hd i h) (hd j h') h0 fS h1 hb
 refine ⟨g, e12, ⟨⟨A, ws.length, c⟩, ⟨A', ss.length, c'⟩, ⟨none, 0, 0⟩, fun k => (val 6).ownBlock = some k, fun k => (val 10).ownBlock = some k, fun _ => False, ?_, ⟨?_, ?_, Nest.nil _ _ _, ?_, ?_, fun _ h => h.elim, ?_, fun _ _ h => h, fun _ _ h => h⟩, ⟨fun h => ?_, fun h => ?_, fun h => h⟩, (gM 12 g (by decide) (by decide) b12).1⟩, hF.bel⟩
 ·rw [e6, e10] at hk
  exact hk
 ·show NRow _ _ _ _ (.slice A ws.length c) _
  rw [<- e6]
  exact NRow.of o6
 ·show NRow _ _ _ _ (.slice A' ss.length c') _
  rw [<- e10]
  exact NRow.of o10
 ·exact fun k hk => (gM 6 k (by decide) (by decide) (b6.trans hk)).1
 ·exact fun k hk => (gM 10 k (by decide) (by decide) (b10.trans hk)).1
 ·exact fun k hk fT => gV 6 10 k (by decide) (by decide) (by decide) (by decide) (by decide) (b6.trans hk) (b10.trans fT)
 ·exact gV 12 6 g (by decide) (by decide) (by decide) (by decide) (by decide) b12 (b6.trans h)
 exact gV 12 10 g (by decide) (by decide) (by decide) (by decide) (by decide) b12 (b10.trans h)
theorem Jqw (ng : Bool) (A7 A8 : Option Addr) (l7 d7 l8 d8 : Nat) (A1 A2 A3 : Option Addr) (n1 c1 n2 c2 n3 c3 B : Nat) (m : BM) (w : World) (h : RdB w B ⟨A1, n1, c1⟩ ⟨A2, n2, c2⟩ ⟨A3, n3, c3⟩ m) (hq : IsQ w B (.agg #[.bool ng, .slice A7 l7 d7, .slice A8 l8 d8]) m.smooth) (hB : B <= w.heap.size) (hL : LenB m) (hs : QS 549755813888 m.smooth) (hT : Tab w) :
  Calls Tryz.prog 21 #[.agg #[.bool ng, .slice A7 l7 d7, .slice A8 l8 d8, .slice A1 n1 c1, .slice A2 n2 c2, .slice A3 n3 c3]] w fun e w' => ∃ v, e = .returned v /\ ModG w.heap.size m v w' /\ Below w.heap.size w w' := by
 have aA : m.words.length = n1 := h.words.len
 have aG : m.seen.length = n2 := h.seen.len
 have aH : m.counts.length = n3 := ReadsS.len h.counts
 have fU : n1 <= 1000 := by have := hL.words; omega
 have eU : n2 <= 1000 := by have := hL.seen; omega
 have eV : n3 <= 1000 := by have := hL.counts; omega
 obtain ⟨b0, b1, hB, hZ⟩ := bx2 w 31 #[.bool ng, .slice A7 l7 d7, .slice A8 l8 d8, .slice A1 n1 c1, .slice A2 n2 c2, .slice A3 n3 c3] 43 #[.bool false, .int .u64 0, .string ⟨#[]⟩, .int .u64 0, .string ⟨#[]⟩, .slice none 0 0, .slice none 0 0, .slice none 0 0]
 go_enter Tryz.func21, Tryz.ntmps21
 go_upto_region 1 with fail
 generalize ((w.alloc (.cells #[.bool ng, .slice A7 l7 d7, .slice A8 l8 d8, .slice A1 n1 c1, .slice A2 n2 c2, .slice A3 n3 c3] 31)).alloc (.cells #[.bool false, .int .u64 0, .string ⟨#[]⟩, .int .u64 0, .string ⟨#[]⟩, .slice none 0 0, .slice none 0 0, .slice none 0 0] 43)) = W at *
 rename B <= w.heap.size => hBB
 have HIN := lh (fun w' (hb : Below w.heap.size w w') (fV : Tab w') => Jq2 m.smooth B (.agg #[.bool ng, .slice A7 l7 d7, .slice A8 l8 d8]) w' (hq.below (hb.mono hBB)) (nt hBB hb.size) hs fV)
 have HT := lh hT
 have H := lh h
 have HL := lh hL
 have HW := lh (And.intro aA (And.intro aG aH))
 have HBW := lh hB
 have HBB := lh hBB
 have HZ := lh hZ.out
 have B0 := lh b0
 have B1 := lh b1
 have bC := b0.lt
 clear h hq hL hs hT aA aG aH hB hBB hZ b0 b1
 go_cut [3] (fun v wc => ∃ g, v = .pointer (some ⟨g, 0, none⟩) /\ InP W.heap.size wc g ⟨m.smooth, m.words, m.seen, []⟩ /\ Below W.heap.size W wc)
 case first =>
  refine Je0 (InR W m.smooth m.words m.seen (.pointer (some ⟨w.heap.size, 0, none⟩)) (.agg #[.bool ng, .slice A7 l7 d7, .slice A8 l8 d8]) (.pointer (some ⟨w.heap.size, 3, none⟩)) (.slice A1 n1 c1) (.pointer (some ⟨w.heap.size, 4, none⟩)) (.slice A2 n2 c2)) (by kernel_rfl) (by kernel_rfl) (by kernel_rfl) ?_ ?_ [some 7, some 8, some 9, some 10, some 11, some 12, some 13, some 14, some 15, some 16, some 17, some 18, some 3, none] rfl ?_
  ·constructor <;> first | exact Jt _ | exact Apart.start _ _ _ _ | (intro h; cases h)
  ·refine ⟨⟨⟨⟨⟨⟨⟨⟨⟨⟨⟨⟨⟨⟨trivial, ?_⟩, ?_⟩, ?_⟩, ?_⟩, ?_⟩, ?_⟩, ?_⟩, ?_⟩, ?_⟩, ?_⟩, ?_⟩, ?_⟩, ?_⟩, ?_⟩ <;> intro d val a' w' hS hF hd hp
   ·have e8 : a'.tmps[1]?.getD undef = .pointer (some ⟨w.heap.size, 0, none⟩) := hS.arg 1
    refine Xa _ rfl rfl ?_ (show InR _ _ _ _ _ _ _ _ _ _ _ _ _ from { hF with ap := hF.ap.pure hF.bel.size rfl, v0 := fun _ => rfl })
    clear hF hS hd hp
    go_simp
   ·have e1 := hS.res 0 7 (hp 0)
    rw [hF.v0 (hp 0)] at e1
    have b0' := B0.out.below hF.bel bC
    obtain ⟨y0, y1, y2, y3, y4, y5⟩ := b0'.c6
    refine Xa _ rfl rfl ?_ (show InR _ _ _ _ _ _ _ _ _ _ _ _ _ from { hF with ap := hF.ap.pure hF.bel.size rfl, v1 := fun _ => rfl })
    clear hF hS hd hp
    go_simp
   ·have e1 := hS.res 1 8 (hp 1)
    rw [hF.v1 (hp 1)] at e1
    refine Jjm (Ψ := fun v w'' => InR W _ _ _ _ _ _ _ _ _ (upI d 2) (Jf3 val 2 v) w'') _ rfl rfl (args := #[.agg #[.bool ng, .slice A7 l7 d7, .slice A8 l8 d8]]) (w2 := w') (f := 16) ?_ ?_
    ·clear hF hS hd hp
     go_simp
    have j8 := HBW.out.trans (hF.bel.mono HBW.out.size)
    refine (HIN.out w' j8 (HT.out.next j8)).mono ?_
    rintro e w2 ⟨rfl, j9⟩
    have hG := hF.next j9
    exact ⟨_, rfl, { hG with ap := hG.ap.pure hG.bel.size rfl, v2 := fun _ => rfl }⟩
   ·have hG := hF.next (Jb w' (.cells #[] 3))
    refine Xa (v := .slice (some ⟨w'.heap.size, 0, none⟩) 0 0) (w2 := w'.alloc (.cells #[] 3)) _ rfl rfl ?_ (show InR _ _ _ _ _ _ _ _ _ _ _ _ _ from { hG with ap := hF.ap.step (Jb w' _).size hF.bel.size fun _ b hb => .inl (by have hb : some w'.heap.size = some b := hb; have hb := Option.some.inj hb; rw [World.size_alloc]; omega), v3 := fun _ => ⟨⟨_, rfl⟩, fun _ => Jpb w'⟩, v6 := fun h => ⟨rfl, (hG.v6 h).2⟩ })
    clear hG hF hS hd hp
    go_simp
   ·have e8 : a'.tmps[1]?.getD undef = .pointer (some ⟨w.heap.size, 0, none⟩) := hS.arg 1
    refine Xa _ rfl rfl ?_ (show InR _ _ _ _ _ _ _ _ _ _ _ _ _ from { hF with ap := hF.ap.pure hF.bel.size rfl, v4 := fun _ => rfl })
    clear hF hS hd hp
    go_simp
   ·have e1 := hS.res 4 11 (hp 4)
    rw [hF.v4 (hp 4)] at e1
    have b0' := B0.out.below hF.bel bC
    obtain ⟨y0, y1, y2, y3, y4, y5⟩ := b0'.c6
    refine Xa _ rfl rfl ?_ (show InR _ _ _ _ _ _ _ _ _ _ _ _ _ from { hF with ap := hF.ap.pure hF.bel.size rfl, v5 := fun _ => rfl })
    clear hF hS hd hp
    go_simp
   ·have h3 := hp 3
    obtain ⟨⟨g3, e3⟩, o3⟩ := hF.v3 h3
    have o3 := o3 hd
    have j8 := HBW.out.trans (hF.bel.mono HBW.out.size)
    have hr := rkindI.below H.out.words (j8.mono HBB.out)
    have e5 := (hS.got 5 12 (hp 5) rfl (Nat.le_of_ble_eq_true (by kernel_rfl)))
    rw [hF.v5 (hp 5)] at e5
    refine Joy Tryz.eltZ1 _ rfl rfl (.tmp 10) (.tmp 12) rfl w' (val 3) [] B A1 n1 c1 m.words (hS.got 3 10 h3 rfl (Nat.le_of_ble_eq_true (by kernel_rfl))) o3 e5 hr (fun _ => rfl) (by unfold maxLen; simp; omega) (by simp; omega) ?_
    intro v' w1 ho j6
    rw [List.nil_append] at ho
    obtain ⟨A', c', ev, -⟩ := ho.form
    have b3 : Jom (val 3) = (val 3).ownBlock := by rw [e3]; rfl
    have bv : Jom v' = v'.ownBlock := by rw [ev]; rfl
    have keep : ∀ k b, d k = true -> Jos k ≠ 0 -> Jos k ≠ Jos 3 -> Jom (val k) = some b -> w1.heap[b]? = w'.heap[b]? := fun k b h1 h2 cO h4 => j6.block b (hF.ap.lt k b h1 h2 h4).2 fun e => hF.ap.ap k 3 b h1 h3 h2 (by decide) cO h4 (b3.trans e.symm)
    refine (show InR _ _ _ _ _ _ _ _ _ _ _ _ _ from { hF with bel := hF.bel.trans (j6.below hF.bel.size fun k hk => (hF.ap.lt 3 k h3 (by decide) (b3.trans hk)).1), ap := hF.ap.step j6.size hF.bel.size fun _ b hb => (j6.own b (bv.symm.trans hb)).elim (fun h => .inr ⟨3, h3, rfl, b3.trans h⟩) fun h => .inl ⟨h, ho.lt b (bv.symm.trans hb)⟩, v3 := fun h => ⟨(hF.v3 h).1, fun h6 => Bool.noConfusion (show true = false from h6)⟩, v6 := fun _ => ⟨h3, ho⟩, v7 := fun h => ⟨(hF.v7 h).1, fun aL => ((hF.v7 h).2 aL).loc fun k hk => keep 7 k h (by decide) (by decide) ?_⟩, v10 := fun h => ⟨(hF.v10 h).1, (hF.v10 h).2.loc fun k hk => keep 10 k h (by decide) (by decide) ?_⟩, v11 := fun h => absurd (hF.v11 h).1 (by rw [hd]; decide), v12 := fun h => ?_ })
    ·obtain ⟨⟨g', e'⟩, -⟩ := hF.v7 h
     rw [e'] at hk ⊢
     exact hk
    ·obtain ⟨A', c', e', -⟩ := (hF.v10 h).2.form
     rw [e'] at hk ⊢
     exact hk
    obtain ⟨g, y0, y1, y2, y3, y4, y5, y6, y7, e, hk, h2⟩ := hF.v12 h
    exact ⟨g, y0, y1, y2, y3, y4, y5, y6, y7, e, (keep 12 g h (by decide) (by decide) (by rw [e]; rfl)).trans hk, fun h' => absurd (hF.v11 (h2 h').1).1 (by rw [hd]; decide)⟩
   ·have hG := hF.next (Jb w' (.cells #[] 3))
    refine Xa (v := .slice (some ⟨w'.heap.size, 0, none⟩) 0 0) (w2 := w'.alloc (.cells #[] 3)) _ rfl rfl ?_ (show InR _ _ _ _ _ _ _ _ _ _ _ _ _ from { hG with ap := hF.ap.step (Jb w' _).size hF.bel.size fun _ b hb => .inl (by have hb : some w'.heap.size = some b := hb; have hb := Option.some.inj hb; rw [World.size_alloc]; omega), v7 := fun _ => ⟨⟨_, rfl⟩, fun _ => Jpb w'⟩, v10 := fun h => ⟨rfl, (hG.v10 h).2⟩ })
    clear hG hF hS hd hp
    go_simp
   ·have e8 : a'.tmps[1]?.getD undef = .pointer (some ⟨w.heap.size, 0, none⟩) := hS.arg 1
    refine Xa _ rfl rfl ?_ (show InR _ _ _ _ _ _ _ _ _ _ _ _ _ from { hF with ap := hF.ap.pure hF.bel.size rfl, v8 := fun _ => rfl })
    clear hF hS hd hp
    go_simp
   ·have e1 := hS.res 8 15 (hp 8)
    rw [hF.v8 (hp 8)] at e1
    have b0' := B0.out.below hF.bel bC
    obtain ⟨y0, y1, y2, y3, y4, y5⟩ := b0'.c6
    refine Xa _ rfl rfl ?_ (show InR _ _ _ _ _ _ _ _ _ _ _ _ _ from { hF with ap := hF.ap.pure hF.bel.size rfl, v9 := fun _ => rfl })
    clear hF hS hd hp
    go_simp
   ·have h3 := hp 7
    obtain ⟨⟨g3, e3⟩, o3⟩ := hF.v7 h3
    have o3 := o3 hd
    have j8 := HBW.out.trans (hF.bel.mono HBW.out.size)
    have hr := rkindI.below H.out.seen (j8.mono HBB.out)
    have e5 := (hS.got 9 16 (hp 9) rfl (Nat.le_of_ble_eq_true (by kernel_rfl)))
    rw [hF.v9 (hp 9)] at e5
    refine Joy Tryz.eltZ1 _ rfl rfl (.tmp 14) (.tmp 16) rfl w' (val 7) [] B A2 n2 c2 m.seen (hS.got 7 14 h3 rfl (Nat.le_of_ble_eq_true (by kernel_rfl))) o3 e5 hr (fun _ => rfl) (by unfold maxLen; simp; omega) (by simp; omega) ?_
    intro v' w1 ho j6
    rw [List.nil_append] at ho
    obtain ⟨A', c', ev, -⟩ := ho.form
    have b3 : Jom (val 7) = (val 7).ownBlock := by rw [e3]; rfl
    have bv : Jom v' = v'.ownBlock := by rw [ev]; rfl
    have keep : ∀ k b, d k = true -> Jos k ≠ 0 -> Jos k ≠ Jos 7 -> Jom (val k) = some b -> w1.heap[b]? = w'.heap[b]? := fun k b h1 h2 cO h4 => j6.block b (hF.ap.lt k b h1 h2 h4).2 fun e => hF.ap.ap k 7 b h1 h3 h2 (by decide) cO h4 (b3.trans e.symm)
    refine (show InR _ _ _ _ _ _ _ _ _ _ _ _ _ from { hF with bel := hF.bel.trans (j6.below hF.bel.size fun k hk => (hF.ap.lt 7 k h3 (by decide) (b3.trans hk)).1), ap := hF.ap.step j6.size hF.bel.size fun _ b hb => (j6.own b (bv.symm.trans hb)).elim (fun h => .inr ⟨7, h3, rfl, b3.trans h⟩) fun h => .inl ⟨h, ho.lt b (bv.symm.trans hb)⟩, v3 := fun h => ⟨(hF.v3 h).1, fun aL => ((hF.v3 h).2 aL).loc fun k hk => keep 3 k h (by decide) (by decide) ?_⟩, v6 := fun h => ⟨(hF.v6 h).1, (hF.v6 h).2.loc fun k hk => keep 6 k h (by decide) (by decide) ?_⟩, v7 := fun h => ⟨(hF.v7 h).1, fun h6 => Bool.noConfusion (show true = false from h6)⟩, v10 := fun _ => ⟨h3, ho⟩, v11 := fun h => absurd (hF.v11 h).2.1 (by rw [hd]; decide), v12 := fun h => ?_ })
    ·obtain ⟨⟨g', e'⟩, -⟩ := hF.v3 h
     rw [e'] at hk ⊢
     exact hk
    ·obtain ⟨A', c', e', -⟩ := (hF.v6 h).2.form
     rw [e'] at hk ⊢
     exact hk
    obtain ⟨g, y0, y1, y2, y3, y4, y5, y6, y7, e, hk, h2⟩ := hF.v12 h
    exact ⟨g, y0, y1, y2, y3, y4, y5, y6, y7, e, (keep 12 g h (by decide) (by decide) (by rw [e]; rfl)).trans hk, fun h' => absurd (hF.v11 (h2 h').1).2.1 (by rw [hd]; decide)⟩
   ·have e1 := hS.res 2 9 (hp 2)
    have e2 := hS.res 6 13 (hp 6)
    have e3 := hS.res 10 17 (hp 10)
    rw [hF.v2 (hp 2)] at e1
    have h6 := hp 6
    have aL := hp 10
    obtain ⟨A, c, e6, -⟩ := (hF.v6 h6).2.form
    obtain ⟨A', c', e10, -⟩ := (hF.v10 aL).2.form
    rw [e6] at e2
    rw [e10] at e3
    unfold qV at e1
    refine Xa (v := .agg #[.bool (decide (m.smooth.num < 0)), .int .u64 (lo m.smooth.num.natAbs : Int), .string (mo m.smooth.num.natAbs), .int .u64 (lo ((qden m.smooth)) : Int), .string (mo ((qden m.smooth))), .slice A m.words.length c, .slice A' m.seen.length c', .slice none 0 0]) _ rfl rfl ?_ (show InR _ _ _ _ _ _ _ _ _ _ _ _ _ from { hF with ap := hF.ap.pure hF.bel.size rfl, v11 := fun _ => ⟨h6, aL, by show _ = Value.agg #[.bool (decide (m.smooth.num < 0)), .int .u64 (lo m.smooth.num.natAbs : Int), .string (mo m.smooth.num.natAbs), .int .u64 (lo ((qden m.smooth)) : Int), .string (mo ((qden m.smooth))), val 6, val 10, .slice none 0 0]; rw [e6, e10]; rfl⟩, v12 := fun h => ?_ })
    ·clear hF hS hd hp
     go_simp
    obtain ⟨g, y0, y1, y2, y3, y4, y5, y6, y7, e, hk, h2⟩ := hF.v12 h
    exact ⟨g, y0, y1, y2, y3, y4, y5, y6, y7, e, hk, fun h' => absurd (h2 h').1 (by rw [hd]; decide)⟩
   ·have hG := hF.next (Jb w' (.cells #[.bool false, .int .u64 0, .string ⟨#[]⟩, .int .u64 0, .string ⟨#[]⟩, .slice none 0 0, .slice none 0 0, .slice none 0 0] 43))
    refine Xa (v := .pointer (some ⟨w'.heap.size, 0, none⟩)) (w2 := w'.alloc (.cells #[.bool false, .int .u64 0, .string ⟨#[]⟩, .int .u64 0, .string ⟨#[]⟩, .slice none 0 0, .slice none 0 0, .slice none 0 0] 43)) _ rfl rfl ?_ (show InR _ _ _ _ _ _ _ _ _ _ _ _ _ from { hG with ap := hF.ap.step (Jb w' _).size hF.bel.size fun _ b hb => .inl (by have hb : some w'.heap.size = some b := hb; have hb := Option.some.inj hb; rw [World.size_alloc]; omega), v12 := fun _ => ⟨_, _, _, _, _, _, _, _, _, rfl, Blk.new _ _ _, fun h => absurd (hF.v13 h) (by rw [hd]; decide)⟩, v13 := fun _ => rfl })
    clear hG hF hS hd hp
    go_simp
   ·have aM := hp 12
    have bM := hp 11
    obtain ⟨g, z0, z1, z2, z3, z4, z5, z6, z7, e12, hk, -⟩ := hF.v12 aM
    obtain ⟨h6, aL, e11⟩ := hF.v11 bM
    obtain ⟨A, c, e6, -⟩ := (hF.v6 h6).2.form
    obtain ⟨A', c', e10, -⟩ := (hF.v10 aL).2.form
    have e11' := e11
    rw [e6, e10] at e11'
    have b12 : Jom (val 12) = some g := by rw [e12]; rfl
    have hg := (hF.ap.lt 12 g aM (by decide) b12).1
    have nob : ∀ k, d k = true -> Jos k ≠ 0 -> Jos k ≠ 3 -> Jom (val k) ≠ some g := fun k h1 h2 h3 h4 => hF.ap.ap k 12 g h1 aM h2 (by decide) h3 h4 b12
    refine Jde _ rfl rfl _ _ _ rfl rfl g #[.bool (decide (m.smooth.num < 0)), .int .u64 (lo m.smooth.num.natAbs : Int), .string (mo m.smooth.num.natAbs), .int .u64 (lo ((qden m.smooth)) : Int), .string (mo ((qden m.smooth))), .slice A m.words.length c, .slice A' m.seen.length c', .slice none 0 0] _ ((hS.got 12 3 aM rfl (Nat.le_of_ble_eq_true (by kernel_rfl))).trans e12) ((hS.got 11 18 bM rfl (Nat.le_of_ble_eq_true (by kernel_rfl))).trans e11') _ hk (by kernel_rfl) rfl (by simp [Value.oneCell']) fun w2 j9 aY => ?_
    refine (show InR _ _ _ _ _ _ _ _ _ _ _ _ _ from { hF with bel := hF.bel.trans (aY.below hF.bel.size hg), ap := (hF.ap.hi aY.size).pure (nt hF.bel.size aY.size) rfl, v3 := fun h => ⟨(hF.v3 h).1, fun h0 => absurd (show d 6 = false from h0) (by rw [h6]; decide)⟩, v6 := fun h => ⟨(hF.v6 h).1, (hF.v6 h).2.loc fun k hk => aY.block k ((hF.v6 h).2.lt k hk) fun e => nob 6 h (by decide) (by decide) (by rw [<- e, e6]; rw [e6] at hk; exact hk)⟩, v7 := fun h => ⟨(hF.v7 h).1, fun h0 => absurd (show d 10 = false from h0) (by rw [aL]; decide)⟩, v10 := fun h => ⟨(hF.v10 h).1, (hF.v10 h).2.loc fun k hk => aY.block k ((hF.v10 h).2.lt k hk) fun e => nob 10 h (by decide) (by decide) (by rw [<- e, e10]; rw [e10] at hk; exact hk)⟩, v12 := fun _ => ⟨g, _, _, _, _, _, _, _, _, e12, j9, fun _ => ⟨bM, e11'⟩⟩, v13 := fun _ => aM })
  intro d val w' hF hd
  simp only [Exit.then, Jd7, Act.put, List.setIfInBounds_toArray, List.set_cons_succ, List.set_cons_zero]
  refine ‹∀ a' w', Met _ a' w' -> _› _ _ ?_
  go_meet
  exact hF.end_ hd
 case rest =>
  obtain ⟨g, rfl, bN, cA⟩ := hcut
  have B1' := lh (B1.out.below cA B1.out.lt)
  have HIP := lh bN
  have HBC := lh cA
  have fW := B1.out.lt
  clear bN cA
  go_wp2_with fail
  go_loopw [4] (fun p wr => ∃ k : Nat, k <= n3 /\ p = .int .i64 (k : Int) /\ InP W.heap.size wr g ⟨m.smooth, m.words, m.seen, m.counts.take k⟩ /\ Below W.heap.size W wr) (fun p _ => n3 - (intOf p).toNat)
  case atStart => exact ⟨0, by omega, rfl, HIP.out, HBC.out⟩
  case round =>
   obtain ⟨k, hk, rfl, bN, aN⟩ := hrel
   rename World => wr
   clear HIP HBC
   have j8 := HBW.out.trans (aN.mono HBW.out.size)
   have b0' := B0.out.below aN bC
   obtain ⟨x0, x1, x2, x3, x4, x5⟩ := b0'.c6
   by_cases aV : k < n3
   ·as_aux_lemma =>
    have k1 : (k : Int) < (n3 : Int) := by omega
    obtain ⟨t, ht⟩ : ∃ t, m.counts[k]? = some t := ⟨_, List.getElem?_eq_getElem (by have := HW.out; omega)⟩
    obtain ⟨ad, A', n', c', rfl, gM, cP, bO⟩ := H.out.counts.at_ ht
    have bP := Qg (j8.mono HBB.out) cP gM
    have bG : t.length = n' := ReadsS.len bO
    have dO : n' <= 1000 := by have := (HL.out.rows t (List.mem_of_getElem? ht)).1; omega
    have aX := (HL.out.rows t (List.mem_of_getElem? ht)).2
    have HRR := lh bO
    have HCL := lh aX
    have HKT := lh (And.intro ht bG)
    have HBR := lh aN
    have HBW2 := lh j8
    have HIP := lh bN
    have B0' := lh b0'
    have bQ := b0'.lt
    have aO := gM
    clear cP bO aX ht bG aN j8 bN b0' gM
    go_wp2_with fail
    go_loopw [5, 6] (fun v p w2 => ∃ c : Nat, c <= n' /\ p = .int .i64 (c : Int) /\ (∃ AV cV S2, v = .slice AV c cV /\ Nest 22 (NRow 3 zv) w2 S2 (.slice AV c cV) (t.take c) /\ ∀ x, S2 x -> wr.heap.size <= x) /\ Below wr.heap.size wr w2) (fun _ p _ => n' - (intOf p).toNat)
    case atStart => exact ⟨0, by omega, rfl, ⟨_, _, _, rfl, Nest.nil _ _ _, fun _ h => h.elim⟩, Below.refl _ _⟩
    case round =>
     obtain ⟨c, hc, rfl, ⟨AV, cV, S2, rfl, gV, gQ⟩, j9⟩ := hrel
     rename World => w2
     clear x0 x1 x2 x3 x4 x5
     have b0'' := B0'.out.below j9 bQ
     obtain ⟨x0, x1, x2, x3, x4, x5⟩ := b0''.c6
     have aF : B <= wr.heap.size := nt HBB.out HBW2.out.size
     have aP := Qg (j9.mono aF) bP aO
     by_cases cE : c < n'
     ·as_aux_lemma =>
      have k2 : (c : Int) < (n' : Int) := by omega
      obtain ⟨j0, j7⟩ : ∃ j0, t[c]? = some j0 := ⟨_, List.getElem?_eq_getElem (by have := HKT.out.2; omega)⟩
      obtain ⟨ad2, A4, n4, c4, rfl, y9, gY, bH⟩ := HRR.out.at_ j7
      have gP := HBW2.out.trans (j9.mono HBW2.out.size)
      have aQ := Qg (gP.mono HBB.out) gY y9
      have o0 : n4 <= 1000 := by have := HCL.out j0 (List.mem_of_getElem? j7); have := ReadsI.len bH; omega
      have aR := Reads.alloc (rkindI.below bH (gP.mono HBB.out)) (nt HBB.out gP.size) (.cells #[] 3)
      have HRC := lh aR
      have bB := (List.take_append_getElem (l := t) (i := c) (by have := HKT.out.2; omega)).symm
      have bI : t.take (c + 1) = t.take c ++ [j0] := by
       rw [<- List.take_append_getElem (by have := HKT.out.2; omega)]
       rw [List.getElem?_eq_getElem (by have := HKT.out.2; omega)] at j7
       rw [Option.some.inj j7]
      have HTK := lh bI
      have HNE := lh gV
      have HLT := lh (show (t.take c).length = c by rw [List.length_take]; have := HKT.out.2; omega)
      have HE := lh (Jpb w2)
      have HB2 := lh j9
      have bD := Jb w2 (.cells #[] 3)
      obtain ⟨z0, z1, z2, z3, z4, z5⟩ := (b0''.below bD b0''.lt).c6
      have bR := Qg (bD.mono (nt aF j9.size)) aP aO
      have bS := Qg (bD.mono (nt aF j9.size)) aQ y9
      clear bH gY y9 gP aR bB bI gV j7 j9 b0'' bD
      go_upto_region 9 with fail
      have HNL := lh (show ∀ x, S2 x -> x < w2.heap.size from fun x hx => HNE.out.lt (Js 3 zv) hx)
      have HNO := lh (show ∀ x, (Value.slice AV c cV).ownBlock = some x -> S2 x from by obtain ⟨rl, F1, q1, q2, q3, q4, q5, q6, q7⟩ := HNE.out; exact q6)
      go_wp2_with (first | (at_builtin; refine Jnx Tryz.eltZ1 rfl (.tmp 37) (.tmp 45) rfl (w2.alloc (.cells #[] 3)) _ [] B A4 n4 c4 j0 rfl HE.out rfl HRC.out (fun _ => rfl) (by unfold maxLen; simp; omega) (by simp; omega) ?_; intro v' w3 cR cT; obtain ⟨A6, c6, rfl, cU, bE, bT⟩ := Jpf cR cT; have dY := HNE.out.next (Js 3 zv) bT; have eW := NRow.of cU; have HN3 := lh (And.intro dY eW); have HFR := lh bE; have HB3 := lh (HB2.out.trans (bT.mono HB2.out.size)); have HS3 := lh bT.size; clear cR cT cU bE bT dY eW z0 z1 z2 z3 z4 z5 x0 x1 x2 x3 x4 x5 bR bS aP aQ) | (at_builtin; rename World => w3; refine Jot (Js 3 zv) Tryz.eltZ2 rfl (.tmp 36) (.tmp 47) rfl S2 _ w3 _ (t.take c) _ _ _ j0 rfl HN3.out.1 HN3.out.2 (fun x hx aS => by have := HFR.out x hx; have := HNL.out x aS; omega) rfl (by rw [HLT.out]; omega) ?_; intro v4 w4 S4 o0 p9 j6; have gW := HB3.out.trans (j6.below HB3.out.size (fun x hx => gQ x (HNO.out x hx))); rw [<- HTK.out] at o0; obtain ⟨AW4, cW4, rfl⟩ := o0.form; rw [show (t.take (c + 1)).length = c + 1 by rw [List.length_take]; have := HKT.out.2; omega] at *; have HN4 := lh (And.intro o0 gW); have HS4 := lh (show ∀ x, S4 x -> wr.heap.size <= x from fun x hx => by rcases p9 x hx with h | h | h; exact gQ x h; exact nt HB2.out.size (HFR.out x h); exact nt HB3.out.size h); clear o0 p9 j6 gW))
      exact ⟨⟨c + 1, by omega, by go_num, ⟨_, _, _, rfl, HN4.out.1, HS4.out⟩, HN4.out.2⟩, by simp [intOf]; omega⟩
     as_aux_lemma =>
     obtain rfl : c = n' := by omega
     have k2 : ¬ (c : Int) < (c : Int) := by omega
     have aT : t.take c = t := List.take_of_length_le (by have := HKT.out.2; omega)
     rw [aT] at gV
     obtain ⟨⟨AW, nW, cW⟩, ⟨AS, nS, cS⟩, ⟨AC, nC, cC⟩, F, G, Hh, bk, ho, dP, bZ⟩ := HIP.out
     simp only [SW.v] at bk
     have bL := bk.lt
     have eX := fun x (hx : F x) => (Js 3 zv).lt ho.words hx
     have eY := fun x (hx : G x) => (Js 3 zv).lt ho.seen hx
     have eZ := fun x (hx : Hh x) => ho.counts.lt (Xt (Js 3 zv) _) hx
     have bk2 := bk.below j9 bL
     have bJ := ho.next j9
     have eG : (m.counts.take k).length <= 1000 := by rw [List.length_take]; omega
     have bI : m.counts.take (k + 1) = m.counts.take k ++ [t] := by
      rw [<- List.take_append_getElem (by have := HW.out; omega)]
      have ht := HKT.out.1
      rw [List.getElem?_eq_getElem (by have := HW.out; omega)] at ht
      rw [Option.some.inj ht]
     have HTK := lh bI
     have HNE := lh gV
     have HO2 := lh bJ
     have HB2 := lh j9
     have BK2 := lh bk2
     have HAP := lh (And.intro dP (And.intro bZ (And.intro eX (And.intro eY eZ))))
     have HS2 := lh gQ
     obtain ⟨y0, y1, y2, y3, y4, y5, y6, y7⟩ := bk2.c8
     clear aT gV bI bJ ho bk bk2 dP bZ eX eY eZ j9 gQ b0''
     go_upto_region 10 with fail
     go_wp2_with (at_builtin; refine Jot (Xt (Js 3 zv) 22) Tryz.eltZ3 rfl (.tmp 50) (.tmp 52) rfl Hh S2 w2 _ (m.counts.take k) AV c cV t rfl HO2.out.counts HNE.out (fun x hx aS => by have := HS2.out x hx; have := HAP.out.2.2.2.2 x aS; omega) rfl (by omega) ?_; intro v4 w4 S4 o0 p9 j6; obtain ⟨A4, c4', aC⟩ := o0.form; rw [show (m.counts.take k ++ [t]).length = k + 1 by rw [List.length_append, List.length_take]; have := HW.out; simp; omega] at aC; subst aC; have gO : ∀ x, (Value.slice AC nC cC).ownBlock = some x -> Hh x := by { obtain ⟨rl, F1, q1, q2, q3, q4, q5, q6, q7⟩ := HO2.out.counts; exact q6 }; have bk4 := (j6.block g (Nat.lt_of_lt_of_le bL HB2.out.size) fun e => HAP.out.1.2.2 (gO g e.symm)).trans BK2.out; obtain ⟨u0, u1, u2, u3', u4, u5', u6, u7'⟩ := Blk.c8 bk4; obtain ⟨f0, f1, f2, f3, f4, f5, f6, f7⟩ := Blk.q8m bk4; have bU := InP.grow BK2.out HO2.out HAP.out.1 HAP.out.2.1 j6 o0 p9 HS2.out HAP.out.2.2.1 HAP.out.2.2.2.1 bL (by have := HBR.out.size; omega); have gW := (HBR.out.trans ((HB2.out.mono (by have := HBR.out.size; omega)))).trans (j6.below (by have := HBR.out.size; have := HB2.out.size; omega) fun x hx => HO2.out.from3 x (gO x hx)); rw [<- HTK.out] at bU; have HP4 := lh (And.intro bU gW); clear bU gW o0 p9 j6 gO bk4)
     exact ⟨⟨k + 1, by omega, by go_num, HP4.out.1, HP4.out.2.setCell HAP.out.2.1 _⟩, by simp [intOf]; omega⟩
   as_aux_lemma =>
   obtain rfl : k = n3 := by omega
   have k1 : ¬ (k : Int) < (k : Int) := by omega
   have aT : m.counts.take k = m.counts := List.take_of_length_le (by have := HW.out; omega)
   rw [aT] at bN
   obtain ⟨⟨AW, nW, cW⟩, ⟨AS, nS, cS⟩, ⟨AC, nC, cC⟩, F, G, Hh, bk, ho, dP, bZ⟩ := bN
   simp only [SW.v] at bk
   obtain ⟨y0, y1, y2, y3, y4, y5, y6, y7⟩ := bk.c8
   have BR := lh (B1.out.below aN B1.out.lt)
   have HX : Hid (¬ F (w.heap.size + 1) /\ ¬ G (w.heap.size + 1) /\ ¬ Hh (w.heap.size + 1)) := lh ⟨fun e => by have := ho.from1 _ e; omega, fun e => by have := ho.from2 _ e; omega, fun e => by have := ho.from3 _ e; omega⟩
   have HO := lh (ho.low HBW.out.size)
   have HB9 := lh j8
   have eH := show w.heap.size <= w.heap.size + 1 by omega
   generalize hgR : w.heap.size + 1 = gR at *
   clear aT ho j8 dP bZ hgR bk
   go_wp2_with (refine Jr rfl _ (.tmp 2) (.tmp 55) rfl gR #[.bool (decide (m.smooth.num < 0)), .int .u64 (lo m.smooth.num.natAbs : Int), .string (mo m.smooth.num.natAbs), .int .u64 (lo ((qden m.smooth)) : Int), .string (mo ((qden m.smooth))), .slice AW nW cW, .slice AS nS cS, .slice AC nC cC] _ rfl rfl _ BR.out (by kernel_rfl) rfl (by simp [Value.oneCell']) ?_; intro w7 cZ dA; have HX7 := lh dA; have HB7 := lh cZ; clear dA cZ x0 x1 x2 x3 x4 x5 y0 y1 y2 y3 y4 y5 y6 y7)
   obtain ⟨p0, p1, p2, p3, p4, p5, p6, p7⟩ := HB7.out.c8
   refine bodyPost_ret (v := .agg #[.bool (decide (m.smooth.num < 0)), .int .u64 (lo m.smooth.num.natAbs : Int), .string (mo m.smooth.num.natAbs), .int .u64 (lo ((qden m.smooth)) : Int), .string (mo ((qden m.smooth))), .slice AW nW cW, .slice AS nS cS, .slice AC nC cC]) (by simp [results, Tryz.results21, go_sem, p0, p1, p2, p3, p4, p5, p6, p7]) rfl ?_
   exact ⟨_, rfl, ⟨_, _, _, F, G, Hh, rfl, HO.out.exc HX7.out HX.out.1 HX.out.2.1 HX.out.2.2⟩, HB9.out.trans (HX7.out.below HB9.out.size eH)⟩
def Jo0 (l ws : List Int) (k : Nat) : List Int := (List.range k).map fun c => l.getD c 0 % (max 0 (ws.getD c 0) + 1) - 1
theorem Jqg (l ws : List Int) (k : Nat) : (Jo0 l ws k).length = k := by simp [Jo0]
theorem Jp0 (l ws : List Int) (k : Nat) : Jo0 l ws (k + 1) = Jo0 l ws k ++ [l.getD k 0 % (max 0 (ws.getD k 0) + 1) - 1] := by
 simp [Jo0, List.range_succ]
theorem Jpc (A : Option Addr) (n c : Nat) (l : List Int) (A' : Option Addr) (n' c' : Nat) (ws : List Int) (B : Nat) (w : World) (h : ReadsI w B A n l) (h' : ReadsI w B A' n' ws) (hB : B <= w.heap.size) (hn : n <= 9223372036854775807) (hl : ∀ x ∈ l, -9223372036854775808 <= x /\ x <= 9223372036854775807) (dO : n' <= 1000) (hw : ∀ x ∈ ws, -1000000 <= x /\ x <= 1000000) :
  Calls Tryz.prog 25 #[.slice A n c, .slice A' n' c'] w fun e w' => ∃ v, e = .returned v /\ Own w' 3 zv v (Jkx l ws) /\ (∀ b, v.ownBlock = some b -> w.heap.size <= b) /\ Below w.heap.size w w' := by
 have fA : ws.length = n' := h'.len
 have H := lh h
 have H' := lh h'
 have HB := lh hB
 have HL := lh hl
 have HW := lh hw
 have HN := lh fA
 clear h h' hB hl hw fA
 go_enter Tryz.func25, Tryz.ntmps25
 go_wp2_with fail
 go_loopw [5, 6] (fun v p wr => ∃ k : Nat, k <= n' /\ p = .int .i64 (k : Int) /\ Own wr 3 zv v (Jo0 l ws k) /\ (∀ b, v.ownBlock = some b -> w.heap.size <= b) /\ Below w.heap.size w wr) (fun _ p _ => n' - (intOf p).toNat)
 case atStart => exact ⟨0, by omega, rfl, Own.nil_ _ _ _, (fun b h => by cases h), Below.refl _ _⟩
 case round =>
  obtain ⟨k, hk, rfl, ho, bE, j8⟩ := hrel
  rename World => wr
  by_cases aV : k < n'
  ·have k1 : (k : Int) < (n' : Int) := by omega
   obtain ⟨ad, x, rfl, gM, hx, hc⟩ := H'.out.at_ aV
   have gI := Qg (j8.mono HB.out) hc gM
   have dQ := HW.out x (List.mem_of_getElem? hx)
   have dR := Jp0 l ws k
   have fB : ws.getD k 0 = x := by rw [List.getD_eq_getElem?_getD, hx]; rfl
   rw [fB] at dR
   obtain ⟨M, hM⟩ : ∃ M : Nat, max 0 x + 1 = (M : Int) := ⟨(max 0 x + 1).toNat, by omega⟩
   rw [hM] at dR
   have fX : 1 <= M /\ M <= 1000001 := by omega
   have dS : Hid (∀ (y : Int) (w' : World), -9223372036854775808 <= y -> y <= 9223372036854775807 -> Calls Tryz.prog 13 #[.int .i64 y, .int .i64 (M : Int)] w' fun e w'' => e = .returned (.int .i64 (y % (M : Int))) /\ w' = w'') := lh fun y w' h1 h2 => Jpd y M w' h1 h2 fX.1 (by omega)
   have key : (∃ ad' y, A = some ad' /\ ((k : Int) < (n : Int)) /\ l.getD k 0 = y /\ (-9223372036854775808 <= y /\ y <= 9223372036854775807) /\ wr.cell? (ad'.add k) = some (.int .i64 y)) \/ ((¬ (k : Int) < (n : Int)) /\ l.getD k 0 = 0) := by
    by_cases dT : k < n
    ·obtain ⟨ad', y, h1, h2, h3, h4⟩ := H.out.at_ dT
     exact .inl ⟨ad', y, h1, by omega, by rw [List.getD_eq_getElem?_getD, h3]; rfl, HL.out y (List.mem_of_getElem? h3), Qg (j8.mono HB.out) h4 h2⟩
    exact .inr ⟨by omega, by rw [List.getD_eq_getElem?_getD, List.getElem?_eq_none (by rw [H.out.len]; omega)]; rfl⟩
   have HLN := lh (Jqg l ws k)
   have HBW := lh j8
   have HO := lh ho
   have HFR := lh bE
   have HSN := lh dR
   have HK := lh key
   have eU : max 0 x = (M : Int) - 1 := by omega
   clear j8 ho bE dR fB key hc hx
   obtain ⟨ad', y, rfl, k2, dB, fC, gJ⟩ | ⟨k2, dB⟩ := HK.out
   ·rw [dB] at HSN
    clear HK dB
    have bV := dS.out y wr fC.1 fC.2
    obtain ⟨t, ht⟩ : ∃ t, y % (M : Int) = t := ⟨_, rfl⟩
    have fY : 0 <= t /\ t < 1000001 := by
     have e1 := Int.emod_nonneg y (show (M : Int) ≠ 0 by omega)
     have e2 := Int.emod_lt_of_pos y (show (0 : Int) < M by omega)
     omega
    rw [ht] at bV HSN
    have HPY := lh bV
    clear bV ht dS
    go_wp2_with fail
    refine HPY.out.mono ?_
    rintro e w1 ⟨rfl, rfl⟩
    go_wp2_with (at_builtin; refine Joi (f := zv) Tryz.eltZ1 rfl (.tmp 22) (.tmp 32) rfl wr _ (Jo0 l ws k) (t - 1) (.int .i64 (t - 1)) rfl rfl HO.out (by simp [Act.eval]) rfl (by have := HLN.out; unfold maxLen; omega) (by have := HLN.out; omega) ?_; intro v' w2 bJ j6)
    have aU := HBW.out.trans (j6.below HBW.out.size HFR.out)
    have bW := j6.fresh HBW.out.size HFR.out
    rw [<- HSN.out] at bJ
    exact ⟨⟨k + 1, by omega, by go_num, bJ, bW, aU⟩, by simp [intOf]; omega⟩
   rw [dB] at HSN
   clear HK dB
   have bV := dS.out 0 wr (by decide) (by decide)
   obtain ⟨t, ht⟩ : ∃ t, 0 % (M : Int) = t := ⟨_, rfl⟩
   have fY : 0 <= t /\ t < 1000001 := by
    have e1 := Int.emod_nonneg 0 (show (M : Int) ≠ 0 by omega)
    have e2 := Int.emod_lt_of_pos 0 (show (0 : Int) < M by omega)
    omega
   rw [ht] at bV HSN
   have HPY := lh bV
   clear bV ht dS
   go_wp2_with fail
   refine HPY.out.mono ?_
   rintro e w1 ⟨rfl, rfl⟩
   go_wp2_with (at_builtin; refine Joi (f := zv) Tryz.eltZ1 rfl (.tmp 22) (.tmp 32) rfl wr _ (Jo0 l ws k) (t - 1) (.int .i64 (t - 1)) rfl rfl HO.out (by simp [Act.eval]) rfl (by have := HLN.out; unfold maxLen; omega) (by have := HLN.out; omega) ?_; intro v' w2 bJ j6)
   have aU := HBW.out.trans (j6.below HBW.out.size HFR.out)
   have bW := j6.fresh HBW.out.size HFR.out
   rw [<- HSN.out] at bJ
   exact ⟨⟨k + 1, by omega, by go_num, bJ, bW, aU⟩, by simp [intOf]; omega⟩
  obtain rfl : k = n' := by omega
  have k1 : ¬ (k : Int) < (k : Int) := by omega
  have dC : Jo0 l ws k = Jkx l ws := by unfold Jo0 Jkx; rw [HN.out]
  rw [dC] at ho
  go_wp2
  go_returns
  exact ⟨_, rfl, ho, bE, j8⟩
def DocP (L : Nat) (w : World) (g : Nat) (x0 x1 x2 xw : Value) (ss : List Int) (cs : List (List (List Int))) (Z : Nat -> Prop) : Prop := ∃ (S C : SW) (G H : Nat -> Prop), Blk w g 31 #[x0, x1, x2, xw, S.v, C.v] /\ NRow 3 zv w G S.v ss /\ Nest 65 (Nest 22 (NRow 3 zv)) w H C.v cs /\ (∀ k, G k -> ¬ H k) /\ ¬ G g /\ ¬ H g /\ (∀ k, Z k ↔ k = g \/ G k \/ H k) /\ ∀ k, Z k -> L <= k
theorem DocP.lt {L g : Nat} {w : World} {x0 x1 x2 xw : Value} {ss : List Int} {cs : List (List (List Int))} {Z : Nat -> Prop} (h : DocP L w g x0 x1 x2 xw ss cs Z) : ∀ k, Z k -> k < w.heap.size := by
 obtain ⟨S, C, G, H, bk, hs, hc, h1, h2, h3, h4, h5⟩ := h
 intro k hk
 rcases (h4 k).1 hk with rfl | h | h
 ·exact bk.lt
 ·exact (Js _ _).lt hs h
 exact hc.lt (Xt (Js _ _) _) h
theorem DocP.loc {L g : Nat} {w w' : World} {x0 x1 x2 xw : Value} {ss : List Int} {cs : List (List (List Int))} {Z : Nat -> Prop} (h : DocP L w g x0 x1 x2 xw ss cs Z) (hs : w.heap.size <= w'.heap.size) (hk : ∀ k, Z k -> w'.heap[k]? = w.heap[k]?) : DocP L w' g x0 x1 x2 xw ss cs Z := by
 obtain ⟨S, C, G, H, bk, fZ, hc, h1, h2, h3, h4, h5⟩ := h
 exact ⟨S, C, G, H, (hk g ((h4 g).2 (.inl rfl))).trans bk, (Js _ _).loc fZ hs fun k h => hk k ((h4 k).2 (.inr (.inl h))), hc.loc (Xt (Js _ _) _) hs fun k h => hk k ((h4 k).2 (.inr (.inr h))), h1, h2, h3, h4, h5⟩
theorem DocP.next {L g : Nat} {w w' : World} {x0 x1 x2 xw : Value} {ss : List Int} {cs : List (List (List Int))} {Z : Nat -> Prop} (h : DocP L w g x0 x1 x2 xw ss cs Z) (hb : Below w.heap.size w w') : DocP L w' g x0 x1 x2 xw ss cs Z := h.loc hb.size fun k hk => hb.block k (h.lt k hk)
theorem DocP.grow {L g : Nat} {w2 w4 : World} {x0 x1 x2 xw : Value} {ss : List Int} {cs : List (List (List Int))} {t : List (List Int)} {AC A4 : Option Addr} {nC cC n4 c4 : Nat} {S : SW} {G H S2 S4 : Nat -> Prop} (bk : Blk w2 g 31 #[x0, x1, x2, xw, S.v, .slice AC nC cC]) (hs : NRow 3 zv w2 G S.v ss) (hc : Nest 65 (Nest 22 (NRow 3 zv)) w2 H (.slice AC nC cC) cs)
  (h1 : ∀ k, G k -> ¬ H k) (h2 : ¬ G g) (h3 : ¬ H g) (hL : ∀ k, (k = g \/ G k \/ H k) -> L <= k) (j6 : Grew w2 w4 (.slice AC nC cC) (.slice A4 n4 c4)) (hn : Nest 65 (Nest 22 (NRow 3 zv)) w4 S4 (.slice A4 n4 c4) (cs ++ [t]))
  (p9 : ∀ x, S4 x -> H x \/ S2 x \/ w2.heap.size <= x) (gQ : ∀ x, S2 x -> L <= x /\ ¬ (x = g \/ G x \/ H x)) (fQ : L <= w2.heap.size) :
  ∃ Z', DocP L (w4.setCell ⟨g, 5, none⟩ (.slice A4 n4 c4)) g x0 x1 x2 xw ss (cs ++ [t]) Z' /\ (∀ k, Z' k -> (k = g \/ G k \/ H k) \/ S2 k \/ w2.heap.size <= k) /\ w2.heap.size <= (w4.setCell ⟨g, 5, none⟩ (.slice A4 n4 c4)).heap.size /\ ∀ k, k < w2.heap.size -> ¬ (k = g \/ G k \/ H k) -> (w4.setCell ⟨g, 5, none⟩ (.slice A4 n4 c4)).heap[k]? = w2.heap[k]? := by
 have gO : ∀ x, (Value.slice AC nC cC).ownBlock = some x -> H x := by obtain ⟨rl, F1, q1, q2, q3, q4, q5, q6, q7⟩ := hc; exact q6
 have hr := Js 3 zv
 have bk4 : Blk w4 g 31 #[x0, x1, x2, xw, S.v, .slice AC nC cC] := (j6.block g bk.lt fun e => h3 (gO g e.symm)).trans bk
 have hx : Exc g w4 (w4.setCell ⟨g, 5, none⟩ (.slice A4 n4 c4)) := (Exc.refl g w4).set_ 5 _
 have k4 : ∀ x, S4 x -> L <= x /\ ¬ G x /\ x ≠ g := fun x hx => by
  rcases p9 x hx with h | h | h
  ·exact ⟨hL x (.inr (.inr h)), fun e => h1 x e h, fun e => h3 (by rw [<- e]; exact h)⟩
  ·exact ⟨(gQ x h).1, fun e => (gQ x h).2 (.inr (.inl e)), fun e => (gQ x h).2 (.inl e)⟩
  have := bk.lt
  exact ⟨by omega, fun e => by have := hr.lt hs e; omega, by omega⟩
 have loc2 : ∀ x, G x -> (w4.setCell ⟨g, 5, none⟩ (.slice A4 n4 c4)).heap[x]? = w2.heap[x]? := fun x aB => (hx.block x (Nat.lt_of_lt_of_le (hr.lt hs aB) j6.size) fun e => h2 (by rw [<- e]; exact aB)).trans (j6.block x (hr.lt hs aB) fun e => h1 x aB (gO x e.symm))
 refine ⟨fun k => k = g \/ G k \/ S4 k, ⟨S, ⟨A4, n4, c4⟩, G, S4, (by have h := bk4.set_ 5 (.slice A4 n4 c4); simp only [SW.v]; simpa [SW.v] using h), hr.loc hs (nt j6.size hx.size) loc2, hn.loc (Xt hr _) hx.size fun x h => hx.block x (hn.lt (Xt hr _) h) (k4 x h).2.2, fun x h h' => (k4 x h').2.1 h, h2, fun h => (k4 g h).2.2 rfl, fun k => Iff.rfl, fun k hk => ?_⟩, fun k hk => ?_, nt j6.size hx.size, fun k hk dO => ?_⟩
 ·rcases hk with h | h | h
  ·exact hL k (.inl h)
  ·exact hL k (.inr (.inl h))
  exact (k4 k h).1
 ·rcases hk with h | h | h
  ·exact .inl (.inl h)
  ·exact .inl (.inr (.inl h))
  rcases p9 k h with h | h | h
  ·exact .inl (.inr (.inr h))
  ·exact .inr (.inl h)
  exact .inr (.inr h)
 refine (hx.block k (Nat.lt_of_lt_of_le hk j6.size) fun e => dO (.inl e)).trans (j6.block k hk fun e => dO (.inr (.inr (gO k e.symm))))
theorem DocP.setSeen {L g : Nat} {w : World} {x0 x1 x2 xw : Value} {ss : List Int} {cs : List (List (List Int))} {Z G H : Nat -> Prop} {gs nS cS : Nat} {C : SW} (bk : Blk w g 31 #[x0, x1, x2, xw, .slice (some ⟨gs, 0, none⟩) nS cS, C.v]) (hs : NRow 3 zv w G (.slice (some ⟨gs, 0, none⟩) nS cS) ss) (hc : Nest 65 (Nest 22 (NRow 3 zv)) w H C.v cs)
  (h1 : ∀ k, G k -> ¬ H k) (h2 : ¬ G g) (h3 : ¬ H g) (h4 : ∀ k, Z k ↔ k = g \/ G k \/ H k) (h5 : ∀ k, Z k -> L <= k) (k : Nat) (y : Int) : DocP L (w.drew.setCell ⟨gs, k, none⟩ (.int .i64 y)) g x0 x1 x2 xw (ss.set k y) cs Z := by
 have hG : G gs := (hs.2 gs).2 rfl
 have hx : Exc gs w.drew (w.drew.setCell ⟨gs, k, none⟩ (.int .i64 y)) := (Exc.refl gs w.drew).set_ k _
 have aW : Nest 65 (Nest 22 (NRow 3 zv)) w.drew H C.v cs := hc.loc (Xt (Js _ _) _) zd fun _ _ => rfl
 have bk' : Blk w.drew g 31 #[x0, x1, x2, xw, .slice (some ⟨gs, 0, none⟩) nS cS, C.v] := bk
 have gA : NRow 3 zv w.drew G (.slice (some ⟨gs, 0, none⟩) nS cS) ss := (Js _ _).loc hs zd fun _ _ => rfl
 refine ⟨⟨some ⟨gs, 0, none⟩, nS, cS⟩, C, G, H, bk'.exc hx fun e => h2 (by rw [e]; exact hG), gA.store k y, aW.loc (Xt (Js _ _) _) hx.size fun x h => hx.block x (aW.lt (Xt (Js _ _) _) h) fun e => h1 gs hG (by rw [<- e]; exact h), h1, h2, h3, h4, h5⟩
def Jq3 (L : Nat) (x0 x1 x2 xw : Value) (m : BM) (v : Value) (w : World) : Prop := ∃ (S C : SW) (G H : Nat -> Prop), v = .agg #[x0, x1, x2, xw, S.v, C.v] /\ NRow 3 zv w G S.v m.seen /\ Nest 65 (Nest 22 (NRow 3 zv)) w H C.v m.counts /\ (∀ k, G k -> L <= k /\ ¬ H k) /\ ∀ k, H k -> L <= k
def Jq0 (lo : Nat) (w : World) (v : Value) (c : Nat) (l : List (List Int)) : Prop := ∃ (AV : Option Addr) (cV : Nat) (S2 : Nat -> Prop), v = .slice AV c cV /\ Nest 22 (NRow 3 zv) w S2 (.slice AV c cV) l /\ ∀ x, S2 x -> lo <= x
theorem Jqd {l : List Int} {k : Nat} {x b : Int} (h : l[k]? = some x) : Zt l (k : Int) b = l.set k (x + b) := by
 unfold Zt
 rw [if_pos (by omega), Int.toNat_natCast, List.getD_eq_getElem?_getD, h]
 rfl
def Jql : Nat -> Nat
 | 4 => 1
 | 7 => 1
 | 9 => 2
 | _ => 0
structure WithR (W : World) (ss : List Int) (x0 : Value) (y1 y2 y3 : Value) (x2 x3 x5 x6 : Value) (d : Nat -> Bool) (val : Nat -> Value) (w : World) : Prop where
 bel : Below W.heap.size W w
 ap : Apart Jql W.heap.size w.heap.size d val
 v0 : d 0 = true -> val 0 = x0
 v1 : d 1 = true -> val 1 = .agg #[y1, y2, y3]
 v2 : d 2 = true -> val 2 = x2
 v3 : d 3 = true -> val 3 = x3
 v4 : d 4 = true -> (∃ g, val 4 = .slice (some ⟨g, 0, none⟩) 0 0) /\ (d 7 = false -> Own w 3 zv (val 4) [])
 v5 : d 5 = true -> val 5 = x5
 v6 : d 6 = true -> val 6 = x6
 v7 : d 7 = true -> d 4 = true /\ Own w 3 zv (val 7) ss
 v8 : d 8 = true -> d 7 = true /\ val 8 = .agg #[y1, y2, y3, x3, val 7, .slice none 0 0]
 v9 : d 9 = true -> ∃ g z0 z1 z2 z3 z4 z5, val 9 = .pointer (some ⟨g, 0, none⟩) /\ Blk w g 31 #[z0, z1, z2, z3, z4, z5] /\ (d 10 = true -> d 8 = true /\ val 8 = .agg #[z0, z1, z2, z3, z4, z5])
 v10 : d 10 = true -> d 9 = true
theorem WithR.next {W w w' : World} {ss : List Int} {x0 y1 y2 y3 x2 x3 x5 x6 : Value} {d : Nat -> Bool} {val : Nat -> Value} (h : WithR W ss x0 y1 y2 y3 x2 x3 x5 x6 d val w) (hb : Below w.heap.size w w') : WithR W ss x0 y1 y2 y3 x2 x3 x5 x6 d val w' where
 bel := h.bel.trans (hb.mono h.bel.size)
 ap := h.ap.hi hb.size
 v0 := h.v0
 v1 := h.v1
 v2 := h.v2
 v3 := h.v3
 v4 := fun h1 => ⟨(h.v4 h1).1, fun h2 => ((h.v4 h1).2 h2).below hb ((h.v4 h1).2 h2).lt⟩
 v5 := h.v5
 v6 := h.v6
 v7 := fun h1 => ⟨(h.v7 h1).1, (h.v7 h1).2.below hb (h.v7 h1).2.lt⟩
 v8 := h.v8
 v9 := fun h1 => by
  obtain ⟨g, z0, z1, z2, z3, z4, z5, e, hk, h2⟩ := h.v9 h1
  exact ⟨g, z0, z1, z2, z3, z4, z5, e, hk.below hb hk.lt, h2⟩
 v10 := h.v10
theorem WithR.end_ {W w : World} {ss : List Int} {x0 y1 y2 y3 x2 x3 x5 x6 : Value} {d : Nat -> Bool} {val : Nat -> Value} (hF : WithR W ss x0 y1 y2 y3 x2 x3 x5 x6 d val w) (hd : ∀ i, i < 11 -> d i = true) : ∃ g, val 9 = .pointer (some ⟨g, 0, none⟩) /\ (∃ Z, DocP W.heap.size w g y1 y2 y3 x3 ss [] Z) /\ Below W.heap.size W w := by
 obtain ⟨-, o7⟩ := hF.v7 (hd 7 (by decide))
 obtain ⟨-, e8⟩ := hF.v8 (hd 8 (by decide))
 obtain ⟨g, z0, z1, z2, z3, z4, z5, e9, hk, aL⟩ := hF.v9 (hd 9 (by decide))
 have e10 := e8.symm.trans (aL (hd 10 (by decide))).2
 injection e10 with e10
 rw [<- e10] at hk
 obtain ⟨A, c, e7, -⟩ := o7.form
 have b7 : Jom (val 7) = (val 7).ownBlock := by rw [e7]; rfl
 have b9 : Jom (val 9) = some g := by rw [e9]; rfl
 have gV : ¬ (val 7).ownBlock = some g := fun h => hF.ap.ap 9 7 g (hd 9 (by decide)) (hd 7 (by decide)) (by decide) (by decide) (by decide) b9 (b7.trans h)
 refine ⟨g, e9, ⟨fun k => k = g \/ (val 7).ownBlock = some k \/ False, ⟨A, ss.length, c⟩, ⟨none, 0, 0⟩, fun k => (val 7).ownBlock = some k, fun _ => False, ?_, ?_, Nest.nil _ _ _, fun _ _ h => h, gV, fun h => h, fun k => Iff.rfl, fun k hk => ?_⟩, hF.bel⟩
 ·rw [e7] at hk
  exact hk
 ·show NRow _ _ _ _ (.slice A ss.length c) _
  rw [<- e7]
  exact NRow.of o7
 rcases hk with rfl | h | h
 ·exact (hF.ap.lt 9 _ (hd 9 (by decide)) (by decide) b9).1
 ·exact (hF.ap.lt 7 k (hd 7 (by decide)) (by decide) (b7.trans h)).1
 exact h.elim
theorem Jqi (ng : Bool) (A7 A8 : Option Addr) (l7 d7 l8 d8 : Nat) (A1 A2 A3 : Option Addr) (n1 c1 n2 c2 n3 c3 B : Nat) (m : BM) (A4 : Option Addr) (n4 c4 : Nat) (row : List Int) (cl : Nat) (by_ : Int) (w : World) (h : RdB w B ⟨A1, n1, c1⟩ ⟨A2, n2, c2⟩ ⟨A3, n3, c3⟩ m) (h4 : ReadsI w B A4 n4 row) (hB : B <= w.heap.size) (eI : Jk m = 0) (dC : rowOk m.words row) (aX : cl < n2) (gK : by_ = 1 \/ by_ = -1) :
  Calls Tryz.prog 69 #[.agg #[.bool ng, .slice A7 l7 d7, .slice A8 l8 d8, .slice A1 n1 c1, .slice A2 n2 c2, .slice A3 n3 c3], .slice A4 n4 c4, .int .i64 (cl : Int), .int .i64 by_] w fun e w' => ∃ v, e = .returned v /\ Jq3 w.heap.size (.bool ng) (.slice A7 l7 d7) (.slice A8 l8 d8) (.slice A1 n1 c1) (Jn m row cl by_) v w' /\ Below w.heap.size w w' := by
 have hN := Qy eI
 have aA : m.words.length = n1 := h.words.len
 have aG : m.seen.length = n2 := h.seen.len
 have aH : m.counts.length = n3 := ReadsS.len h.counts
 have cN : row.length = n4 := h4.len
 have hL := Za eI
 have fU : n1 <= 20 := by have := hN.cols; omega
 have eU : n2 <= 12 := by have := hN.classes; omega
 have eV : n3 = n2 := by have := hN.tabs; omega
 have gB : n4 = n1 := by have := dC.1; omega
 subst eV gB
 obtain ⟨b0, b1, hB, hZ⟩ := bx2 w 31 #[.bool ng, .slice A7 l7 d7, .slice A8 l8 d8, .slice A1 n4 c1, .slice A2 n3 c2, .slice A3 n3 c3] 31 #[.bool false, .slice none 0 0, .slice none 0 0, .slice none 0 0, .slice none 0 0, .slice none 0 0]
 go_enter Tryz.func69, Tryz.ntmps69
 go_upto_region 1 with fail
 generalize ((w.alloc (.cells #[.bool ng, .slice A7 l7 d7, .slice A8 l8 d8, .slice A1 n4 c1, .slice A2 n3 c2, .slice A3 n3 c3] 31)).alloc (.cells #[.bool false, .slice none 0 0, .slice none 0 0, .slice none 0 0, .slice none 0 0, .slice none 0 0] 31)) = W at *
 rename B <= w.heap.size => hBB
 have H := lh h
 have H4 := lh h4
 have HN := lh hN
 have HRO := lh dC
 have HL := lh hL
 have HW := lh (And.intro aA (And.intro aG (And.intro aH cN)))
 have HBW := lh hB
 have HBB := lh hBB
 have HZ := lh hZ.out
 have B0 := lh b0
 have B1 := lh b1
 have bC := b0.lt
 clear h h4 hN dC hL aA aG aH cN hB hBB hZ b0 b1 eI
 go_cut [9] (fun v wc => ∃ g, v = .pointer (some ⟨g, 0, none⟩) /\ (∃ Z, DocP W.heap.size wc g (.bool ng) (.slice A7 l7 d7) (.slice A8 l8 d8) (.slice A1 n4 c1) m.seen [] Z) /\ Below W.heap.size W wc)
 case first =>
  refine Je0 (WithR W m.seen (.pointer (some ⟨w.heap.size, 0, none⟩)) (.bool ng) (.slice A7 l7 d7) (.slice A8 l8 d8) (.pointer (some ⟨w.heap.size, 3, none⟩)) (.slice A1 n4 c1) (.pointer (some ⟨w.heap.size, 4, none⟩)) (.slice A2 n3 c2)) (by kernel_rfl) (by kernel_rfl) (by kernel_rfl) ?_ ?_ [some 14, some 15, some 16, some 17, some 18, some 19, some 20, some 21, some 22, some 9, none] rfl ?_
  ·constructor <;> first | exact Jt _ | exact Apart.start _ _ _ _ | (intro h; cases h)
  ·refine ⟨⟨⟨⟨⟨⟨⟨⟨⟨⟨⟨trivial, ?_⟩, ?_⟩, ?_⟩, ?_⟩, ?_⟩, ?_⟩, ?_⟩, ?_⟩, ?_⟩, ?_⟩, ?_⟩ <;> intro d val a' w' hS hF hd hp
   ·have e8 : a'.tmps[4]?.getD undef = .pointer (some ⟨w.heap.size, 0, none⟩) := hS.arg 4
    refine Xa _ rfl rfl ?_ (show WithR _ _ _ _ _ _ _ _ _ _ _ _ _ from { hF with ap := hF.ap.pure hF.bel.size rfl, v0 := fun _ => rfl })
    clear hF hS hd hp
    go_simp
   ·have e1 := hS.res 0 14 (hp 0)
    rw [hF.v0 (hp 0)] at e1
    have b0' := B0.out.below hF.bel bC
    obtain ⟨y0, y1, y2, y3, y4, y5⟩ := b0'.c6
    refine Xa _ rfl rfl ?_ (show WithR _ _ _ _ _ _ _ _ _ _ _ _ _ from { hF with ap := hF.ap.pure hF.bel.size rfl, v1 := fun _ => rfl })
    clear hF hS hd hp
    go_simp
   ·have e8 : a'.tmps[4]?.getD undef = .pointer (some ⟨w.heap.size, 0, none⟩) := hS.arg 4
    refine Xa _ rfl rfl ?_ (show WithR _ _ _ _ _ _ _ _ _ _ _ _ _ from { hF with ap := hF.ap.pure hF.bel.size rfl, v2 := fun _ => rfl })
    clear hF hS hd hp
    go_simp
   ·have e1 := hS.res 2 16 (hp 2)
    rw [hF.v2 (hp 2)] at e1
    have b0' := B0.out.below hF.bel bC
    obtain ⟨y0, y1, y2, y3, y4, y5⟩ := b0'.c6
    refine Xa _ rfl rfl ?_ (show WithR _ _ _ _ _ _ _ _ _ _ _ _ _ from { hF with ap := hF.ap.pure hF.bel.size rfl, v3 := fun _ => rfl })
    clear hF hS hd hp
    go_simp
   ·have hG := hF.next (Jb w' (.cells #[] 3))
    refine Xa (v := .slice (some ⟨w'.heap.size, 0, none⟩) 0 0) (w2 := w'.alloc (.cells #[] 3)) _ rfl rfl ?_ (show WithR _ _ _ _ _ _ _ _ _ _ _ _ _ from { hG with ap := hF.ap.step (Jb w' _).size hF.bel.size fun _ b hb => .inl (by have hb : some w'.heap.size = some b := hb; have hb := Option.some.inj hb; rw [World.size_alloc]; omega), v4 := fun _ => ⟨⟨_, rfl⟩, fun _ => Jpb w'⟩, v7 := fun h => ⟨rfl, (hG.v7 h).2⟩ })
    clear hG hF hS hd hp
    go_simp
   ·have e8 : a'.tmps[4]?.getD undef = .pointer (some ⟨w.heap.size, 0, none⟩) := hS.arg 4
    refine Xa _ rfl rfl ?_ (show WithR _ _ _ _ _ _ _ _ _ _ _ _ _ from { hF with ap := hF.ap.pure hF.bel.size rfl, v5 := fun _ => rfl })
    clear hF hS hd hp
    go_simp
   ·have e1 := hS.res 5 19 (hp 5)
    rw [hF.v5 (hp 5)] at e1
    have b0' := B0.out.below hF.bel bC
    obtain ⟨y0, y1, y2, y3, y4, y5⟩ := b0'.c6
    refine Xa _ rfl rfl ?_ (show WithR _ _ _ _ _ _ _ _ _ _ _ _ _ from { hF with ap := hF.ap.pure hF.bel.size rfl, v6 := fun _ => rfl })
    clear hF hS hd hp
    go_simp
   ·have h3 := hp 4
    obtain ⟨⟨g3, e3⟩, o3⟩ := hF.v4 h3
    have o3 := o3 hd
    have j8 := HBW.out.trans (hF.bel.mono HBW.out.size)
    have hr := rkindI.below H.out.seen (j8.mono HBB.out)
    have e5 := (hS.got 6 20 (hp 6) rfl (Nat.le_of_ble_eq_true (by kernel_rfl)))
    rw [hF.v6 (hp 6)] at e5
    refine Joy Tryz.eltZ1 _ rfl rfl (.tmp 18) (.tmp 20) rfl w' (val 4) [] B A2 n3 c2 m.seen (hS.got 4 18 h3 rfl (Nat.le_of_ble_eq_true (by kernel_rfl))) o3 e5 hr (fun _ => rfl) (by unfold maxLen; simp; omega) (by simp; omega) ?_
    intro v' w1 ho j6
    rw [List.nil_append] at ho
    obtain ⟨A', c', ev, -⟩ := ho.form
    have b3 : Jom (val 4) = (val 4).ownBlock := by rw [e3]; rfl
    have bv : Jom v' = v'.ownBlock := by rw [ev]; rfl
    have keep : ∀ k b, d k = true -> Jql k ≠ 0 -> Jql k ≠ Jql 4 -> Jom (val k) = some b -> w1.heap[b]? = w'.heap[b]? := fun k b h1 h2 cO h4 => j6.block b (hF.ap.lt k b h1 h2 h4).2 fun e => hF.ap.ap k 4 b h1 h3 h2 (by decide) cO h4 (b3.trans e.symm)
    refine (show WithR _ _ _ _ _ _ _ _ _ _ _ _ _ from { hF with bel := hF.bel.trans (j6.below hF.bel.size fun k hk => (hF.ap.lt 4 k h3 (by decide) (b3.trans hk)).1), ap := hF.ap.step j6.size hF.bel.size fun _ b hb => (j6.own b (bv.symm.trans hb)).elim (fun h => .inr ⟨4, h3, rfl, b3.trans h⟩) fun h => .inl ⟨h, ho.lt b (bv.symm.trans hb)⟩, v4 := fun h => ⟨(hF.v4 h).1, fun h6 => Bool.noConfusion (show true = false from h6)⟩, v7 := fun _ => ⟨h3, ho⟩, v8 := fun h => absurd (hF.v8 h).1 (by rw [hd]; decide), v9 := fun h => ?_ })
    obtain ⟨g, z0, z1, z2, z3, z4, z5, e, hk, h2⟩ := hF.v9 h
    exact ⟨g, z0, z1, z2, z3, z4, z5, e, (keep 9 g h (by decide) (by decide) (by rw [e]; rfl)).trans hk, fun h' => absurd (hF.v8 (h2 h').1).1 (by rw [hd]; decide)⟩
   ·have e1 := hS.res 1 15 (hp 1)
    have e2 := hS.res 3 17 (hp 3)
    have e3 := hS.res 7 21 (hp 7)
    rw [hF.v1 (hp 1)] at e1
    rw [hF.v3 (hp 3)] at e2
    have h7 := hp 7
    obtain ⟨A, c, e7, -⟩ := (hF.v7 h7).2.form
    rw [e7] at e3
    refine Xa (v := .agg #[.bool ng, .slice A7 l7 d7, .slice A8 l8 d8, .slice A1 n4 c1, .slice A m.seen.length c, .slice none 0 0]) _ rfl rfl ?_ (show WithR _ _ _ _ _ _ _ _ _ _ _ _ _ from { hF with ap := hF.ap.pure hF.bel.size rfl, v8 := fun _ => ⟨h7, by show _ = Value.agg #[.bool ng, .slice A7 l7 d7, .slice A8 l8 d8, .slice A1 n4 c1, val 7, .slice none 0 0]; rw [e7]; rfl⟩, v9 := fun h => ?_ })
    ·clear hF hS hd hp
     go_simp
    obtain ⟨g, z0, z1, z2, z3, z4, z5, e, hk, h2⟩ := hF.v9 h
    exact ⟨g, z0, z1, z2, z3, z4, z5, e, hk, fun h' => absurd (h2 h').1 (by rw [hd]; decide)⟩
   ·have hG := hF.next (Jb w' (.cells #[.bool false, .slice none 0 0, .slice none 0 0, .slice none 0 0, .slice none 0 0, .slice none 0 0] 31))
    refine Xa (v := .pointer (some ⟨w'.heap.size, 0, none⟩)) (w2 := w'.alloc (.cells #[.bool false, .slice none 0 0, .slice none 0 0, .slice none 0 0, .slice none 0 0, .slice none 0 0] 31)) _ rfl rfl ?_ (show WithR _ _ _ _ _ _ _ _ _ _ _ _ _ from { hG with ap := hF.ap.step (Jb w' _).size hF.bel.size fun _ b hb => .inl (by have hb : some w'.heap.size = some b := hb; have hb := Option.some.inj hb; rw [World.size_alloc]; omega), v9 := fun _ => ⟨_, _, _, _, _, _, _, rfl, Blk.new _ _ _, fun h => absurd (hF.v10 h) (by rw [hd]; decide)⟩, v10 := fun _ => rfl })
    clear hG hF hS hd hp
    go_simp
   ·have aM := hp 9
    have bM := hp 8
    obtain ⟨g, z0, z1, z2, z3, z4, z5, e12, hk, -⟩ := hF.v9 aM
    obtain ⟨h7, e8⟩ := hF.v8 bM
    obtain ⟨A, c, e7, -⟩ := (hF.v7 h7).2.form
    have e8' := e8
    rw [e7] at e8'
    have b12 : Jom (val 9) = some g := by rw [e12]; rfl
    have hg := (hF.ap.lt 9 g aM (by decide) b12).1
    have nob : ∀ k, d k = true -> Jql k ≠ 0 -> Jql k ≠ 2 -> Jom (val k) ≠ some g := fun k h1 h2 h3 h4 => hF.ap.ap k 9 g h1 aM h2 (by decide) h3 h4 b12
    refine Jde _ rfl rfl _ _ _ rfl rfl g #[.bool ng, .slice A7 l7 d7, .slice A8 l8 d8, .slice A1 n4 c1, .slice A m.seen.length c, .slice none 0 0] _ ((hS.got 9 9 aM rfl (Nat.le_of_ble_eq_true (by kernel_rfl))).trans e12) ((hS.got 8 22 bM rfl (Nat.le_of_ble_eq_true (by kernel_rfl))).trans e8') _ hk (by kernel_rfl) rfl (by simp [Value.oneCell']) fun w2 j9 aY => ?_
    refine (show WithR _ _ _ _ _ _ _ _ _ _ _ _ _ from { hF with bel := hF.bel.trans (aY.below hF.bel.size hg), ap := (hF.ap.hi aY.size).pure (nt hF.bel.size aY.size) rfl, v4 := fun h => ⟨(hF.v4 h).1, fun h0 => absurd (show d 7 = false from h0) (by rw [h7]; decide)⟩, v7 := fun h => ⟨(hF.v7 h).1, (hF.v7 h).2.loc fun k hk => aY.block k ((hF.v7 h).2.lt k hk) fun e => nob 7 h (by decide) (by decide) (by rw [<- e, e7]; rw [e7] at hk; exact hk)⟩, v9 := fun _ => ⟨g, _, _, _, _, _, _, e12, j9, fun _ => ⟨bM, e8'⟩⟩, v10 := fun _ => aM })
  intro d val w' hF hd
  simp only [Exit.then, Jd7, Act.put, List.setIfInBounds_toArray, List.set_cons_succ, List.set_cons_zero]
  refine ‹∀ a' w', Met _ a' w' -> _› _ _ ?_
  go_meet
  exact hF.end_ hd
 case rest =>
  obtain ⟨g, rfl, ⟨Z, bF⟩, cA⟩ := hcut
  obtain ⟨S, C, G, Hh, bk, hs, hc, h1, h2, h3, h4, h5⟩ := bF
  obtain ⟨x, hx⟩ : ∃ x, m.seen[cl]? = some x := ⟨_, List.getElem?_eq_getElem (by have := HW.out; omega)⟩
  obtain ⟨AS, nS, cS⟩ := S
  simp only [SW.v] at bk hs
  obtain ⟨gs, rfl⟩ := hs.blk (show 0 < m.seen.length by have := HW.out; omega)
  obtain rfl : nS = n3 := by
   obtain ⟨A', c', e, -⟩ := hs.1.form
   injection e with _ e
   have := HW.out
   omega
  have dD := hs.cell hx
  have eJ := hs.frozen cl
  unfold zv at dD
  obtain ⟨x0, x1, x2, x3, x4, x5⟩ := bk.c6
  have dQ := HN.out.seen x (List.mem_of_getElem? hx)
  have cB := Jfv (x := x + by_) (by omega) (by omega)
  obtain ⟨y, hy⟩ : ∃ y, x + by_ = y := ⟨_, rfl⟩
  rw [hy] at cB
  have bX : IntKind.i64.wrap y = y := (IntWalk.i64_left y).trans cB
  have gD : (cl : Int) < (nS : Int) := by omega
  have fD : Zt m.seen (cl : Int) by_ = m.seen.set cl y := by rw [Jqd hx, hy]
  have HBS := lh fD
  have HDP := lh (DocP.setSeen bk hs hc h1 h2 h3 h4 h5 cl y)
  have HBC := lh cA
  have HGS := lh (show W.heap.size <= gs from h5 gs ((h4 gs).2 (.inr (.inl ((hs.2 gs).2 rfl)))))
  clear fD cA bk hs hc h1 h2 h3 h4 h5 hx dQ
  go_upto_region 2 with fail
  go_cut [9] (fun v wc => v = .pointer (some ⟨g, 0, none⟩) /\ DocP W.heap.size wc g (.bool ng) (.slice A7 l7 d7) (.slice A8 l8 d8) (.slice A1 n4 c1) (Zt m.seen (cl : Int) by_) [] Z /\ Below W.heap.size W wc)
  case first =>
   refine Jo4 11 (fun i => ([.pointer (some ⟨g, 4, none⟩), .slice (some ⟨gs, 0, none⟩) nS cS, .int .i64 (cl : Int), .pointer (some ⟨g, 4, none⟩), .slice (some ⟨gs, 0, none⟩) nS cS, .int .i64 (cl : Int), .pointer (some ⟨gs, cl, none⟩), .int .i64 x, .int .i64 by_, .int .i64 y, .pointer (some ⟨gs, cl, none⟩)] : List Value).getD i undef) (wc.drew.setCell ⟨gs, cl, none⟩ (.int .i64 y)) (by kernel_rfl) (by kernel_rfl) (by kernel_rfl) (by kernel_rfl) ?_ ?_ [some 23, some 24, some 25, some 26, some 27, some 28, some 29, some 30, some 31, some 32, some 33, none] rfl ?_
   ·refine ⟨⟨⟨⟨⟨⟨⟨⟨⟨⟨⟨trivial, ?_⟩, ?_⟩, ?_⟩, ?_⟩, ?_⟩, ?_⟩, ?_⟩, ?_⟩, ?_⟩, ?_⟩, ?_⟩ <;> intro d a' hS hp
    ·have e1 : a'.tmps[9]?.getD undef = .pointer (some ⟨g, 0, none⟩) := hS.arg 9
     refine ⟨_, rfl, .inl ⟨rfl, (show _ = Result.ok (Next.value (.pointer (some ⟨g, 4, none⟩))) _ from ?_)⟩⟩
     clear hS hp
     go_simp
    ·have e1 : a'.tmps[23]?.getD undef = .pointer (some ⟨g, 4, none⟩) := hS.res 0 23 (hp 0)
     refine ⟨_, rfl, .inl ⟨rfl, (show _ = Result.ok (Next.value (.slice (some ⟨gs, 0, none⟩) nS cS)) _ from ?_)⟩⟩
     clear hS hp
     go_simp
    ·have e1 : a'.tmps[2]?.getD undef = .int .i64 (cl : Int) := hS.arg 2
     refine ⟨_, rfl, .inl ⟨rfl, (show _ = Result.ok (Next.value (.int .i64 (cl : Int))) _ from ?_)⟩⟩
     clear hS hp
     go_simp
    ·have e1 : a'.tmps[9]?.getD undef = .pointer (some ⟨g, 0, none⟩) := hS.arg 9
     refine ⟨_, rfl, .inl ⟨rfl, (show _ = Result.ok (Next.value (.pointer (some ⟨g, 4, none⟩))) _ from ?_)⟩⟩
     clear hS hp
     go_simp
    ·have e1 : a'.tmps[26]?.getD undef = .pointer (some ⟨g, 4, none⟩) := hS.res 3 26 (hp 3)
     refine ⟨_, rfl, .inl ⟨rfl, (show _ = Result.ok (Next.value (.slice (some ⟨gs, 0, none⟩) nS cS)) _ from ?_)⟩⟩
     clear hS hp
     go_simp
    ·have e1 : a'.tmps[2]?.getD undef = .int .i64 (cl : Int) := hS.arg 2
     refine ⟨_, rfl, .inl ⟨rfl, (show _ = Result.ok (Next.value (.int .i64 (cl : Int))) _ from ?_)⟩⟩
     clear hS hp
     go_simp
    ·have e1 : a'.tmps[27]?.getD undef = .slice (some ⟨gs, 0, none⟩) nS cS := hS.res 4 27 (hp 4)
     have e2 : a'.tmps[28]?.getD undef = .int .i64 (cl : Int) := hS.res 5 28 (hp 5)
     refine ⟨_, rfl, .inl ⟨rfl, (show _ = Result.ok (Next.value (.pointer (some ⟨gs, cl, none⟩))) _ from ?_)⟩⟩
     clear hS hp
     go_simp
    ·have e1 : a'.tmps[29]?.getD undef = .pointer (some ⟨gs, cl, none⟩) := hS.res 6 29 (hp 6)
     refine ⟨_, rfl, .inl ⟨rfl, (show _ = Result.ok (Next.value (.int .i64 x)) _ from ?_)⟩⟩
     clear hS hp
     go_simp
    ·have e1 : a'.tmps[3]?.getD undef = .int .i64 by_ := hS.arg 3
     refine ⟨_, rfl, .inl ⟨rfl, (show _ = Result.ok (Next.value (.int .i64 by_)) _ from ?_)⟩⟩
     clear hS hp
     go_simp
    ·have e1 : a'.tmps[30]?.getD undef = .int .i64 x := hS.res 7 30 (hp 7)
     have e2 : a'.tmps[31]?.getD undef = .int .i64 by_ := hS.res 8 31 (hp 8)
     refine ⟨_, rfl, .inl ⟨rfl, (show _ = Result.ok (Next.value (.int .i64 y)) _ from ?_)⟩⟩
     clear hS hp
     go_simp
    ·have e1 : a'.tmps[24]?.getD undef = .slice (some ⟨gs, 0, none⟩) nS cS := hS.res 1 24 (hp 1)
     have e2 : a'.tmps[25]?.getD undef = .int .i64 (cl : Int) := hS.res 2 25 (hp 2)
     refine ⟨_, rfl, .inl ⟨rfl, (show _ = Result.ok (Next.value (.pointer (some ⟨gs, cl, none⟩))) _ from ?_)⟩⟩
     clear hS hp
     go_simp
   ·intro d a' hS hd
    have e1 : a'.tmps[33]?.getD undef = .pointer (some ⟨gs, cl, none⟩) := hS.res 10 33 (hd 10 (by decide)) rfl (by kernel_rfl)
    have e2 : a'.tmps[32]?.getD undef = .int .i64 y := hS.res 9 32 (hd 9 (by decide)) rfl (by kernel_rfl)
    refine ⟨_, rfl, rfl, .inl ⟨?_, rfl⟩⟩
    clear hS hd
    go_simp
   simp only [Exit.then, Jd7, Act.put, List.setIfInBounds_toArray, List.set_cons_succ, List.set_cons_zero]
   refine ‹∀ a' w', Met _ a' w' -> _› _ _ ?_
   go_meet
   rw [HBS.out]
   exact ⟨rfl, HDP.out, (show Below W.heap.size W wc.drew from Jw HBC.out 1).setCell HGS.out _⟩
  case rest =>
   obtain ⟨rfl, bF, dE⟩ := hcut
   rename World => w1
   clear HDP HBS HBC dD eJ x0 x1 x2 x3 x4 x5 cB bX gD hy HGS
   have gE := HBW.out
   have HDP := lh bF
   have HBC := lh dE
   have B1' := lh B1.out
   have fW := B1.out.lt
   obtain ⟨CS, dU⟩ : ∃ CS, (Jn m row cl by_).counts = CS := ⟨_, rfl⟩
   have dF : ∀ j, CS[j]? = (m.counts[j]?).map fun t => if cl = j then Zs t row by_ else t := fun j => by rw [<- dU]; exact Jgf m.counts row cl by_ j
   have fE : CS.length = nS := by
    rw [<- dU]
    show (m.counts.set _ _).length = nS
    rw [List.length_set]
    exact HW.out.2.2.1
   have HCS := lh dU
   have HGET := lh (And.intro dF fE)
   clear bF dE dU dF fE gE
   go_wp2_with fail
   go_loopw [10] (fun p wr => ∃ (k : Nat) (Z : Nat -> Prop), k <= nS /\ p = .int .i64 (k : Int) /\ DocP W.heap.size wr g (.bool ng) (.slice A7 l7 d7) (.slice A8 l8 d8) (.slice A1 n4 c1) (Zt m.seen (cl : Int) by_) (CS.take k) Z /\ Below W.heap.size W wr) (fun p _ => nS - (intOf p).toNat)
   case atStart => exact ⟨0, Z, by omega, rfl, HDP.out, HBC.out⟩
   case round =>
    clear HDP HBC
    obtain ⟨k, Z, hk, rfl, bF, aN⟩ := hrel
    rename World => wr
    have j8 := HBW.out.trans (aN.mono HBW.out.size)
    have b0' := B0.out.below aN bC
    obtain ⟨x0, x1, x2, x3, x4, x5⟩ := b0'.c6
    by_cases aV : k < nS
    ·as_aux_lemma =>
     have k1 : (k : Int) < (nS : Int) := by omega
     obtain ⟨t, ht⟩ : ∃ t, m.counts[k]? = some t := ⟨_, List.getElem?_eq_getElem (by have := HW.out; omega)⟩
     obtain ⟨ad, A', n', c', rfl, gM, cP, bO⟩ := H.out.counts.at_ ht
     have bP := Qg (j8.mono HBB.out) cP gM
     have aE := HN.out.fits t (List.mem_of_getElem? ht)
     have bG : t.length = n4 := by rw [aE.1]; exact HW.out.1
     obtain rfl : n' = n4 := by rw [<- bG]; exact (ReadsS.len bO).symm
     obtain ⟨T, hT⟩ : ∃ T, (if cl = k then Zs t row by_ else t) = T := ⟨_, rfl⟩
     have fF : CS[k]? = some T := by rw [HGET.out.1, ht]; exact congrArg some hT
     have fG : T.length = n' := by
      rw [<- hT]
      split
      ·rw [Yn, bG, HW.out.2.2.2]
       omega
      exact bG
     have HRR := lh bO
     have HCL := lh (HN.out.nums t (List.mem_of_getElem? ht))
     have HKT := lh (And.intro ht (And.intro bG (And.intro fF (And.intro fG hT))))
     have HFIT := lh aE
     have HBR := lh aN
     have HBW2 := lh j8
     have HDP := lh bF
     have B0' := lh b0'
     have bQ := b0'.lt
     have aO := gM
     clear cP bO ht bG aE aN j8 bF b0' gM fF fG hT
     go_wp2_with fail
     go_loopw [11, 12] (fun v p w2 => ∃ c : Nat, c <= n' /\ p = .int .i64 (c : Int) /\ Jq0 wr.heap.size w2 v c (T.take c) /\ Below wr.heap.size wr w2) (fun _ p _ => n' - (intOf p).toNat)
     case atStart => exact ⟨0, by omega, rfl, ⟨_, _, _, rfl, Nest.nil _ _ _, fun _ h => h.elim⟩, Below.refl _ _⟩
     case round =>
      obtain ⟨c, hc, rfl, ⟨AV, cV, S2, rfl, gV, gQ⟩, j9⟩ := hrel
      rename World => w2
      clear x0 x1 x2 x3 x4 x5
      have b0'' := B0'.out.below j9 bQ
      obtain ⟨x0, x1, x2, x3, x4, x5⟩ := b0''.c6
      have aF : B <= wr.heap.size := nt HBB.out HBW2.out.size
      have aP := Qg (j9.mono aF) bP aO
      by_cases cE : c < n'
      ·as_aux_lemma =>
       have k2 : (c : Int) < (n' : Int) := by omega
       obtain ⟨j0, j7⟩ : ∃ j0, t[c]? = some j0 := ⟨_, List.getElem?_eq_getElem (by have := HKT.out.2.1; omega)⟩
       obtain ⟨ad2, A5, n5, c5, rfl, y9, gY, bH⟩ := HRR.out.at_ j7
       obtain ⟨ad4, r, rfl, gU, hr, dG⟩ := H4.out.at_ (k := c) cE
       have gP := HBW2.out.trans (j9.mono HBW2.out.size)
       have aQ := Qg (gP.mono HBB.out) gY y9
       have aD := Qg (gP.mono HBB.out) dG gU
       have cI : n5 <= 12 /\ 1 <= n5 := by have := (HCL.out j0 (List.mem_of_getElem? j7)).2.2.2; have := ReadsI.len bH; omega
       have aR := Reads.alloc (rkindI.below bH (gP.mono HBB.out)) (nt HBB.out gP.size) (.cells #[] 3)
       have dH : j0.length = n5 := ReadsI.len bH
       have bK : m.words[c]? = some (n5 : Int) := by
        have e := HFIT.out.2 c j0 (m.words[c]'(by have := HW.out; omega)) j7 (List.getElem?_eq_getElem _)
        rw [List.getElem?_eq_getElem (by have := HW.out; omega), <- e, dH]
       have gL := HRO.out.2 c r _ hr bK
       obtain ⟨E, hE⟩ : ∃ E, (if cl = k then Zt j0 r by_ else j0) = E := ⟨_, rfl⟩
       have fH : T[c]? = some E := by
        rw [<- HKT.out.2.2.2.2, <- hE]
        split
        ·unfold Zs
         rw [List.getElem?_zipWith, j7, hr]
        exact j7
       have bI : T.take (c + 1) = T.take c ++ [E] := Ud fH
       have HRC := lh aR
       have HE := lh hE
       have HTK := lh bI
       have HNE := lh gV
       have HLT := lh (show (T.take c).length = c by rw [List.length_take]; have := HKT.out.2.2.2.1; omega)
       have HO := lh (Jpb w2)
       have HB2 := lh j9
       have HCB := lh (HCL.out j0 (List.mem_of_getElem? j7)).1
       have bD := Jb w2 (.cells #[] 3)
       obtain ⟨z0, z1, z2, z3, z4, z5⟩ := (b0''.below bD b0''.lt).c6
       have eK : B <= w2.heap.size := nt aF j9.size
       have bR := Qg (bD.mono eK) aP aO
       have bS := Qg (bD.mono eK) aQ y9
       have HNL := lh (show ∀ x, S2 x -> x < w2.heap.size from fun x hx => HNE.out.lt (Js 3 zv) hx)
       have HNO := lh (show ∀ x, (Value.slice AV c cV).ownBlock = some x -> S2 x from by obtain ⟨rl, F1, q1, q2, q3, q4, q5, q6, q7⟩ := HNE.out; exact q6)
       clear bH gY y9 gP aR bI gV j7 j9 b0'' bD dG hr bK fH hE
       go_upto_region 11 with (at_builtin; refine Jnx Tryz.eltZ1 rfl (.tmp 48) (.tmp 56) rfl (w2.alloc (.cells #[] 3)) _ [] B A5 n5 c5 j0 rfl HO.out rfl HRC.out (fun _ => rfl) (by unfold maxLen; simp; omega) (by simp; omega) ?_; intro v' w3 cR cT; obtain ⟨A6, c6, rfl, cU, bE, bT⟩ := Jpf cR cT; have HOC := lh cU; have HFR := lh bE; have HB3 := lh bT; clear cR cT cU bE bT z0 z1 z2 z3 z4 z5 x0 x1 x2 x3 x4 x5 bR bS aP aQ)
       subst dH
       have dI := Qg (HB3.out.mono eK) aD gU
       by_cases dT : cl = k
       case neg =>
        obtain rfl : j0 = E := by rw [<- HE.out, if_neg dT]
        have q1 : ((k : Int) == (cl : Int)) = false := by simp; omega
        have q2 : ¬ (k : Int) = (cl : Int) := by omega
        have HNE5 := lh (And.intro (HNE.out.next (Js 3 zv) HB3.out) (NRow.of HOC.out))
        have HB5 := lh (HB2.out.trans (HB3.out.mono HB2.out.size))
        clear dI aD
        go_wp2_with (at_builtin; refine Jot (Js 3 zv) Tryz.eltZ2 rfl (.tmp 83) (.tmp 85) rfl S2 _ w3 _ (T.take c) _ _ _ j0 rfl HNE5.out.1 HNE5.out.2 (fun x hx aS => by have := HFR.out x hx; have := HNL.out x aS; omega) rfl (by rw [HLT.out]; omega) ?_; intro v4 w4 S4 o0 p9 j6; have gW := HB5.out.trans (j6.below HB5.out.size (fun x hx => gQ x (HNO.out x hx))); rw [<- HTK.out] at o0; obtain ⟨AW4, cW4, aC⟩ := o0.form; rw [show (T.take (c + 1)).length = c + 1 by rw [List.length_take]; have := HKT.out.2.2.2.1; omega] at aC; subst aC; have HN4 := lh (And.intro o0 gW); have HS4 := lh (show ∀ x, S4 x -> wr.heap.size <= x from fun x hx => by rcases p9 x hx with h | h | h; exact gQ x h; exact nt HB2.out.size (HFR.out x h); exact nt HB5.out.size h); clear o0 p9 j6 gW)
        exact ⟨⟨c + 1, by omega, by go_num, ⟨_, _, _, rfl, HN4.out.1, HS4.out⟩, HN4.out.2⟩, by simp [intOf]; omega⟩
       subst dT
       have q1 : ((cl : Int) == (cl : Int)) = true := by simp
       by_cases dV : 0 <= r
       case neg =>
        obtain rfl : j0 = E := by rw [<- HE.out, if_pos rfl]; unfold Zt; rw [if_neg dV]
        have q3 : decide (0 <= r) = false := decide_eq_false dV
        have HNE5 := lh (And.intro (HNE.out.next (Js 3 zv) HB3.out) (NRow.of HOC.out))
        have HB5 := lh (HB2.out.trans (HB3.out.mono HB2.out.size))
        clear aD
        go_wp2_with (at_builtin; refine Jot (Js 3 zv) Tryz.eltZ2 rfl (.tmp 83) (.tmp 85) rfl S2 _ w3 _ (T.take c) _ _ _ j0 rfl HNE5.out.1 HNE5.out.2 (fun x hx aS => by have := HFR.out x hx; have := HNL.out x aS; omega) rfl (by rw [HLT.out]; omega) ?_; intro v4 w4 S4 o0 p9 j6; have gW := HB5.out.trans (j6.below HB5.out.size (fun x hx => gQ x (HNO.out x hx))); rw [<- HTK.out] at o0; obtain ⟨AW4, cW4, aC⟩ := o0.form; rw [show (T.take (c + 1)).length = c + 1 by rw [List.length_take]; have := HKT.out.2.2.2.1; omega] at aC; subst aC; have HN4 := lh (And.intro o0 gW); have HS4 := lh (show ∀ x, S4 x -> wr.heap.size <= x from fun x hx => by rcases p9 x hx with h | h | h; exact gQ x h; exact nt HB2.out.size (HFR.out x h); exact nt HB5.out.size h); clear o0 p9 j6 gW)
        exact ⟨⟨c + 1, by omega, by go_num, ⟨_, _, _, rfl, HN4.out.1, HS4.out⟩, HN4.out.2⟩, by simp [intOf]; omega⟩
       obtain ⟨rN, rfl⟩ := Int.eq_ofNat_of_zero_le dV
       have q3 : decide (0 <= (rN : Int)) = true := decide_eq_true dV
       obtain ⟨gn, rfl⟩ := (NRow.of HOC.out).blk (show 0 < j0.length by omega)
       obtain ⟨x5, dJ⟩ : ∃ x5, j0[rN]? = some x5 := ⟨_, List.getElem?_eq_getElem (by omega)⟩
       have dD := (NRow.of HOC.out).cell dJ
       have eJ := (NRow.of HOC.out).frozen rN
       unfold zv at dD
       have dQ := HCB.out x5 (List.mem_of_getElem? dJ)
       obtain ⟨y5, dL⟩ : ∃ y5, x5 + by_ = y5 := ⟨_, rfl⟩
       have cB := Jfv (x := y5) (by omega) (by omega)
       have bX : IntKind.i64.wrap y5 = y5 := (IntWalk.i64_left y5).trans cB
       obtain rfl : j0.set rN y5 = E := by rw [<- HE.out, if_pos rfl, Jqd dJ, dL]
       have k3 : (rN : Int) < (j0.length : Int) := by omega
       have gF : w2.heap.size <= gn := HFR.out gn rfl
       have HST := lh (NRow.store (w := w3.drew) (S := fun k => (Value.slice (some ⟨gn, 0, none⟩) j0.length c6).ownBlock = some k) ((Js 3 zv).loc (NRow.of HOC.out) zd fun _ _ => rfl) rN y5)
       have HX5 := lh dJ
       clear aD dQ dJ
       go_upto_region 12 with fail
       go_cut [13] (fun v wc => v = .slice (some ⟨gn, 0, none⟩) j0.length c6 /\ NRow 3 zv wc (fun k => (Value.slice (some ⟨gn, 0, none⟩) j0.length c6).ownBlock = some k) (.slice (some ⟨gn, 0, none⟩) j0.length c6) (j0.set rN y5) /\ Below w2.heap.size w2 wc)
       case first =>
        refine Jo4 15 (fun i => ([.slice (some ⟨gn, 0, none⟩) j0.length c6, (.slice (some ad4) n' c4), .int .i64 (c : Int), .pointer (some (ad4.add c)), .int .i64 (rN : Int), .slice (some ⟨gn, 0, none⟩) j0.length c6, (.slice (some ad4) n' c4), .int .i64 (c : Int), .pointer (some (ad4.add c)), .int .i64 (rN : Int), .pointer (some ⟨gn, rN, none⟩), .int .i64 x5, .int .i64 by_, .int .i64 y5, .pointer (some ⟨gn, rN, none⟩)] : List Value).getD i undef) (w3.drew.setCell ⟨gn, rN, none⟩ (.int .i64 y5)) (by kernel_rfl) (by kernel_rfl) (by kernel_rfl) (by kernel_rfl) ?_ ?_ [some 68, some 69, some 70, some 71, some 72, some 73, some 74, some 75, some 76, some 77, some 78, some 79, some 80, some 81, some 82, none] rfl ?_
        ·refine ⟨⟨⟨⟨⟨⟨⟨⟨⟨⟨⟨⟨⟨⟨⟨trivial, ?_⟩, ?_⟩, ?_⟩, ?_⟩, ?_⟩, ?_⟩, ?_⟩, ?_⟩, ?_⟩, ?_⟩, ?_⟩, ?_⟩, ?_⟩, ?_⟩, ?_⟩ <;> intro d a' hS hp
         ·have e1 : a'.tmps[13]?.getD undef = .slice (some ⟨gn, 0, none⟩) j0.length c6 := hS.arg 13
          refine ⟨_, rfl, .inl ⟨rfl, (show _ = Result.ok (Next.value (.slice (some ⟨gn, 0, none⟩) j0.length c6)) _ from ?_)⟩⟩
          clear hS hp
          go_simp
         ·have e1 : a'.tmps[1]?.getD undef = (.slice (some ad4) n' c4) := hS.arg 1
          refine ⟨_, rfl, .inl ⟨rfl, (show _ = Result.ok (Next.value (.slice (some ad4) n' c4)) _ from ?_)⟩⟩
          clear hS hp
          go_simp
         ·have e1 : a'.tmps[12]?.getD undef = .int .i64 (c : Int) := hS.arg 12
          refine ⟨_, rfl, .inl ⟨rfl, (show _ = Result.ok (Next.value (.int .i64 (c : Int))) _ from ?_)⟩⟩
          clear hS hp
          go_simp
         ·have e1 : a'.tmps[69]?.getD undef = (.slice (some ad4) n' c4) := hS.res 1 69 (hp 1)
          have e2 : a'.tmps[70]?.getD undef = .int .i64 (c : Int) := hS.res 2 70 (hp 2)
          refine ⟨_, rfl, .inl ⟨rfl, (show _ = Result.ok (Next.value (.pointer (some (ad4.add c)))) _ from ?_)⟩⟩
          clear hS hp
          go_simp
         ·have e1 : a'.tmps[71]?.getD undef = .pointer (some (ad4.add c)) := hS.res 3 71 (hp 3)
          refine ⟨_, rfl, .inl ⟨rfl, (show _ = Result.ok (Next.value (.int .i64 (rN : Int))) _ from ?_)⟩⟩
          clear hS hp
          go_simp
         ·have e1 : a'.tmps[13]?.getD undef = .slice (some ⟨gn, 0, none⟩) j0.length c6 := hS.arg 13
          refine ⟨_, rfl, .inl ⟨rfl, (show _ = Result.ok (Next.value (.slice (some ⟨gn, 0, none⟩) j0.length c6)) _ from ?_)⟩⟩
          clear hS hp
          go_simp
         ·have e1 : a'.tmps[1]?.getD undef = (.slice (some ad4) n' c4) := hS.arg 1
          refine ⟨_, rfl, .inl ⟨rfl, (show _ = Result.ok (Next.value (.slice (some ad4) n' c4)) _ from ?_)⟩⟩
          clear hS hp
          go_simp
         ·have e1 : a'.tmps[12]?.getD undef = .int .i64 (c : Int) := hS.arg 12
          refine ⟨_, rfl, .inl ⟨rfl, (show _ = Result.ok (Next.value (.int .i64 (c : Int))) _ from ?_)⟩⟩
          clear hS hp
          go_simp
         ·have e1 : a'.tmps[74]?.getD undef = (.slice (some ad4) n' c4) := hS.res 6 74 (hp 6)
          have e2 : a'.tmps[75]?.getD undef = .int .i64 (c : Int) := hS.res 7 75 (hp 7)
          refine ⟨_, rfl, .inl ⟨rfl, (show _ = Result.ok (Next.value (.pointer (some (ad4.add c)))) _ from ?_)⟩⟩
          clear hS hp
          go_simp
         ·have e1 : a'.tmps[76]?.getD undef = .pointer (some (ad4.add c)) := hS.res 8 76 (hp 8)
          refine ⟨_, rfl, .inl ⟨rfl, (show _ = Result.ok (Next.value (.int .i64 (rN : Int))) _ from ?_)⟩⟩
          clear hS hp
          go_simp
         ·have e1 : a'.tmps[73]?.getD undef = .slice (some ⟨gn, 0, none⟩) j0.length c6 := hS.res 5 73 (hp 5)
          have e2 : a'.tmps[77]?.getD undef = .int .i64 (rN : Int) := hS.res 9 77 (hp 9)
          refine ⟨_, rfl, .inl ⟨rfl, (show _ = Result.ok (Next.value (.pointer (some ⟨gn, rN, none⟩))) _ from ?_)⟩⟩
          clear hS hp
          go_simp
         ·have e1 : a'.tmps[78]?.getD undef = .pointer (some ⟨gn, rN, none⟩) := hS.res 10 78 (hp 10)
          refine ⟨_, rfl, .inl ⟨rfl, (show _ = Result.ok (Next.value (.int .i64 x5)) _ from ?_)⟩⟩
          clear hS hp
          go_simp
         ·have e1 : a'.tmps[3]?.getD undef = .int .i64 by_ := hS.arg 3
          refine ⟨_, rfl, .inl ⟨rfl, (show _ = Result.ok (Next.value (.int .i64 by_)) _ from ?_)⟩⟩
          clear hS hp
          go_simp
         ·have e1 : a'.tmps[79]?.getD undef = .int .i64 x5 := hS.res 11 79 (hp 11)
          have e2 : a'.tmps[80]?.getD undef = .int .i64 by_ := hS.res 12 80 (hp 12)
          refine ⟨_, rfl, .inl ⟨rfl, (show _ = Result.ok (Next.value (.int .i64 y5)) _ from ?_)⟩⟩
          clear hS hp
          go_simp
         ·have e1 : a'.tmps[68]?.getD undef = .slice (some ⟨gn, 0, none⟩) j0.length c6 := hS.res 0 68 (hp 0)
          have e2 : a'.tmps[72]?.getD undef = .int .i64 (rN : Int) := hS.res 4 72 (hp 4)
          refine ⟨_, rfl, .inl ⟨rfl, (show _ = Result.ok (Next.value (.pointer (some ⟨gn, rN, none⟩))) _ from ?_)⟩⟩
          clear hS hp
          go_simp
        ·intro d a' hS hd
         have e1 : a'.tmps[82]?.getD undef = .pointer (some ⟨gn, rN, none⟩) := hS.res 14 82 (hd 14 (by decide)) rfl (by kernel_rfl)
         have e2 : a'.tmps[81]?.getD undef = .int .i64 y5 := hS.res 13 81 (hd 13 (by decide)) rfl (by kernel_rfl)
         refine ⟨_, rfl, rfl, .inl ⟨?_, rfl⟩⟩
         clear hS hd
         go_simp
        simp only [Exit.then, Jd7, Act.put, List.setIfInBounds_toArray, List.set_cons_succ, List.set_cons_zero]
        refine ‹∀ a' w', Met _ a' w' -> _› _ _ ?_
        go_meet
        exact ⟨rfl, HST.out, (show Below w2.heap.size w2 w3.drew from Jw HB3.out 1).setCell gF _⟩
       case rest =>
        obtain ⟨rfl, dK, eL⟩ := hcut
        rename World => w5
        have HNE5 := lh (And.intro (HNE.out.next (Js 3 zv) eL) dK)
        have HB5 := lh (HB2.out.trans (eL.mono HB2.out.size))
        clear dK eL dD eJ dI cB bX
        go_wp2_with (at_builtin; refine Jot (Js 3 zv) Tryz.eltZ2 rfl (.tmp 83) (.tmp 85) rfl S2 _ w5 _ (T.take c) _ _ _ (j0.set rN y5) rfl HNE5.out.1 HNE5.out.2 (fun x hx aS => by have := HFR.out x hx; have := HNL.out x aS; omega) rfl (by rw [HLT.out]; omega) ?_; intro v4 w4 S4 o0 p9 j6; have gW := HB5.out.trans (j6.below HB5.out.size (fun x hx => gQ x (HNO.out x hx))); rw [<- HTK.out] at o0; obtain ⟨AW4, cW4, aC⟩ := o0.form; rw [show (T.take (c + 1)).length = c + 1 by rw [List.length_take]; have := HKT.out.2.2.2.1; omega] at aC; subst aC; have HN4 := lh (And.intro o0 gW); have HS4 := lh (show ∀ x, S4 x -> wr.heap.size <= x from fun x hx => by rcases p9 x hx with h | h | h; exact gQ x h; exact nt HB2.out.size (HFR.out x h); exact nt HB5.out.size h); clear o0 p9 j6 gW)
        go_roundw
        case rel => exact ⟨c + 1, by omega, by go_num, ⟨_, _, _, rfl, HN4.out.1, HS4.out⟩, HN4.out.2⟩
        case measure => simp [intOf]; omega
      as_aux_lemma =>
      obtain rfl : c = n' := by omega
      have k2 : ¬ (c : Int) < (c : Int) := by omega
      have aT : T.take c = T := List.take_of_length_le (by have := HKT.out.2.2.2.1; omega)
      rw [aT] at gV
      have fI := HDP.out.lt
      obtain ⟨S, ⟨AC, nC, cC⟩, G, Hh, bk, hs, cD, h1, h2, h3, h4, h5⟩ := HDP.out
      simp only [SW.v] at bk cD
      have bL := bk.lt
      have hr := Js 3 zv
      have bk2 := bk.below j9 bL
      have fJ := hr.loc hs j9.size fun x hx => j9.block x (hr.lt hs hx)
      have aZ := cD.next (Xt hr _) j9
      have eG : (CS.take k).length <= 1000 := by rw [List.length_take]; omega
      have HTK := lh (Ud HKT.out.2.2.1)
      have HNE := lh gV
      have HC2 := lh (And.intro fJ aZ)
      have HB2 := lh j9
      have BK2 := lh bk2
      have HAP := lh (And.intro h1 (And.intro h2 (And.intro h3 (And.intro (fun k (hk : k = g \/ G k \/ Hh k) => h5 k ((h4 k).2 hk)) (fun k (hk : k = g \/ G k \/ Hh k) => fI k ((h4 k).2 hk))))))
      have HS2 := lh gQ
      have HOW := lh (show ∀ x, (Value.slice AC nC cC).ownBlock = some x -> Hh x from by obtain ⟨rl, F1, q1, q2, q3, q4, q5, q6, q7⟩ := aZ; exact q6)
      obtain ⟨y0, y1, y2, y3, y4, y5⟩ := bk2.c6
      clear aT gV fJ aZ hs cD bk bk2 h1 h2 h3 h4 h5 j9 gQ b0'' hr fI
      go_upto_region 14 with fail
      go_wp2_with (at_builtin; refine Jot (Xt (Js 3 zv) 22) Tryz.eltZ3 rfl (.tmp 88) (.tmp 90) rfl Hh S2 w2 _ (CS.take k) AV c cV T rfl HC2.out.2 HNE.out (fun x hx aS => by have := HS2.out x hx; have := HAP.out.2.2.2.2 x (.inr (.inr aS)); omega) rfl (by omega) ?_; intro v4 w4 S4 o0 p9 j6; obtain ⟨A4', c4', aC⟩ := o0.form; rw [show (CS.take k ++ [T]).length = k + 1 by rw [List.length_append, List.length_take]; have := HGET.out.2; simp; omega] at aC; subst aC; have bk4 := (j6.block g (Nat.lt_of_lt_of_le bL HB2.out.size) fun e => HAP.out.2.2.1 (HOW.out g e.symm)).trans BK2.out; obtain ⟨u0, u1, u2, u3, u4, u5⟩ := Blk.c6 bk4; have f5 := Blk.frozen bk4 5; obtain ⟨Z', eM, -⟩ := DocP.grow BK2.out HC2.out.1 HC2.out.2 HAP.out.1 HAP.out.2.1 HAP.out.2.2.1 HAP.out.2.2.2.1 j6 o0 p9 (fun x hx => ⟨by have := HS2.out x hx; have := HBR.out.size; omega, fun e => by have := HS2.out x hx; have := HAP.out.2.2.2.2 x e; omega⟩) (by have := HBR.out.size; have := HB2.out.size; omega); have gW := (HBR.out.trans ((HB2.out.mono (by have := HBR.out.size; omega)))).trans (j6.below (by have := HBR.out.size; have := HB2.out.size; omega) fun x hx => HAP.out.2.2.2.1 x (.inr (.inr (HOW.out x hx)))); rw [<- HTK.out] at eM; have HP4 := lh (And.intro eM (gW.setCell (HAP.out.2.2.2.1 g (.inl rfl)) (p := ⟨g, 5, none⟩) (.slice A4' (k + 1) c4'))); clear eM gW o0 p9 j6 bk4)
      exact ⟨⟨k + 1, _, by omega, by go_num, HP4.out.1, HP4.out.2⟩, by simp [intOf]; omega⟩
    as_aux_lemma =>
    obtain rfl : k = nS := by omega
    have k1 : ¬ (k : Int) < (k : Int) := by omega
    have aT : CS.take k = CS := List.take_of_length_le (by have := HGET.out.2; omega)
    rw [aT] at bF
    obtain ⟨S, C', G, Hh, bk, hs, cD, h1, h2, h3, h4, h5⟩ := bF
    simp only [SW.v] at bk
    obtain ⟨y0, y1, y2, y3, y4, y5⟩ := bk.c6
    have BR := lh (B1.out.below aN B1.out.lt)
    have hr := Js 3 zv
    have fK : ∀ x, G x -> w.heap.size + 1 < x := fun x hx => by have := h5 x ((h4 x).2 (.inr (.inl hx))); omega
    have fL : ∀ x, Hh x -> w.heap.size + 1 < x := fun x hx => by have := h5 x ((h4 x).2 (.inr (.inr hx))); omega
    have HX := lh (And.intro fK fL)
    have HO := lh (And.intro hs (And.intro cD h1))
    have HB9 := lh j8
    have eH := show w.heap.size <= w.heap.size + 1 by omega
    generalize hgR : w.heap.size + 1 = gR at *
    clear aT hs cD j8 h1 h2 h3 h4 h5 hgR bk fK fL
    go_wp2_with (refine Jr rfl _ (.tmp 8) (.tmp 93) rfl gR #[.bool ng, .slice A7 l7 d7, .slice A8 l8 d8, .slice A1 n4 c1, .slice S.A S.n S.c, .slice C'.A C'.n C'.c] _ rfl rfl _ BR.out (by kernel_rfl) rfl (by simp [Value.oneCell']) ?_; intro w7 cZ dA; have HX7 := lh dA; have HB7 := lh cZ; clear dA cZ x0 x1 x2 x3 x4 x5 y0 y1 y2 y3 y4 y5)
    obtain ⟨p0, p1, p2, p3, p4, p5⟩ := HB7.out.c6
    refine bodyPost_ret (v := .agg #[.bool ng, .slice A7 l7 d7, .slice A8 l8 d8, .slice A1 n4 c1, .slice S.A S.n S.c, .slice C'.A C'.n C'.c]) (by simp [results, Tryz.results69, go_sem, p0, p1, p2, p3, p4, p5]) rfl ?_
    refine ⟨_, rfl, ⟨S, C', G, Hh, rfl, hr.loc HO.out.1 HX7.out.size fun x hx => HX7.out.block x (hr.lt HO.out.1 hx) fun e => by have := HX.out.1 x hx; omega, ?_, fun x hx => ⟨by have := HX.out.1 x hx; omega, HO.out.2.2 x hx⟩, fun x hx => by have := HX.out.2 x hx; omega⟩, HB9.out.trans (HX7.out.below HB9.out.size eH)⟩
    rw [HCS.out]
    exact HO.out.2.1.loc (Xt hr _) HX7.out.size fun x hx => HX7.out.block x (HO.out.2.1.lt (Xt hr _) hx) fun e => by have := HX.out.2 x hx; omega
