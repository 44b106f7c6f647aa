import Derived.Test.YtcoloflmigcphaaGreatDoorBayesH
namespace Go.Proofs.YtcoloflmigcphaaGreatDoor
set_option maxRecDepth 100000
set_option maxHeartbeats 8000000
open Go.RowKit
set_option linter.all false
theorem Jat {m : BM} (h : Jk m = 0) : LikeB (fun _ => True) m m := by
 have hN := Qy h
 exact ⟨hN.cols.1, rfl, rfl, fun i t t' h1 h2 => by
  obtain rfl := Option.some.inj (h1.symm.trans h2)
  exact ⟨rfl, fun j x x' h3 h4 => by rw [Option.some.inj (h3.symm.trans h4)]⟩, ⟨fun _ _ => trivial, fun _ _ _ _ _ _ => trivial⟩, ⟨fun _ _ => trivial, fun _ _ _ _ _ _ => trivial⟩⟩
theorem Za {m : BM} (h : Jk m = 0) : LenB m := by
 have hN := Qy h
 refine ⟨by have := hN.cols; omega, by have := hN.classes; omega, by have := hN.tabs; have := hN.classes; omega, fun t ht => ⟨by have := (hN.fits t ht).1; have := hN.cols; omega, fun o0 hc => by have := (hN.nums t ht o0 hc).2.2.2; omega⟩⟩
theorem Jki (x y : Int) (w : World) : Calls Tryz.prog 111 #[.int .i64 x, .int .i64 y] w (Ret (.int .i64 x) w) := by
 go_enter Tryz.func111, Tryz.ntmps111
 go_wp2
 go_ret
 exact ⟨rfl, Below.refl _ _⟩
theorem Jkd (args : Array Value) (w : World) : (callFunc 111 args).run Tryz.prog w = .ok (.enter 111 args) w := by
 go_simp
theorem Jb2 (X1 X2 X3 : Option Addr) (n1 s1 n2 s2 n3 s3 B : Nat) (m : BM) (A4 : Option Addr) (n4 s4 : Nat) (row : List Int) (cl : Nat) (dl : Int) (w : World) (h : RdB w B ⟨X1, n1, s1⟩ ⟨X2, n2, s2⟩ ⟨X3, n3, s3⟩ m) (h4 : ReadsI w B A4 n4 row) (hB : B <= w.heap.size) (dW : Jk m = 0) (s9 : rowOk m.words row) (dL : cl < n2) (dM : dl = 1 \/ dl = -1) :
  Calls Tryz.prog 67 #[.agg #[.bool (decide (m.smooth.num < 0)), .int .u64 (lo m.smooth.num.natAbs : Int), .string (mo m.smooth.num.natAbs), .int .u64 (lo ((qden m.smooth)) : Int), .string (mo ((qden m.smooth))), .slice X1 n1 s1, .slice X2 n2 s2, .slice X3 n3 s3], .slice A4 n4 s4, .int .i64 (cl : Int), .int .i64 dl] w fun e w' => ∃ v, e = .returned v /\ ModB w.heap.size n1 n2 n3 (Jn m row cl dl) v w' /\ Below w.heap.size w w' := by
 have hN := Qy dW
 have eB : m.words.length = n1 := h.words.len
 have aC : m.seen.length = n2 := h.seen.len
 have j6 : m.counts.length = n3 := ReadsS.len h.counts
 have aD : row.length = n4 := h4.len
 have aV : n4 <= 1000 := by have := s9.1; have := hN.cols; omega
 obtain ⟨b0, b1, hB, hZ⟩ := bx2 w 43 #[.bool (decide (m.smooth.num < 0)), .int .u64 (lo m.smooth.num.natAbs : Int), .string (mo m.smooth.num.natAbs), .int .u64 (lo (qden m.smooth) : Int), .string (mo (qden m.smooth)), .slice X1 n1 s1, .slice X2 n2 s2, .slice X3 n3 s3] 43 #[.bool false, .int .u64 0, .string ⟨#[]⟩, .int .u64 0, .string ⟨#[]⟩, .slice none 0 0, .slice none 0 0, .slice none 0 0]
 go_enter Tryz.func67, Tryz.ntmps67
 go_upto_region 1 with fail
 generalize ((w.alloc (.cells #[.bool (decide (m.smooth.num < 0)), .int .u64 (lo m.smooth.num.natAbs : Int), .string (mo m.smooth.num.natAbs), .int .u64 (lo (qden m.smooth) : Int), .string (mo (qden m.smooth)), .slice X1 n1 s1, .slice X2 n2 s2, .slice X3 n3 s3] 43)).alloc (.cells #[.bool false, .int .u64 0, .string ⟨#[]⟩, .int .u64 0, .string ⟨#[]⟩, .slice none 0 0, .slice none 0 0, .slice none 0 0] 43)) = W at *
 rename B <= w.heap.size => hBB
 have hM := hB.mono hBB
 have HMG := lh (Um 111 Jkd (fun x _ => x) (fun _ => True) (fun x y w _ _ => Jki x y w) X1 X2 X3 n1 s1 n2 s2 n3 s3 X1 X2 X3 n1 s1 n2 s2 n3 s3 B m m W (h.below hM) (h.below hM) (nt hBB hB.size) (Za dW) (Jat dW))
 rw [Jal (fun _ _ => rfl)] at HMG
 have H4 := lh h4
 have HN := lh hN
 have HRO := lh s9
 have HW := lh (And.intro eB (And.intro aC (And.intro j6 aD)))
 have HB1 := lh b1
 have HBW := lh hB
 have HBB := lh hBB
 have HZ := lh hZ.out
 obtain ⟨x0, x1, x2, x3, x4, x5, x6, x7⟩ := b0.c8
 clear h h4 hN dW eB aC j6 aD b0 b1 hB hM hZ s9 hBB
 go_wp2_with fail
 refine HMG.out.mono ?_
 rintro e w1 ⟨v, rfl, ⟨AW, cW, gS, gC, F, G, H, rfl, ho⟩, j9⟩
 have HO := lh ho
 have HB2 := lh j9
 clear ho j9 x0 x1 x2 x3 x4 x5 x6 x7 HMG
 go_upto_region 2 with fail
 have j0 := MgI.new HO.out HB2.out
 generalize w1.alloc (.cells #[.bool (decide (m.smooth.num < 0)), .int .u64 (lo m.smooth.num.natAbs : Int), .string (mo m.smooth.num.natAbs), .int .u64 (lo ((qden m.smooth)) : Int), .string (mo ((qden m.smooth))), .slice AW n1 cW, .slice (some ⟨gS, 0, none⟩) n2 n2, .slice (some ⟨gC, 0, none⟩) n3 n3] 43) = w3 at *
 generalize w1.heap.size = g9 at *
 obtain ⟨x0, x1, x2, x3, x4, x5, x6, x7⟩ := j0.box.c8
 obtain ⟨y, hy⟩ : ∃ y, m.seen[cl]? = some y := ⟨_, List.getElem?_eq_getElem (by have := HW.out; omega)⟩
 obtain ⟨z1, z2⟩ := j0.seen hy
 have cU := HN.out.seen y (List.mem_of_getElem? hy)
 obtain ⟨y', bG⟩ : ∃ y', y + dl = y' := ⟨_, rfl⟩
 have eH : wrap64 (y + dl) = y' := by rw [<- bG]; exact Jfv (by omega) (by omega)
 have dZ := j0.setSeen cl y'
 have bV : m.seen.set cl y' = Zt m.seen cl dl := by
  unfold Zt
  rw [if_pos (by omega), Int.toNat_natCast, List.getD_eq_getElem?_getD, hy, <- bG]
  rfl
 rw [bV] at dZ
 have HST := lh dZ
 have k0 : (cl : Int) < (n2 : Int) := by omega
 clear j0 dZ bV hy cU bG HO HB2
 go_wp2_with fail
 clear x0 x1 x2 x3 x4 x5 x6 x7 z1 z2
 go_loopw [25] (fun p wr => ∃ k : Nat, k <= n4 /\ p = .int .i64 (k : Int) /\ MgI W m.smooth n1 n2 n3 AW cW gS g9 gC F G m.words (Zt m.seen cl dl) (Qt m row cl dl k).counts wr) (fun p _ => n4 - (intOf p).toNat)
 case atStart => exact ⟨0, by omega, rfl, by rw [Jff]; exact HST.out⟩
 case round =>
  obtain ⟨k, hk, rfl, j0⟩ := hrel
  rename World => wr
  clear HST eH
  by_cases bH : k < n4
  ·as_aux_lemma =>
   have k1 : (k : Int) < (n4 : Int) := by omega
   obtain ⟨ad, x, rfl, y9, hx, hc⟩ := H4.out.at_ bH
   have bW := Qg ((HBW.out.trans (j0.bel.mono HBW.out.size)).mono HBB.out) hc y9
   obtain ⟨t, ht⟩ : ∃ t, m.counts[cl]? = some t := ⟨_, List.getElem?_eq_getElem (by have := HW.out; have := HN.out.tabs; omega)⟩
   have bI := HN.out.fits t (List.mem_of_getElem? ht)
   have bX := HRO.out.1
   obtain ⟨o0, p9⟩ : ∃ o0, t[k]? = some o0 := ⟨_, List.getElem?_eq_getElem (by have := HW.out; omega)⟩
   obtain ⟨nw, aW⟩ : ∃ nw, m.words[k]? = some nw := ⟨_, List.getElem?_eq_getElem (by have := HW.out; omega)⟩
   have aO := bI.2 k o0 nw p9 aW
   have bY := HRO.out.2 k x nw hx aW
   obtain ⟨e1, e2, e3⟩ := Jfg (c := cl) dl ht p9 hx (by omega)
   have aF := HN.out.nums t (List.mem_of_getElem? ht) o0 (List.mem_of_getElem? p9)
   by_cases bZ : 0 <= x
   ·obtain ⟨xn, rfl⟩ := Int.eq_ofNat_of_zero_le bZ
    have cA : xn < o0.length := by omega
    obtain ⟨v, hv⟩ : ∃ v, o0[xn]? = some v := ⟨_, List.getElem?_eq_getElem cA⟩
    obtain ⟨u, k9, z, k8, d1, d2, d3, d4⟩ := j0.deep e2 e3 hv
    have cZ := aF.1 v (List.mem_of_getElem? hv)
    obtain ⟨v', bJ⟩ : ∃ v', v + dl = v' := ⟨_, rfl⟩
    have dN : wrap64 (v + dl) = v' := by rw [<- bJ]; exact Jfv (by omega) (by omega)
    have dX := j0.setCount e2 e3 d1 d2 xn v'
    have cB : o0.set xn v' = Zt o0 (xn : Int) dl := by
     unfold Zt
     rw [if_pos (by omega), Int.toNat_natCast, List.getD_eq_getElem?_getD, hv, <- bJ]
     rfl
    rw [cB] at dX
    have hE : (Qt m row cl dl (k + 1)).counts = (Qt m row cl dl k).counts.set cl ((Yz t row dl k).set k (Zt o0 (xn : Int) dl)) := by rw [e1]
    rw [<- hE] at dX
    have HSET := lh dX
    obtain ⟨x0, x1, x2, x3, x4, x5, x6, x7⟩ := j0.box.c8
    obtain ⟨T, hT⟩ : ∃ T, Yz t row dl k = T := ⟨_, rfl⟩
    rw [hT] at d1 e3
    have q1 : (cl : Int) < (n3 : Int) := by have := HW.out; have := HN.out.tabs; omega
    have aX : k < T.length := (List.getElem?_eq_some_iff.1 e3).1
    obtain ⟨nT, eD⟩ : ∃ nT, T.length = nT := ⟨_, rfl⟩
    obtain ⟨nc, cD⟩ : ∃ nc, o0.length = nc := ⟨_, rfl⟩
    rw [eD] at d1 aX
    rw [cD] at d2 cA
    have q2 : (k : Int) < (nT : Int) := by omega
    have q3 : (xn : Int) < (nc : Int) := by omega
    clear j0 dX hc y9 hx ht bI p9 aW aO bY e1 e2 e3 aF hv cZ bJ cB hE hT eD cD bX
    go_wp2
    exact ⟨⟨k + 1, by omega, by go_num, HSET.out⟩, by simp [intOf]; omega⟩
   have hE : (Qt m row cl dl (k + 1)).counts = (Qt m row cl dl k).counts := by
    rw [e1]
    show (Qt m row cl dl k).counts.set cl ((Yz t row dl k).set k (Zt o0 x dl)) = _
    unfold Zt
    rw [if_neg bZ, Jge e3, Jge e2]
   rw [<- hE] at j0
   have HMG := lh j0
   clear j0 hc y9 hx ht bI p9 aW aO bY e1 e2 e3 aF hE bX
   go_wp2
   exact ⟨⟨k + 1, by omega, by go_num, HMG.out⟩, by simp [intOf]; omega⟩
  as_aux_lemma =>
  obtain rfl : k = n4 := by omega
  have k1 : ¬ (k : Int) < (k : Int) := by omega
  have aE : (Qt m row cl dl k).counts = (Jn m row cl dl).counts := by
   rw [<- HW.out.2.2.2, Jfh]
   by_cases hc : cl < m.counts.length
   ·rw [List.getD_eq_getElem?_getD, List.getElem?_eq_getElem hc]
    have := (HN.out.fits _ (List.getElem_mem hc)).1
    have := HRO.out.1
    show (m.counts[cl]).length <= _
    omega
   rw [List.getD_eq_getElem?_getD, List.getElem?_eq_none (by omega)]
   simp
  rw [aE] at j0
  obtain ⟨H9, ho, hn⟩ := j0.own
  obtain ⟨x0, x1, x2, x3, x4, x5, x6, x7⟩ := j0.box.c8
  have cE := HB1.out.below j0.bel HB1.out.lt
  have eA := show w.heap.size <= w.heap.size + 1 by omega
  have dA := HZ.out
  generalize w.heap.size + 1 = gR at *
  have HO := lh ho
  have HB3 := lh cE
  have HBE := lh (HBW.out.trans (j0.bel.mono HBW.out.size))
  have HNR := lh (show ¬ F gR /\ ¬ G gR /\ ¬ H9 gR from ⟨fun e => by have := ho.from1 _ e; omega, fun e => by have := ho.from2 _ e; omega, fun e => by have := ho.from3 _ e; omega⟩)
  clear j0 ho hn cE dA aE
  go_wp2_with (refine Jr rfl _ (.tmp 8) (.tmp 47) rfl gR #[.bool (decide (m.smooth.num < 0)), .int .u64 (lo m.smooth.num.natAbs : Int), .string (mo m.smooth.num.natAbs), .int .u64 (lo ((qden m.smooth)) : Int), .string (mo ((qden m.smooth))), .slice AW n1 cW, .slice (some ⟨gS, 0, none⟩) n2 n2, .slice (some ⟨gC, 0, none⟩) n3 n3] _ rfl rfl _ HB3.out (by kernel_rfl) rfl (by simp [Value.oneCell']) ?_; intro w7 j7 j8; have HX7 := lh j8; have HB7 := lh j7; clear j8 j7 x0 x1 x2 x3 x4 x5 x6 x7)
  obtain ⟨p0, p1, p2, p3, p4, p5, p6, p7⟩ := HB7.out.c8
  refine bodyPost_ret (v := .agg #[.bool (decide (m.smooth.num < 0)), .int .u64 (lo m.smooth.num.natAbs : Int), .string (mo m.smooth.num.natAbs), .int .u64 (lo ((qden m.smooth)) : Int), .string (mo ((qden m.smooth))), .slice AW n1 cW, .slice (some ⟨gS, 0, none⟩) n2 n2, .slice (some ⟨gC, 0, none⟩) n3 n3]) (by simp [results, Tryz.results67, go_sem, p0, p1, p2, p3, p4, p5, p6, p7]) rfl ?_
  exact ⟨_, rfl, ⟨AW, cW, gS, gC, F, G, H9, rfl, (HO.out.exc HX7.out HNR.out.1 HNR.out.2.1 HNR.out.2.2).low HBW.out.size⟩, HBE.out.trans (HX7.out.below HBE.out.size eA)⟩
theorem Ye {m : BM} {row : List Int} {c : Int} (h : Xq m row c = 0) : Jk m = 0 /\ 0 <= c /\ c < (m.seen.length : Int) /\ rowOk m.words row := by
 unfold Xq at h
 by_cases h1 : Jk m ≠ 0 \/ c < 0 \/ (m.seen.length : Int) <= c
 ·rw [if_pos h1] at h
  cases h
 rw [if_neg h1] at h
 refine ⟨by omega, by omega, by omega, (Jco m row).1 h⟩
def Jhk (L n1 n2 n3 : Nat) (r : BM × Int) (v : Value) (w : World) : Prop :=
 (r.2 = 0 /\ ∃ u, v = .tuple #[u, .int .i64 0] /\ ModB L n1 n2 n3 r.1 u w) \/ (r.2 ≠ 0 /\ v = .tuple #[.agg #[.bool false, .int .u64 0, .string ⟨#[]⟩, .int .u64 0, .string ⟨#[]⟩, .slice none 0 0, .slice none 0 0, .slice none 0 0], .int .i64 r.2])
theorem Jb3 (X1 X2 X3 : Option Addr) (n1 s1 n2 s2 n3 s3 B : Nat) (m : BM) (A4 : Option Addr) (n4 s4 : Nat) (row : List Int) (cl : Int) (w : World) (h : RdB w B ⟨X1, n1, s1⟩ ⟨X2, n2, s2⟩ ⟨X3, n3, s3⟩ m) (h4 : ReadsI w B A4 n4 row) (hB : B <= w.heap.size) (hL : LenB m) (aV : n4 <= 1000) (hs : QS 1099511627776 m.smooth) :
  Calls Tryz.prog 29 #[.agg #[.bool (decide (m.smooth.num < 0)), .int .u64 (lo m.smooth.num.natAbs : Int), .string (mo m.smooth.num.natAbs), .int .u64 (lo ((qden m.smooth)) : Int), .string (mo ((qden m.smooth))), .slice X1 n1 s1, .slice X2 n2 s2, .slice X3 n3 s3], .slice A4 n4 s4, .int .i64 cl] w fun e w' => ∃ v, e = .returned v /\ Jhk w.heap.size n1 n2 n3 (Xg m row cl) v w' /\ Below w.heap.size w w' := by
 have eB : m.words.length = n1 := h.words.len
 have aC : m.seen.length = n2 := h.seen.len
 have j6 : m.counts.length = n3 := ReadsS.len h.counts
 have aD : row.length = n4 := h4.len
 obtain ⟨R, hR⟩ : ∃ R, Xg m row cl = R := ⟨_, rfl⟩
 rw [hR]
 have HR := lh hR
 clear hR
 obtain ⟨b0, b1, hB, hZ⟩ := bx2 w 43 #[.bool (decide (m.smooth.num < 0)), .int .u64 (lo m.smooth.num.natAbs : Int), .string (mo m.smooth.num.natAbs), .int .u64 (lo (qden m.smooth) : Int), .string (mo (qden m.smooth)), .slice X1 n1 s1, .slice X2 n2 s2, .slice X3 n3 s3] 43 #[.bool false, .int .u64 0, .string ⟨#[]⟩, .int .u64 0, .string ⟨#[]⟩, .slice none 0 0, .slice none 0 0, .slice none 0 0]
 go_enter Tryz.func29, Tryz.ntmps29
 go_upto_region 1 with fail
 generalize ((w.alloc (.cells #[.bool (decide (m.smooth.num < 0)), .int .u64 (lo m.smooth.num.natAbs : Int), .string (mo m.smooth.num.natAbs), .int .u64 (lo (qden m.smooth) : Int), .string (mo (qden m.smooth)), .slice X1 n1 s1, .slice X2 n2 s2, .slice X3 n3 s3] 43)).alloc (.cells #[.bool false, .int .u64 0, .string ⟨#[]⟩, .int .u64 0, .string ⟨#[]⟩, .slice none 0 0, .slice none 0 0, .slice none 0 0] 43)) = W at *
 rename B <= w.heap.size => hBB
 have HSU := lh (fun w' (hb : Below w.heap.size w w') => Vb X1 X2 X3 n1 s1 n2 s2 n3 s3 B m A4 n4 s4 row cl w' (h.below (hb.mono hBB)) (rkindI.below h4 (hb.mono hBB)) (nt hBB hb.size) hL aV hs)
 have H := lh h
 have H4 := lh h4
 have HL := lh hL
 have HW := lh (And.intro eB (And.intro aC (And.intro j6 aD)))
 have HBW := lh hB
 have HBB := lh hBB
 have HZ := lh hZ.out
 obtain ⟨r, hr⟩ : ∃ r, Xq m row cl = r := ⟨_, rfl⟩
 rw [hr] at HSU
 have HRC := lh hr
 obtain ⟨x0, x1, x2, x3, x4, x5, x6, x7⟩ := b0.c8
 clear h h4 hL hs eB aC j6 aD hB hZ hBB hr
 go_wp2_with fail
 refine (HSU.out _ HBW.out).mono ?_
 rintro e w1 ⟨rfl, j9⟩
 have b0 := b0.below j9 b0.lt
 have b1 := b1.below j9 b1.lt
 have HB1 := lh (HBW.out.trans (j9.mono HBW.out.size))
 clear x0 x1 x2 x3 x4 x5 x6 x7 j9 HBW HSU
 obtain ⟨x0, x1, x2, x3, x4, x5, x6, x7⟩ := b0.c8
 have eA := show w.heap.size <= w.heap.size + 1 by omega
 generalize hgR : w.heap.size + 1 = gR at *
 have HGR := lh hgR
 have HB2 := lh b1
 have HC := lh b0
 clear b0 b1 hgR
 by_cases aG : r = 0
 case neg =>
  obtain rfl : R = (BM.none, r) := by rw [<- HR.out]; unfold Xg; rw [if_pos (by rw [HRC.out]; exact aG), HRC.out]
  have q1 : (r != 0) = true := by simp; omega
  have q2 : (r == 0) = false := by simp; omega
  go_wp2_with (refine Jr rfl _ (.tmp 6) (.tmp 15) rfl gR #[.bool false, .int .u64 0, .string ⟨#[]⟩, .int .u64 0, .string ⟨#[]⟩, .slice none 0 0, .slice none 0 0, .slice none 0 0] _ rfl rfl _ HB2.out (by kernel_rfl) rfl (by simp [Value.oneCell']) ?_; intro w7 j7 j8; have HX7 := lh j8; have HB7 := lh j7; clear j8 j7 x0 x1 x2 x3 x4 x5 x6 x7)
  obtain ⟨p0, p1, p2, p3, p4, p5, p6, p7⟩ := HB7.out.c8
  refine bodyPost_ret (v := .tuple #[.agg #[.bool false, .int .u64 0, .string ⟨#[]⟩, .int .u64 0, .string ⟨#[]⟩, .slice none 0 0, .slice none 0 0, .slice none 0 0], .int .i64 r]) (by simp [results, Tryz.results29, go_sem, p0, p1, p2, p3, p4, p5, p6, p7]) rfl ?_
  exact ⟨_, rfl, .inr ⟨aG, rfl⟩, HB1.out.trans (HX7.out.below HB1.out.size eA)⟩
 subst aG
 obtain ⟨dW, aY, bK, s9⟩ := Ye HRC.out
 obtain ⟨cn, rfl⟩ := Int.eq_ofNat_of_zero_le aY
 rw [HW.out.2.1] at bK
 have aZ : cn < n2 := by omega
 obtain ⟨ad, y, rfl, y9, hy, hc⟩ := H.out.seen.at_ (k := cn) aZ
 have bW := Qg (HB1.out.mono HBB.out) hc y9
 have cF : m.seen.getD (cn : Int).toNat 0 = y := by
  have e : (cn : Int).toNat = cn := by omega
  rw [e, List.getD_eq_getElem?_getD, hy]
  rfl
 have HGD := lh cF
 clear hc hy cF y9 aY
 by_cases hm : 1073741824 <= y
 ·obtain rfl : R = (BM.none, 18) := by rw [<- HR.out]; unfold Xg; rw [if_neg (by rw [HRC.out]; simp), if_pos (by rw [HGD.out]; exact hm)]
  go_wp2_with (refine Jr rfl _ (.tmp 6) (.tmp 23) rfl gR #[.bool false, .int .u64 0, .string ⟨#[]⟩, .int .u64 0, .string ⟨#[]⟩, .slice none 0 0, .slice none 0 0, .slice none 0 0] _ rfl rfl _ HB2.out (by kernel_rfl) rfl (by simp [Value.oneCell']) ?_; intro w7 j7 j8; have HX7 := lh j8; have HB7 := lh j7; clear j8 j7 x0 x1 x2 x3 x4 x5 x6 x7)
  obtain ⟨p0, p1, p2, p3, p4, p5, p6, p7⟩ := HB7.out.c8
  refine bodyPost_ret (v := .tuple #[.agg #[.bool false, .int .u64 0, .string ⟨#[]⟩, .int .u64 0, .string ⟨#[]⟩, .slice none 0 0, .slice none 0 0, .slice none 0 0], .int .i64 18]) (by simp [results, Tryz.results29, go_sem, p0, p1, p2, p3, p4, p5, p6, p7]) rfl ?_
  exact ⟨_, rfl, .inr ⟨by simp, rfl⟩, HB1.out.trans (HX7.out.below HB1.out.size eA)⟩
 obtain rfl : R = (Jn m row cn 1, 0) := by
  rw [<- HR.out]
  unfold Xg
  rw [if_neg (by rw [HRC.out]; simp), if_neg (by rw [HGD.out]; exact hm), Int.toNat_natCast]
 have j9 := HB1.out
 have aP := Jb2 X1 (some ad) X3 n1 s1 n2 s2 n3 s3 B m A4 n4 s4 row cn 1 w1 (H.out.below (j9.mono HBB.out)) (rkindI.below H4.out (j9.mono HBB.out)) (nt HBB.out j9.size) dW s9 aZ (.inl rfl)
 have HMV := lh aP
 clear aP j9 dW s9
 go_wp2_with fail
 refine HMV.out.mono ?_
 rintro e w2 ⟨v, rfl, ⟨AW, cW, gS, gC, F, G, H9, rfl, ho⟩, eC⟩
 have aK := HB2.out.lt
 have HB3 := lh (HB2.out.below eC aK)
 have HNR := lh (show ¬ F gR /\ ¬ G gR /\ ¬ H9 gR from ⟨fun e => by have := ho.from1 _ e; omega, fun e => by have := ho.from2 _ e; omega, fun e => by have := ho.from3 _ e; omega⟩)
 have HB4 := lh (HB1.out.trans (eC.mono HB1.out.size))
 have HO := lh ho
 clear ho eC HMV x0 x1 x2 x3 x4 x5 x6 x7 bW aK
 go_wp2_with (refine Jr rfl _ (.tmp 6) (.tmp 27) rfl gR #[.bool (decide (m.smooth.num < 0)), .int .u64 (lo m.smooth.num.natAbs : Int), .string (mo m.smooth.num.natAbs), .int .u64 (lo ((qden m.smooth)) : Int), .string (mo ((qden m.smooth))), .slice AW n1 cW, .slice (some ⟨gS, 0, none⟩) n2 n2, .slice (some ⟨gC, 0, none⟩) n3 n3] _ rfl rfl _ HB3.out (by kernel_rfl) rfl (by simp [Value.oneCell']) ?_; intro w7 j7 j8; have HX7 := lh j8; have HB7 := lh j7; clear j8 j7)
 obtain ⟨p0, p1, p2, p3, p4, p5, p6, p7⟩ := HB7.out.c8
 refine bodyPost_ret (v := .tuple #[.agg #[.bool (decide (m.smooth.num < 0)), .int .u64 (lo m.smooth.num.natAbs : Int), .string (mo m.smooth.num.natAbs), .int .u64 (lo ((qden m.smooth)) : Int), .string (mo ((qden m.smooth))), .slice AW n1 cW, .slice (some ⟨gS, 0, none⟩) n2 n2, .slice (some ⟨gC, 0, none⟩) n3 n3], .int .i64 0]) (by simp [results, Tryz.results29, go_sem, p0, p1, p2, p3, p4, p5, p6, p7]) rfl ?_
 exact ⟨_, rfl, .inl ⟨rfl, _, rfl, AW, cW, gS, gC, F, G, H9, rfl, (HO.out.exc HX7.out HNR.out.1 HNR.out.2.1 HNR.out.2.2).low HB1.out.size⟩, HB4.out.trans (HX7.out.below HB4.out.size eA)⟩
theorem Jmt (W : World) (o : Obj) : Below W.heap.size W (W.alloc o).drew := Ja (Jb W o) (Jt _)
theorem Jms (W : World) (o o' : Obj) : Below W.heap.size W ((W.alloc o).alloc o').drew := Ja (Jo W o o') (Jt _)
theorem Own.nx {w w' : World} {e : TypeId} {v : Value} {l : List Int} (h : Own w e zv v l) (hb : Below w.heap.size w w') : Own w' e zv v l := Own.below h hb h.lt
def Qp (n : Nat) : Obj := .cells ((List.replicate n (0 : Int)).map zv).toArray 3
theorem Ys (n : Nat) (hn : n <= 1000) (w : World) : Own (w.alloc (Qp n)) 3 zv (.slice (some ⟨w.heap.size, 0, none⟩) n n) (List.replicate n 0) := by
 have h := Own.lit w 3 zv (List.replicate n (0 : Int)) (by rw [List.length_replicate]; unfold maxLen; omega)
 rw [List.length_replicate] at h
 exact h
section
variable {n1 n2 cW g8 : Nat} {q : Rat} {ws : List Int} {W w2 : World} {AW : Option Addr}
theorem Jmi (hn : n2 <= 1000) (hW : Own w2 3 zv (.slice AW n1 cW) ws) (hf : ∀ b, (Value.slice AW n1 cW).ownBlock = some b -> W.heap.size <= b) (hc : Below W.heap.size W w2) :
  Jc9 n1 n2 q ws (List.replicate n2 0) W (.pointer (some ⟨w2.heap.size + 1, 0, none⟩)) ((w2.alloc (Qp n2)).alloc (.cells #[.bool (decide (q.num < 0)), .int .u64 (lo q.num.natAbs : Int), .string (mo q.num.natAbs), .int .u64 (lo ((qden q)) : Int), .string (mo ((qden q))), .slice AW n1 cW, .slice (some ⟨w2.heap.size, 0, none⟩) n2 n2, .slice none 0 0] 43)) := by
 have h := Jbd (q := q) (W := W) (Own.alloc hW (Qp n2)) (fun b hb => ⟨hf b hb, by have := hW.lt b hb; omega⟩) (Ys n2 hn w2) hc.size (Ja hc (Jb _ _))
 rw [World.size_alloc] at h
 exact h
theorem Jmh (hn : n2 <= 1000) (hW : Own w2 3 zv (.slice AW n1 cW) ws) (hf : ∀ b, (Value.slice AW n1 cW).ownBlock = some b -> W.heap.size <= b) (hc : Below W.heap.size W w2) :
  Jc9 n1 n2 q ws (List.replicate n2 0) W (.pointer (some ⟨w2.heap.size, 0, none⟩)) ((w2.alloc (.cells #[.bool (decide (q.num < 0)), .int .u64 (lo q.num.natAbs : Int), .string (mo q.num.natAbs), .int .u64 (lo ((qden q)) : Int), .string (mo ((qden q))), .slice AW n1 cW, .slice (some ⟨w2.heap.size + 1, 0, none⟩) n2 n2, .slice none 0 0] 43)).alloc (Qp n2)) := by
 have h := Ys n2 hn (w2.alloc (.cells #[.bool (decide (q.num < 0)), .int .u64 (lo q.num.natAbs : Int), .string (mo q.num.natAbs), .int .u64 (lo ((qden q)) : Int), .string (mo ((qden q))), .slice AW n1 cW, .slice (some ⟨w2.heap.size + 1, 0, none⟩) n2 n2, .slice none 0 0] 43))
 rw [World.size_alloc] at h
 exact ⟨_, AW, cW, w2.heap.size + 1, rfl, hc.size, (Blk.new _ _ _).alloc _, Own.alloc (Own.alloc hW _) _, fun b hb => ⟨hf b hb, by have := hW.lt b hb; omega⟩, h, Nat.le_succ_of_le hc.size, Ja hc (Jo _ _ _)⟩
theorem Jmg {a' b' c' d' e' x' y' z' : Value} (hn : n2 <= 1000) (ca : Blk w2 g8 43 #[a', b', c', d', e', x', y', z']) (bB : W.heap.size <= g8) (hW : Own w2 3 zv (.slice AW n1 cW) ws) (hf : ∀ b, (Value.slice AW n1 cW).ownBlock = some b -> W.heap.size <= b) (hc : Below W.heap.size W w2) :
  Jc9 n1 n2 q ws (List.replicate n2 0) W (.pointer (some ⟨g8, 0, none⟩)) ((set8m w2 g8 (.bool (decide (q.num < 0))) (.int .u64 (lo q.num.natAbs : Int)) (.string (mo q.num.natAbs)) (.int .u64 (lo (qden q) : Int)) (.string (mo (qden q))) (.slice AW n1 cW) (.slice (some ⟨w2.heap.size, 0, none⟩) n2 n2) (.slice none 0 0)).alloc (Qp n2)) := by
 have dC : (Value.slice AW n1 cW).ownBlock ≠ some g8 := fun e => by
  obtain ⟨cs, fr, h1⟩ := Own.blk hW e
  unfold Blk at ca
  rw [ca] at h1
  injection h1 with h1
  injection h1 with _ h1 _
  exact absurd h1 (by decide)
 have hS := Ys n2 hn (set8m w2 g8 (.bool (decide (q.num < 0))) (.int .u64 (lo q.num.natAbs : Int)) (.string (mo q.num.natAbs)) (.int .u64 (lo (qden q) : Int)) (.string (mo (qden q))) (.slice AW n1 cW) (.slice (some ⟨w2.heap.size, 0, none⟩) n2 n2) (.slice none 0 0))
 rw [Jnc] at hS
 exact ⟨g8, AW, cW, w2.heap.size, rfl, bB, ca.set8m.alloc _, Own.alloc (hW.exB Jnr dC) _, fun b hb => ⟨hf b hb, by have := hW.lt b hb; omega⟩, hS, hc.size, Ja (Ji9 hc bB) (Jb _ _)⟩
end
theorem Jhl {w w' : World} {g : Nat} {t : TypeId} {cs : Array Value} (h : Blk w g t cs) (hb : Below w.drew.heap.size w.drew w') : Blk w' g t cs := h.drew.below hb h.drew.lt
theorem Jn5 {w w' : World} {o : Obj} {n : Nat} {l : List Int} (h : Own w' 3 zv (.slice (some ⟨(w.alloc o).heap.size, 0, none⟩) n n) l) : Own w' 3 zv (.slice (some ⟨w.heap.size + 1, 0, none⟩) n n) l := by
 rw [World.size_alloc] at h
 exact h
theorem Vp (z : Int) (X1 : Option Addr) (n1 s1 B : Nat) (ws : List Int) (q : Rat) (w : World) (h : ReadsI w B X1 n1 ws) (hB : B <= w.heap.size) (cI : n1 <= 1000) (hq : QS 1099511627776 q) :
  Calls Tryz.prog 15 #[.int .i64 z, .slice X1 n1 s1, .agg #[.bool (decide (q.num < 0)), .int .u64 (lo q.num.natAbs : Int), .string (mo q.num.natAbs), .int .u64 (lo ((qden q)) : Int), .string (mo ((qden q)))]] w fun e w' => ∃ v, e = .returned v /\ Jhk w.heap.size n1 z.toNat z.toNat (Jdk z ws q) v w' /\ Below w.heap.size w w' := by
 have eB : ws.length = n1 := h.len
 obtain ⟨R, hR⟩ : ∃ R, Jdk z ws q = R := ⟨_, rfl⟩
 rw [hR]
 have HR := lh hR
 clear hR
 obtain ⟨b0, b1, hB, hZ⟩ := bx2 w 41 #[.bool (decide (q.num < 0)), .int .u64 (lo q.num.natAbs : Int), .string (mo q.num.natAbs), .int .u64 (lo ((qden q)) : Int), .string (mo ((qden q)))] 43 #[.bool false, .int .u64 0, .string ⟨#[]⟩, .int .u64 0, .string ⟨#[]⟩, .slice none 0 0, .slice none 0 0, .slice none 0 0]
 go_enter Tryz.func15, Tryz.ntmps15
 go_upto_region 1 with fail
 generalize ((w.alloc (.cells #[.bool (decide (q.num < 0)), .int .u64 (lo q.num.natAbs : Int), .string (mo q.num.natAbs), .int .u64 (lo ((qden q)) : Int), .string (mo ((qden q)))] 41)).alloc (.cells #[.bool false, .int .u64 0, .string ⟨#[]⟩, .int .u64 0, .string ⟨#[]⟩, .slice none 0 0, .slice none 0 0, .slice none 0 0] 43)) = W at *
 rename B <= w.heap.size => hBB
 have HSZ := lh (Jb0 X1 n1 s1 B z ws W (rkindI.below h (hB.mono hBB)) cI)
 obtain ⟨zb, bM⟩ : ∃ zb, Xk z ws = zb := ⟨_, rfl⟩
 rw [bM] at HSZ
 have HZB := lh bM
 have HBW := lh hB
 have HBB := lh hBB
 have HZ := lh hZ.out
 have H := lh h
 clear h bM hB hBB hZ
 go_wp2_with fail
 refine HSZ.out.mono ?_
 rintro e w1 ⟨rfl, j9⟩
 have b0 := b0.below j9 b0.lt
 have b1 := b1.below j9 b1.lt
 have HB1 := lh (HBW.out.trans (j9.mono HBW.out.size))
 have eA := show w.heap.size <= w.heap.size + 1 by omega
 have dP := b1.lt
 have dQ := b0.lt
 clear j9 HSZ
 generalize hgR : w.heap.size + 1 = gR at *
 cases zb with
 | false =>
  obtain rfl : R = (BM.none, 5) := by rw [<- HR.out]; unfold Jdk; rw [if_pos HZB.out]
  have HB2 := lh b1
  clear b0 b1
  go_wp2_with (refine Jr rfl _ (.tmp 6) (.tmp 17) rfl gR #[.bool false, .int .u64 0, .string ⟨#[]⟩, .int .u64 0, .string ⟨#[]⟩, .slice none 0 0, .slice none 0 0, .slice none 0 0] _ rfl rfl _ HB2.out (by kernel_rfl) rfl (by simp [Value.oneCell']) ?_; intro w7 j7 j8; have HX7 := lh j8; have HB7 := lh j7; clear j8 j7)
  obtain ⟨p0, p1, p2, p3, p4, p5, p6, p7⟩ := HB7.out.c8
  refine bodyPost_ret (v := .tuple #[.agg #[.bool false, .int .u64 0, .string ⟨#[]⟩, .int .u64 0, .string ⟨#[]⟩, .slice none 0 0, .slice none 0 0, .slice none 0 0], .int .i64 5]) (by simp [results, Tryz.results15, go_sem, p0, p1, p2, p3, p4, p5, p6, p7]) rfl ?_
  exact ⟨_, rfl, .inr ⟨by simp, rfl⟩, HB1.out.trans (HX7.out.below HB1.out.size eA)⟩
 | true =>
  have bC := HZB.out
  unfold Xk at bC
  simp only [Bool.and_eq_true, List.all_eq_true, decide_eq_true_iff] at bC
  obtain ⟨n2, rfl⟩ := Int.eq_ofNat_of_zero_le (show 0 <= z by omega)
  have dR : 1 <= n2 /\ n2 <= 12 := by omega
  have dD : 1 <= n1 /\ n1 <= 20 := by omega
  have HWS := lh bC.2
  have HLEN : Hid (LenB (Uw n2 ws q)) := lh (by
   refine ⟨by show ws.length <= 1000; omega, by show (List.replicate n2 (0 : Int)).length <= 1000; rw [List.length_replicate]; omega, by show (List.replicate n2 _).length <= 1000; rw [List.length_replicate]; omega, fun t ht => ?_⟩
   rw [List.eq_of_mem_replicate ht]
   refine ⟨by rw [List.length_map]; omega, fun o0 hc => ?_⟩
   obtain ⟨x, hx, rfl⟩ := List.mem_map.1 hc
   rw [List.length_replicate]
   have := HWS.out x hx
   omega)
  clear bC
  go_upto_region 3 with fail
  have HCL : Hid (∀ w', Below w1.heap.size w1 w' -> Calls Tryz.prog 50 #[.slice X1 n1 s1] w' fun e w'' => ∃ v, e = .returned v /\ (∃ A c, v = .slice A n1 c) /\ (Own w'' 3 zv v ws /\ (∀ b, v.ownBlock = some b -> w1.heap.size <= b) /\ ∀ b, v.ownBlock = some b -> w'.heap.size <= b) /\ Below w'.heap.size w' w'') := lh fun w' hb => by
   have eC := HB1.out.trans (hb.mono HB1.out.size)
   refine (Ji7 X1 n1 s1 B ws w' (rkindI.below H.out (eC.mono HBB.out)) (nt HBB.out eC.size) cI dD.1).mono ?_
   rintro e w2 ⟨v, rfl, hv, ⟨ho, aH⟩, dE⟩
   exact ⟨v, rfl, hv, ⟨ho, fun b dF => nt hb.size (aH b dF), aH⟩, dE⟩
  have aR : ∀ w : World, (Instr.makeSlice 22 (.int .i64 (n2 : Int)) (.int .i64 (n2 : Int))).run Tryz.prog w = .ok (.slice (some ⟨w.heap.size, 0, none⟩) n2 n2) (w.alloc (Qp n2)) := fun w => Jbc (P := Tryz.prog) (Tryz.eltZ1).under (Tryz.eltZ1).info n2 (by omega) w
  have o9 : n2 <= 1000 := by omega
  have ne1 : ¬ w.heap.size = w1.heap.size := by omega
  have ne2 : ¬ w1.heap.size = w.heap.size := by omega
  have ne3 : ¬ w.heap.size = w1.heap.size + 1 := by omega
  have ne4 : ¬ w1.heap.size + 1 = w.heap.size := by omega
  go_cut [8] (fun v wc => Jc9 n1 n2 q ws (List.replicate n2 0) w1 v wc)
  case first =>
   have c0 := b0.drew
   obtain ⟨q0, q1, q2, q3, q4⟩ := b0.c5
   go_region_held3 (fun w' => w'.cell? ⟨w.heap.size, 0, none⟩ = some (.bool (decide (q.num < 0))) /\ w'.cell? ⟨w.heap.size, 1, none⟩ = some (.int .u64 (lo q.num.natAbs : Int)) /\ w'.cell? ⟨w.heap.size, 2, none⟩ = some (.string (mo q.num.natAbs)) /\ w'.cell? ⟨w.heap.size, 3, none⟩ = some (.int .u64 (lo (qden q) : Int)) /\ w'.cell? ⟨w.heap.size, 4, none⟩ = some (.string (mo (qden q)))) (go_keep) (first
    |(go_at_call 50; with_reducible refine (HCL.out _ (Jt w1)).mono ?_; rintro e w3 ⟨v1, rfl, ⟨A1, c1c, aA⟩, bR, j6⟩; subst aA; clear q0 q1 q2 q3 q4; have c0 := (b0.drew).below j6 (b0.drew).lt; obtain ⟨q0, q1, q2, q3, q4⟩ := c0.c5; have hc := Ja (Jt w1) j6)
    |(go_at_call 50; with_reducible refine (HCL.out _ (Jmt w1 (Qp n2))).mono ?_; rintro e w3 ⟨v1, rfl, ⟨A1, c1c, aA⟩, bR, j6⟩; subst aA; clear q0 q1 q2 q3 q4; have c0 := ((b0.alloc (Qp n2)).drew).below j6 ((b0.alloc (Qp n2)).drew).lt; obtain ⟨q0, q1, q2, q3, q4⟩ := c0.c5; have hc := Ja (Jmt w1 (Qp n2)) j6; have aI := ((Ys n2 o9 w1).nx (Jt _)).nx j6; have aN := Nat.le_refl w1.heap.size; have aH : ∀ b, (Value.slice A1 n1 c1c).ownBlock = some b -> w1.heap.size <= b /\ b ≠ w1.heap.size := (fun b hb => ⟨bR.2.1 b hb, by have h9 := bR.2.2 b hb; simp at h9; omega⟩))
    |(go_at_call 50; with_reducible refine (HCL.out _ (Jmt w1 (.cells #[.bool false, .int .u64 0, .string ⟨#[]⟩, .int .u64 0, .string ⟨#[]⟩, .slice none 0 0, .slice none 0 0, .slice none 0 0] 43))).mono ?_; rintro e w3 ⟨v1, rfl, ⟨A1, c1c, aA⟩, bR, j6⟩; subst aA; clear q0 q1 q2 q3 q4; have c0 := ((b0.alloc (.cells #[.bool false, .int .u64 0, .string ⟨#[]⟩, .int .u64 0, .string ⟨#[]⟩, .slice none 0 0, .slice none 0 0, .slice none 0 0] 43)).drew).below j6 ((b0.alloc (.cells #[.bool false, .int .u64 0, .string ⟨#[]⟩, .int .u64 0, .string ⟨#[]⟩, .slice none 0 0, .slice none 0 0, .slice none 0 0] 43)).drew).lt; obtain ⟨q0, q1, q2, q3, q4⟩ := c0.c5; have hc := Ja (Jmt w1 (.cells #[.bool false, .int .u64 0, .string ⟨#[]⟩, .int .u64 0, .string ⟨#[]⟩, .slice none 0 0, .slice none 0 0, .slice none 0 0] 43)) j6; have cM := Jhl (Blk.new w1 43 #[.bool false, .int .u64 0, .string ⟨#[]⟩, .int .u64 0, .string ⟨#[]⟩, .slice none 0 0, .slice none 0 0, .slice none 0 0]) j6; have bD := Nat.le_refl w1.heap.size; have cJ := cM.lt; obtain ⟨m0, m1, m2, m3, m4, m5, m6, m7, m8, m9, m10, m11, m12, m13, m14, m15, m16, m17, m18, m19, m20, m21, m22, m23⟩ := cM.f8; obtain ⟨k0, k1, k2, k3, k4, k5, k6, k7, k8, k9, k10, k11, k12, k13, k14, k15, k16, k17, k18, k19, k20, k21, k22, k23⟩ := (cM.alloc (Qp n2)).f8)
    |(go_at_call 50; with_reducible refine (HCL.out _ (Jms w1 (Qp n2) (.cells #[.bool false, .int .u64 0, .string ⟨#[]⟩, .int .u64 0, .string ⟨#[]⟩, .slice none 0 0, .slice none 0 0, .slice none 0 0] 43))).mono ?_; rintro e w3 ⟨v1, rfl, ⟨A1, c1c, aA⟩, bR, j6⟩; subst aA; clear q0 q1 q2 q3 q4; have c0 := (((b0.alloc (Qp n2)).alloc (.cells #[.bool false, .int .u64 0, .string ⟨#[]⟩, .int .u64 0, .string ⟨#[]⟩, .slice none 0 0, .slice none 0 0, .slice none 0 0] 43)).drew).below j6 (((b0.alloc (Qp n2)).alloc (.cells #[.bool false, .int .u64 0, .string ⟨#[]⟩, .int .u64 0, .string ⟨#[]⟩, .slice none 0 0, .slice none 0 0, .slice none 0 0] 43)).drew).lt; obtain ⟨q0, q1, q2, q3, q4⟩ := c0.c5; have hc := Ja (Jms w1 (Qp n2) (.cells #[.bool false, .int .u64 0, .string ⟨#[]⟩, .int .u64 0, .string ⟨#[]⟩, .slice none 0 0, .slice none 0 0, .slice none 0 0] 43)) j6; have aI := (((Ys n2 o9 w1).nx (Jb _ (.cells #[.bool false, .int .u64 0, .string ⟨#[]⟩, .int .u64 0, .string ⟨#[]⟩, .slice none 0 0, .slice none 0 0, .slice none 0 0] 43))).nx (Jt _)).nx j6; have aN := Nat.le_refl w1.heap.size; have aH : ∀ b, (Value.slice A1 n1 c1c).ownBlock = some b -> w1.heap.size <= b /\ b ≠ w1.heap.size := (fun b hb => ⟨bR.2.1 b hb, by have h9 := bR.2.2 b hb; simp at h9; omega⟩); have cM := Jhl (Blk.new (w1.alloc (Qp n2)) 43 #[.bool false, .int .u64 0, .string ⟨#[]⟩, .int .u64 0, .string ⟨#[]⟩, .slice none 0 0, .slice none 0 0, .slice none 0 0]) j6; rw [World.size_alloc] at cM; have bD := Nat.le_succ w1.heap.size; have cJ := cM.lt; obtain ⟨m0, m1, m2, m3, m4, m5, m6, m7, m8, m9, m10, m11, m12, m13, m14, m15, m16, m17, m18, m19, m20, m21, m22, m23⟩ := cM.f8)
    |(go_at_call 50; with_reducible refine (HCL.out _ (Jms w1 (.cells #[.bool false, .int .u64 0, .string ⟨#[]⟩, .int .u64 0, .string ⟨#[]⟩, .slice none 0 0, .slice none 0 0, .slice none 0 0] 43) (Qp n2))).mono ?_; rintro e w3 ⟨v1, rfl, ⟨A1, c1c, aA⟩, bR, j6⟩; subst aA; clear q0 q1 q2 q3 q4; have c0 := (((b0.alloc (.cells #[.bool false, .int .u64 0, .string ⟨#[]⟩, .int .u64 0, .string ⟨#[]⟩, .slice none 0 0, .slice none 0 0, .slice none 0 0] 43)).alloc (Qp n2)).drew).below j6 (((b0.alloc (.cells #[.bool false, .int .u64 0, .string ⟨#[]⟩, .int .u64 0, .string ⟨#[]⟩, .slice none 0 0, .slice none 0 0, .slice none 0 0] 43)).alloc (Qp n2)).drew).lt; obtain ⟨q0, q1, q2, q3, q4⟩ := c0.c5; have hc := Ja (Jms w1 (.cells #[.bool false, .int .u64 0, .string ⟨#[]⟩, .int .u64 0, .string ⟨#[]⟩, .slice none 0 0, .slice none 0 0, .slice none 0 0] 43) (Qp n2)) j6; have aI := Jn5 (((Ys n2 o9 (w1.alloc (.cells #[.bool false, .int .u64 0, .string ⟨#[]⟩, .int .u64 0, .string ⟨#[]⟩, .slice none 0 0, .slice none 0 0, .slice none 0 0] 43))).nx (Jt _)).nx j6); have aN := Nat.le_succ w1.heap.size; have aH : ∀ b, (Value.slice A1 n1 c1c).ownBlock = some b -> w1.heap.size <= b /\ b ≠ w1.heap.size + 1 := (fun b hb => ⟨bR.2.1 b hb, by have h9 := bR.2.2 b hb; simp at h9; omega⟩); have cM := Jhl ((Blk.new w1 43 #[.bool false, .int .u64 0, .string ⟨#[]⟩, .int .u64 0, .string ⟨#[]⟩, .slice none 0 0, .slice none 0 0, .slice none 0 0]).alloc (Qp n2)) j6; have bD := Nat.le_refl w1.heap.size; have cJ := cM.lt; obtain ⟨m0, m1, m2, m3, m4, m5, m6, m7, m8, m9, m10, m11, m12, m13, m14, m15, m16, m17, m18, m19, m20, m21, m22, m23⟩ := cM.f8))
   all_goals
    go_wp2
    go_meet
    first
     | with_reducible exact Jmi o9 bR.1 bR.2.1 hc
     | with_reducible exact Jmh o9 bR.1 bR.2.1 hc
     | with_reducible exact Jbd bR.1 aH aI aN hc
     | with_reducible exact Jea cM bD bR.1 aH aI aN hc
     | with_reducible exact Jmg o9 cM bD bR.1 bR.2.1 hc
  case rest =>
   obtain ⟨g8, AW, cW, gS, rfl, bB, b8, cK, cL, aI, aN, cN⟩ := hcut
   rename World => wc
   have HST := lh (MgI.start (n3 := n2) bB b8 cK cL aI aN cN o9)
   have bN : (Instr.makeSlice 29 (.int .i64 (n2 : Int)) (.int .i64 (n2 : Int))).run Tryz.prog wc = .ok (.slice (some ⟨wc.heap.size, 0, none⟩) n2 n2) (wc.alloc (.cells ((List.replicate n2 (⟨none, 0, 0⟩ : SW)).map SW.v).toArray 65)) := Qh SW.v ⟨none, 0, 0⟩ 29 65 24 (Tryz.eltZ3).under (Tryz.eltZ3).info rfl .i64 .i64 n2 (by omega) (by omega) wc
   have b8c := b8.alloc (.cells ((List.replicate n2 (⟨none, 0, 0⟩ : SW)).map SW.v).toArray 65)
   have dZ := HST.out
   generalize wc.alloc (.cells ((List.replicate n2 (⟨none, 0, 0⟩ : SW)).map SW.v).toArray 65) = wd at *
   generalize wc.heap.size = gC at *
   have f7 := (b8c.c8).2.2.2.2.2.2.2
   have f15 := b8c.frozen 7
   have HB3 := lh b1
   obtain ⟨F, G, HST⟩ : ∃ F G, Hid (MgI w1 q n1 n2 n2 AW cW gS g8 gC F G ws (List.replicate n2 0) (List.replicate n2 []) (wd.setCell ⟨g8, 7, none⟩ (.slice (some ⟨gC, 0, none⟩) n2 n2))) := ⟨_, _, lh dZ⟩
   clear b0 b1 b8 cK cL aI cN b8c dZ aR HCL
   go_wp2_with fail
   clear bN f7 f15
   obtain ⟨T, hT⟩ : ∃ T, ws.map (fun x => List.replicate x.toNat (0 : Int)) = T := ⟨_, rfl⟩
   have aX : T.length = n1 := by rw [<- hT, List.length_map]; exact eB
   have HTA : Hid (∀ (i : Nat) (x : Int), ws[i]? = some x -> T[i]? = some (List.replicate x.toNat 0)) := lh fun i x h => by rw [<- hT, List.getElem?_map, h]; rfl
   obtain ⟨R0, bE⟩ : ∃ R0, List.replicate n2 T = R0 := ⟨_, rfl⟩
   have bO : R0.length = n2 := by rw [<- bE, List.length_replicate]
   have HRA : Hid (∀ k, k < n2 -> R0[k]? = some T) := lh fun k hk => by rw [<- bE, List.getElem?_replicate, if_pos hk]
   have HEM : Hid (Uw n2 ws q = ⟨q, ws, List.replicate n2 0, R0⟩) := lh (by unfold Uw; rw [hT, bE])
   have HR0 : Hid (List.replicate n2 ([] : List (List Int)) = Jm R0 [] 0) := lh (by rw [Zk, bO])
   clear hT bE
   obtain ⟨SS, cO⟩ : ∃ SS, List.replicate n2 (0 : Int) = SS := ⟨_, rfl⟩
   rw [cO] at HST HEM
   clear cO
   go_loopw [30] (fun p wr => ∃ k : Nat, k <= n2 /\ p = .int .i64 (k : Int) /\ MgI w1 q n1 n2 n2 AW cW gS g8 gC F G ws SS (Jm R0 [] k) wr) (fun p _ => n2 - (intOf p).toNat)
   case atStart => exact ⟨0, by omega, rfl, by rw [<- HR0.out]; exact HST.out⟩
   case round =>
    obtain ⟨k, dS, rfl, j0⟩ := hrel
    rename World => wr
    clear HST HR0
    by_cases bH : k < n2
    ·as_aux_lemma =>
     have k1 : (k : Int) < (n2 : Int) := by omega
     have cP : List.replicate n1 ([] : List Int) = Jm T [] 0 := by rw [Zk, aX]
     have aR : ∀ (w : World), (Instr.makeSlice 65 (.int .i64 (n1 : Int)) (.int .i64 (n1 : Int))).run Tryz.prog w = .ok (.slice (some ⟨w.heap.size, 0, none⟩) n1 n1) (w.alloc (.cells ((List.replicate n1 (⟨none, 0, 0⟩ : SW)).map SW.v).toArray 22)) := fun w => Qh SW.v ⟨none, 0, 0⟩ 65 22 24 (Tryz.eltZ2).under (Tryz.eltZ2).info rfl .i64 .i64 n1 (by omega) (by omega) w
     have bF := Ja9 (P := NRow 3 zv) (e := ([] : List Int)) (fun w => NRow.nil _ _ _) 22 n1 wr (by unfold maxLen; omega)
     rw [cP] at bF
     obtain ⟨ob, eE⟩ : ∃ o, Obj.cells ((List.replicate n1 (⟨none, 0, 0⟩ : SW)).map SW.v).toArray 22 = o := ⟨_, rfl⟩
     rw [eE] at aR bF
     obtain ⟨aS, aT, ⟨A9, n9, c9, aB⟩, dT⟩ := j0.tab (k := k) (by rw [Zd _ _ (by omega)]; omega)
     have dZ := Zw (HRA.out k bH) ([] : List (List Int))
     have HFA : Hid ((Jm R0 [] k).length = n2) := lh (by rw [Zd _ _ (by omega)]; exact bO)
     have b8 : At1 wr g8 7 (.slice (some ⟨gC, 0, none⟩) n2 n2) := At1.mk' j0.box.c8.2.2.2.2.2.2.2
     have z1 : (wr.alloc ob).frozen? ⟨gC, k, none⟩ = false := (World.frozen?_alloc_past _ _ _ (Xw aB)).trans aT
     have z2 : (wr.alloc ob).cell? ⟨gC, k, none⟩ = some (.slice A9 n9 c9) := (World.cell?_alloc_past _ _ _ (Xw aB)).trans aB
     have ne1 : ¬ gC = g8 := aS
     have ne2 : ¬ g8 = gC := fun e => aS e.symm
     have aU : MgI w1 q n1 n2 n2 AW cW gS g8 gC F G ws SS ((Jm R0 [] k).set k (Jm T [] 0)) ((wr.alloc ob).setCell ⟨gC, k, none⟩ (.slice (some ⟨wr.heap.size, 0, none⟩) n1 n1)) := j0.putTab (Jb wr ob) bF (fun x hx => by rw [hx]; exact Nat.le_refl _)
     have HEND := lh aU
     have HSET := lh dZ
     clear j0 bF cP eE aU dZ aT aB
     go_upto_region 8 with fail
     go_cut [] (fun wc => ∃ u, MgI w1 q n1 n2 n2 AW cW gS g8 gC F G ws SS ((Jm R0 [] k).set k (Jm T [] 0)) wc /\ wc.cell? ⟨gC, k, none⟩ = some (.slice (some ⟨u, 0, none⟩) n1 n1))
     case first =>
      obtain ⟨bP, bQ⟩ := b8.c2; have c8 := b8.drew; have dG := c8.lt; have hc := Jt wr; go_region_held3 (fun w' => w'.cell? ⟨g8, 7, none⟩ = some (.slice (some ⟨gC, 0, none⟩) n2 n2)) (go_keep) (first | fail)
      all_goals
       go_wp2
       go_meet
       exact ⟨_, HEND.out.next (Jt _), World.cell?_setCell_same _ _ _ z2⟩
     case rest =>
      obtain ⟨u, j0, dY⟩ := hcut
      rename World => ws9
      clear HEND z1 z2 b8 aR
      have HI := lh (And.intro j0 dY)
      clear j0 dY
      go_wp2_with fail
      go_loopw [42] (fun p wi => ∃ i : Nat, i <= n1 /\ p = .int .i64 (i : Int) /\ MgI w1 q n1 n2 n2 AW cW gS g8 gC F G ws SS ((Jm R0 [] k).set k (Jm T [] i)) wi /\ wi.cell? ⟨gC, k, none⟩ = some (.slice (some ⟨u, 0, none⟩) n1 n1)) (fun p _ => n1 - (intOf p).toNat)
      case atStart => exact ⟨0, by omega, rfl, HI.out⟩
      case round =>
       obtain ⟨i, hi, rfl, j0, dY⟩ := hrel
       rename World => wi
       clear HI
       by_cases dH : i < n1
       ·as_aux_lemma =>
        have k2 : (i : Int) < (n1 : Int) := by omega
        obtain ⟨ad, x, rfl, y9, hx, cR⟩ := H.out.at_ (k := i) dH
        have dI := HWS.out x (List.mem_of_getElem? hx)
        obtain ⟨xn, rfl⟩ := Int.eq_ofNat_of_zero_le (show 0 <= x by omega)
        have y1 := Qg ((HB1.out.trans (j0.bel.mono HB1.out.size)).mono HBB.out) cR y9
        have dX := Zw (HTA.out i xn hx) ([] : List Int)
        rw [Int.toNat_natCast] at dX
        have dW : ((Jm R0 [] k).set k (Jm T [] i))[k]? = some (Jm T [] i) := by
         rw [List.getElem?_set_self]
         have := HFA.out
         omega
        obtain ⟨bS, bT, dU⟩ := j0.who dW dY
        have eF : i < (Jm T ([] : List Int) i).length := by rw [Zd _ _ (by omega)]; omega
        obtain ⟨aT, Az, nz, cz, aB⟩ := j0.spot dW dY eF
        have aR : ∀ w : World, (Instr.makeSlice 22 (.int .i64 (xn : Int)) (.int .i64 (xn : Int))).run Tryz.prog w = .ok (.slice (some ⟨w.heap.size, 0, none⟩) xn xn) (w.alloc (Qp xn)) := fun w => Jbc (P := Tryz.prog) (Tryz.eltZ1).under (Tryz.eltZ1).info xn (by omega) w
        have z1 : (wi.alloc (Qp xn)).frozen? ⟨u, i, none⟩ = false := (World.frozen?_alloc_past _ _ _ (Xw aB)).trans aT
        have z2 : (wi.alloc (Qp xn)).cell? ⟨u, i, none⟩ = some (.slice Az nz cz) := (World.cell?_alloc_past _ _ _ (Xw aB)).trans aB
        have z3 : (wi.alloc (Qp xn)).cell? ⟨gC, k, none⟩ = some (.slice (some ⟨u, 0, none⟩) n1 n1) := (World.cell?_alloc_past _ _ _ (Xw dY)).trans dY
        have aJ := j0.putCol (i := i) (Jb wi (Qp xn)) dW z3 (NRow.of (Ys xn (by omega) wi)) (fun x hx => by
         have e : wi.heap.size = x := by simpa [Value.ownBlock] using hx
         omega)
        rw [List.set_set, dX] at aJ
        have b8 : At1 wi g8 7 (.slice (some ⟨gC, 0, none⟩) n2 n2) := At1.mk' j0.box.c8.2.2.2.2.2.2.2
        have b3 : At1 wi gC k (.slice (some ⟨u, 0, none⟩) n1 n1) := At1.mk' dY
        have m1 : ¬ u = g8 := bS
        have m2 : ¬ g8 = u := fun e => bS e.symm
        have m3 : ¬ u = gC := bT
        have m4 : ¬ gC = u := fun e => bT e.symm
        have HFIN := lh aJ
        clear j0 dY hx cR y9 dX dW bS bT eF aJ aT aB dI
        go_upto_region 12 with fail
        obtain ⟨bP, bQ⟩ := b8.c2; have c8 := b8.drew; have dG := c8.lt; obtain ⟨dJ, dK⟩ := b3.c2; have c3 := b3.drew; have dV := c3.lt; have hc := Jt wi; go_region_held3 (fun w' => w'.cell? ⟨g8, 7, none⟩ = some (.slice (some ⟨gC, 0, none⟩) n2 n2) /\ w'.cell? ⟨gC, k, none⟩ = some (.slice (some ⟨u, 0, none⟩) n1 n1)) (go_keep) (first | fail)
        all_goals
         go_wp2
         exact ⟨⟨i + 1, by omega, by go_num, HFIN.out.1.next (Jt _), HFIN.out.2⟩, by simp [intOf]; omega⟩
       obtain rfl : i = n1 := by omega
       have k2 : ¬ (i : Int) < (i : Int) := by omega
       rw [show Jm T ([] : List Int) i = T by have e := Zl T ([] : List Int); rw [aX] at e; exact e, HSET.out] at j0
       have HMG := lh j0
       clear j0 dY
       go_wp2
       exact ⟨⟨k + 1, by omega, by go_num, HMG.out⟩, by simp [intOf]; omega⟩
    as_aux_lemma =>
    obtain rfl : k = n2 := by omega
    have k1 : ¬ (k : Int) < (k : Int) := by omega
    rw [show Jm R0 [] k = R0 by have e := Zl R0 ([] : List (List Int)); rw [bO] at e; exact e] at j0
    obtain ⟨H9, ho, hn⟩ := j0.own
    have dW := Zm AW (some ⟨gS, 0, none⟩) (some ⟨gC, 0, none⟩) n1 cW k k k k wr.heap.size ⟨q, ws, SS, R0⟩ wr ho.read zd (by rw [<- HEM.out]; exact HLEN.out) hq
    dsimp only at dW
    obtain ⟨rc, bU⟩ : ∃ rc, Jk ⟨q, ws, SS, R0⟩ = rc := ⟨_, rfl⟩
    rw [bU] at dW
    have HE : Hid (R = if rc ≠ 0 then (BM.none, rc) else (Uw k ws q, 0)) := lh (by
     rw [<- HR.out]
     unfold Jdk
     rw [if_neg (by rw [HZB.out]; simp), Int.toNat_natCast, HEM.out, bU])
    have HCK := lh dW
    have HMG := lh j0
    obtain ⟨x0, x1, x2, x3, x4, x5, x6, x7⟩ := j0.box.c8
    clear dW bU ho hn j0
    go_wp2_with fail
    refine HCK.out.mono ?_
    rintro e w5 ⟨rfl, cT⟩
    have j0 := HMG.out.next cT
    have HB6 := lh (HB1.out.trans (j0.bel.mono HB1.out.size))
    have eG := HB3.out.below j0.bel HB3.out.lt
    have aK := HB3.out.lt
    obtain ⟨H9, ho, hn⟩ := j0.own
    have HNR := lh (show ¬ F gR /\ ¬ G gR /\ ¬ H9 gR from ⟨fun e => by have := ho.from1 _ e; omega, fun e => by have := ho.from2 _ e; omega, fun e => by have := ho.from3 _ e; omega⟩)
    have HO := lh ho
    have HB7 := lh eG
    clear x0 x1 x2 x3 x4 x5 x6 x7 HCK HMG cT ho hn eG HB3
    obtain ⟨x0, x1, x2, x3, x4, x5, x6, x7⟩ := j0.box.c8
    clear j0
    by_cases aM : rc = 0
    case neg =>
     obtain rfl : R = (BM.none, rc) := by rw [HE.out, if_pos aM]
     have q1 : (rc != 0) = true := by simp; omega
     have q2 : (rc == 0) = false := by simp; omega
     go_wp2_with (refine Jr rfl _ (.tmp 6) (.tmp 62) rfl gR #[.bool false, .int .u64 0, .string ⟨#[]⟩, .int .u64 0, .string ⟨#[]⟩, .slice none 0 0, .slice none 0 0, .slice none 0 0] _ rfl rfl _ HB7.out (by kernel_rfl) rfl (by simp [Value.oneCell']) ?_; intro w7 j7 j8; have HX7 := lh j8; have HB8 := lh j7; clear j8 j7 x0 x1 x2 x3 x4 x5 x6 x7)
     obtain ⟨p0, p1, p2, p3, p4, p5, p6, p7⟩ := HB8.out.c8
     refine bodyPost_ret (v := .tuple #[.agg #[.bool false, .int .u64 0, .string ⟨#[]⟩, .int .u64 0, .string ⟨#[]⟩, .slice none 0 0, .slice none 0 0, .slice none 0 0], .int .i64 rc]) (by simp [results, Tryz.results15, go_sem, p0, p1, p2, p3, p4, p5, p6, p7]) rfl ?_
     exact ⟨_, rfl, .inr ⟨aM, rfl⟩, HB6.out.trans (HX7.out.below HB6.out.size eA)⟩
    subst aM
    obtain rfl : R = (Uw k ws q, 0) := by rw [HE.out, if_neg (by simp)]
    go_wp2_with (refine Jr rfl _ (.tmp 6) (.tmp 64) rfl gR #[.bool (decide (q.num < 0)), .int .u64 (lo q.num.natAbs : Int), .string (mo q.num.natAbs), .int .u64 (lo ((qden q)) : Int), .string (mo ((qden q))), .slice AW n1 cW, .slice (some ⟨gS, 0, none⟩) k k, .slice (some ⟨gC, 0, none⟩) k k] _ rfl rfl _ HB7.out (by kernel_rfl) rfl (by simp [Value.oneCell']) ?_; intro w7 j7 j8; have HX7 := lh j8; have HB8 := lh j7; clear j8 j7 x0 x1 x2 x3 x4 x5 x6 x7)
    obtain ⟨p0, p1, p2, p3, p4, p5, p6, p7⟩ := HB8.out.c8
    refine bodyPost_ret (v := .tuple #[.agg #[.bool (decide (q.num < 0)), .int .u64 (lo q.num.natAbs : Int), .string (mo q.num.natAbs), .int .u64 (lo ((qden q)) : Int), .string (mo ((qden q))), .slice AW n1 cW, .slice (some ⟨gS, 0, none⟩) k k, .slice (some ⟨gC, 0, none⟩) k k], .int .i64 0]) (by simp [results, Tryz.results15, go_sem, p0, p1, p2, p3, p4, p5, p6, p7]) rfl ?_
    refine ⟨_, rfl, .inl ⟨rfl, _, rfl, AW, cW, gS, gC, F, G, H9, rfl, ?_⟩, HB6.out.trans (HX7.out.below HB6.out.size eA)⟩
    rw [HEM.out]
    exact (HO.out.exc HX7.out HNR.out.1 HNR.out.2.1 HNR.out.2.2).low HB1.out.size
