import Derived.Test.YtacbcaebaomglaaGreatDoorMeanN
namespace Go.Proofs.YtacbcaebaomglaaGreatDoor
set_option maxRecDepth 100000
set_option maxHeartbeats 8000000
open Go.RowKit
set_option linter.all false
structure At0 (w : World) (g : Nat) (o : Nat) (x : Rat) : Prop where
 c5 : w.cell? ⟨g, 0, none⟩ = some (.bool (decide (x.num < 0))) /\ w.cell? ⟨g, 1, none⟩ = some (.int .u64 (lo x.num.natAbs : Int)) /\ w.cell? ⟨g, 2, none⟩ = some (.string (mo x.num.natAbs)) /\
   w.cell? ⟨g, 3, none⟩ = some (.int .u64 (lo (qden x) : Int)) /\ w.cell? ⟨g, 4, none⟩ = some (.string (mo (qden x)))
theorem At0.lt {w : World} {g o : Nat} {x : Rat} (h : At0 w g o x) : g < w.heap.size := Zv h.c5.1
theorem At0.below {w w' : World} {g o B : Nat} {x : Rat} (h : At0 w g o x) (hb : Below B w w') (hg : g < B) : At0 w' g o x := by
 obtain ⟨h0, h1, h2, h3, h4⟩ := h.c5
 refine ⟨?_⟩
 rw [hb.cell (p := ⟨g, 0, none⟩) hg, hb.cell (p := ⟨g, 1, none⟩) hg, hb.cell (p := ⟨g, 2, none⟩) hg, hb.cell (p := ⟨g, 3, none⟩) hg, hb.cell (p := ⟨g, 4, none⟩) hg]
 exact ⟨h0, h1, h2, h3, h4⟩
theorem At0.drew {w : World} {g o : Nat} {x : Rat} (h : At0 w g o x) : At0 w.drew g o x := h.below (Ji w) h.lt
theorem At0.alloc {w : World} {g o : Nat} {x : Rat} (h : At0 w g o x) (b : Obj) : At0 (w.alloc b) g o x := h.below (Jb w b) h.lt
theorem At0.yy {w w' V : World} {g o : Nat} {x : Rat} {n : Nat} (h : At0 w g o x) (hb : Below n V w') (hs : Sbw n w V := by first | exact sb0 _ | exact sb1 _ _ | exact sb2 _ _ _) : At0 w' g o x := (h.below hs.1 h.lt).below hb (Nat.lt_of_lt_of_le h.lt hs.2)
theorem At0.zc5 {w w' V : World} {g o : Nat} {x : Rat} {n : Nat} (h : At0 w g o x) (hb : Below n V w') (hs : Sbw n w V := by first | exact sb0 _ | exact sb1 _ _ | exact sb2 _ _ _) : At0 w' g o x /\ w'.cell? ⟨g, 0, none⟩ = some (.bool (decide (x.num < 0))) /\ w'.cell? ⟨g, 1, none⟩ = some (.int .u64 (lo x.num.natAbs : Int)) /\ w'.cell? ⟨g, 2, none⟩ = some (.string (mo x.num.natAbs)) /\ w'.cell? ⟨g, 3, none⟩ = some (.int .u64 (lo (qden x) : Int)) /\ w'.cell? ⟨g, 4, none⟩ = some (.string (mo (qden x))) := have h := h.yy hb hs; ⟨h, h.c5⟩
theorem OwnQ.at0 {w : World} {g n c : Nat} {l : List Rat} (h : OwnQ w (.slice (some ⟨g, 0, none⟩) n c) l) {x : Rat} (hx : l[0]? = some x) : At0 w g 0 x := ⟨(OwnQ.cell5 (k := 0) h hx)⟩
theorem bset5o {B g o : Nat} {w w' : World} (h : Below B w w') (hg : B <= g) (x y z u v : Value) : Below B w (((((w'.setCell ⟨g, o, none⟩ x).setCell ⟨g, o + 1, none⟩ y).setCell ⟨g, o + 2, none⟩ z).setCell ⟨g, o + 3, none⟩ u).setCell ⟨g, o + 4, none⟩ v) := ((((h.setCell hg x).setCell hg y).setCell hg z).setCell hg u).setCell hg v
theorem Jpv (A : Option Addr) (n1 c1 : Nat) (zl : List Int) (A' : Option Addr) (n2 c2 : Nat) (zc : List Int) (zn zk zw : Int) (w : World) (h1 : ArgZ w A n1 c1 zl) (h2 : ArgZ w A' n2 c2 zc) (hn : I64 zn) (hk : I64 zk) (hw : I64 zw) (hT : Tab w) :
  Calls Tryz.prog 6 #[.slice A n1 c1, .slice A' n2 c2, .int .i64 zn, .int .i64 zk, .int .i64 zw] w (Ret (.bool true) w) := by
 obtain ⟨k4, bY, bC⟩ := Ue zk 4 w hk.1 hk.2 (by omega) (by omega)
 obtain ⟨kk, bZ⟩ : ∃ kk, k4 + 1 = kk := ⟨_, rfl⟩
 have e2 : (k4 : Int) + 1 = (kk : Int) := by omega
 have e3 : IntKind.i64.wrap (kk : Int) = (kk : Int) := IntWalk.i64_in _ (by omega)
 obtain ⟨nn, wd, cL, hwd1, cA, bD⟩ := Jpj A n1 c1 zl A' n2 c2 zc zn zw kk w h1 h2 hn hw (by omega)
 have hx : ∀ l ∈ Qp zl wd nn, l.length = wd /\ ∀ y ∈ l, QS 5 y := fun l hl => by
  obtain ⟨zs', rfl⟩ := Zz hl
  exact ⟨Zf zs' wd, Zm zs' wd⟩
 have hf : ∀ l ∈ Qp zc wd kk, l.length = wd /\ ∀ y ∈ l, QS 5 y := fun l hl => by
  obtain ⟨zs', rfl⟩ := Zz hl
  exact ⟨Zf zs' wd, Zm zs' wd⟩
 have aH := Xp zl wd nn
 have aI := Xp zc wd kk
 generalize Qp zl wd nn = x at *
 generalize Qp zc wd kk = f at *
 have bE : 1 <= kk := by omega
 have cB : kk <= 4 := by omega
 have HX := lh hx
 have HF := lh hf
 have HL := lh (And.intro aH aI)
 have HP4 := lh bC
 have HDR := lh bD
 have HT := lh hT
 have HOF := lh (Jgf (wd := wd) (k := 5) aI (by omega) (by omega) (fun l hl => (hf l hl).1) (fun l hl => (hf l hl).2) (by omega))
 have HIN := lh (Jgt (wd := wd) (k := 5) aH (by omega) (by omega) (fun l hl => (hx l hl).1) (fun l hl => (hx l hl).2) (by omega))
 clear hx hf aH aI bD bC hT h1 h2 hn hk hw bZ bY
 go_enter Tryz.func6, Tryz.ntmps6
 go_wp2_with fail
 refine (HP4.out _).mono ?_
 rintro e w1 ⟨rfl, rfl⟩
 go_wp2_with fail
 refine HDR.out.mono ?_
 rintro e w1 ⟨Ax, cx, Am, cm, rfl, bF, bG, bH⟩
 have HX1 := lh bF
 have HF1 := lh bG
 have HB1 := lh bH
 clear bF bG bH HDR HP4
 have HLE := lh (Jko Ax nn cx w1.heap.size wd x w1 (OwnS.readS (fun h => OwnR.reads_ h) HX1.out) zd (by omega) hwd1 (by omega) (fun l hl => (HX.out l hl).1))
 go_wp2_with fail
 refine HLE.out.mono ?_
 rintro e w2 ⟨rfl, aE⟩
 have HX2 := lh (OwnS.next Tryz.kindRR HX1.out aE)
 have HF2 := lh (OwnS.next Tryz.kindRR HF1.out aE)
 have HB2 := lh (Ja HB1.out aE)
 clear aE HLE HX1 HF1 HB1
 have HKN := lh (fun w' (hb : Below w2.heap.size w2 w') => Ug w' (HT.out.next (Ja HB2.out hb)))
 by_cases bI : 1 <= nn
 case neg =>
  rw [decide_eq_false bI]
  go_wp2_with fail
  refine (HKN.out _ (Below.refl _ _)).mono ?_
  rintro e w3 ⟨rfl, j8⟩
  have HB3 := lh (Ja HB2.out j8)
  clear j8
  go_wp2
  go_ret
  exact ⟨rfl, HB3.out⟩
 rw [decide_eq_true bI]
 go_wp2_with fail
 refine (HIN.out _ _ _ HX2.out (HT.out.next HB2.out)).mono ?_
 rintro e w3 ⟨A4, c4, rfl, bJ, j8⟩
 have HQ3 := lh bJ
 have HX3 := lh (OwnS.next Tryz.kindRR HX2.out j8)
 have HF3 := lh (OwnS.next Tryz.kindRR HF2.out j8)
 have HB3 := lh (Ja HB2.out j8)
 have HKN3 := lh (fun w' (hb : Below w3.heap.size w3 w') => HKN.out w' (Ja j8 hb))
 clear bJ j8 HX2 HF2 HB2 HKN
 go_wp2_with fail
 refine (HOF.out _ _ _ HF3.out (HT.out.next HB3.out)).mono ?_
 rintro e w4 ⟨A3, c3, rfl, bK, bL⟩
 have aJ := Jb w4 (.cells #[.slice A3 kk c3] 30)
 have b0 := Blk.new w4 30 #[.slice A3 kk c3]
 have e8 := Ja bL aJ
 have HP4 := lh (OwnS.next Tryz.kindQQ bK aJ)
 have HQ4 := lh (OwnS.next Tryz.kindQQ HQ3.out e8)
 have HX4 := lh (OwnS.next Tryz.kindRR HX3.out e8)
 have HF4 := lh (OwnS.next Tryz.kindRR HF3.out e8)
 have HB4 := lh (Ja HB3.out e8)
 have HKN4 := lh (fun w' (hb : Below (w4.alloc (.cells #[.slice A3 kk c3] 30)).heap.size (w4.alloc (.cells #[.slice A3 kk c3] 30)) w') => HKN3.out w' (Ja e8 hb))
 obtain ⟨gm, aF⟩ : ∃ gm, w4.heap.size = gm := ⟨_, rfl⟩
 rw [aF] at b0
 go_wp2_with fail
 try rw [aF]
 have bM : gm < (w4.alloc (.cells #[.slice A3 kk c3] 30)).heap.size := by rw [<- aF]; simp
 clear bK bL aJ e8 HX3 HF3 HB3 HQ3 HKN3 aF
 generalize w4.alloc (.cells #[.slice A3 kk c3] 30) = w5 at *
 have x0 := b0.c1
 have aK := Vo HL.out.2 (fun l hl => (HF.out l hl).1) (by omega) (by omega) (show kk <= 12 by omega)
 rw [if_pos bE] at aK
 have aL : Qt f x = 0 := by
  have := Vz HL.out.1 HL.out.2 (fun l hl => (HX.out l hl).1) (fun l hl => (HF.out l hl).1) hwd1 (by omega) hwd1 (by omega) (by omega) (by omega)
  rw [this]
  unfold Ko
  rw [if_neg (by omega), if_neg (by omega)]
 have aM : MF w5 w5.heap.size A3 A4 kk nn wd 200 5 f x := ⟨⟨OwnS.readS (fun h => OwnQ.reads_ h) HP4.out, OwnS.readS (fun h => OwnQ.reads_ h) HQ4.out, Nat.le_refl _, bE, by omega, by omega, by omega, fun l hl => (HF.out l hl).1, fun l hl => (HX.out l hl).1, by omega, by omega, fun l hl y hy => ((HF.out l hl).2 y hy).mono (by omega), fun l hl y hy => ((HX.out l hl).2 y hy).mono (by omega), HT.out.next HB4.out⟩, by omega, by have := Nat.mul_le_mul (show nn <= 8 by omega) (show 5 + 1 <= 6 by omega); omega, fun l hl => (HX.out l hl).2, hwd1⟩
 have bN := Jfj A3 A4 kk c3 nn c4 wd w5.heap.size 200 5 3 f x w5 aM (by omega) aK aL
 have bO := fun w' (hb : Below w5.heap.size w5 w') => Jgp A3 A4 kk c3 nn c4 wd w5.heap.size 200 f x w' (aM.next hb).mx0 hwd1 aL
 have bP : (Qj wd x f 3).length = kk /\ ∀ l ∈ Qj wd x f 3, l.length = wd := ⟨by rw [Jb1]; exact HL.out.2, Jb0 (fun l hl => (HF.out l hl).1) 3⟩
 have bQ : (Xr wd f x).length = kk /\ ∀ l ∈ Xr wd f x, l.length = wd := ⟨by rw [Jaq]; exact HL.out.2, Jhg (fun l hl => (HF.out l hl).1)⟩
 generalize Qj wd x f 3 = F at *
 generalize Ze wd x f 3 = K at *
 generalize Xr wd f x = G at *
 generalize Zq wd f x = M at *
 generalize Jl F x = gl at *
 have HFT := lh bN
 have HST := lh bO
 have HL1 := lh bP
 have HL2 := lh bQ
 clear aK aL aM bN bO bP bQ
 go_wp2_with fail
 refine HFT.out.mono ?_
 rintro e w6 ⟨gd, gg, kv, rfl, cM, q8, bR, -, aN⟩
 obtain ⟨Ak, ck, bS⟩ := OwnQ.form3m bR
 obtain ⟨nk, bT⟩ : ∃ nk, K.length = nk := ⟨_, rfl⟩
 rw [bT] at bS
 subst bS
 clear bR bT
 have aO := Jb w6 (.cells #[.slice (some ⟨gd, 0, none⟩) kk kk, .slice (some ⟨gg, 0, none⟩) nn nn, .slice Ak nk ck] 33)
 have e8 := Ja aN aO
 have b1 := Blk.new w6 33 #[.slice (some ⟨gd, 0, none⟩) kk kk, .slice (some ⟨gg, 0, none⟩) nn nn, .slice Ak nk ck]
 have HD7 := lh (OwnSA.next (Qm (by decide)).toKind q8 aO)
 have b0 := b0.below e8 bM
 have HB7 := lh e8
 obtain ⟨gr, aP⟩ : ∃ gr, w6.heap.size = gr := ⟨_, rfl⟩
 rw [aP] at b1
 have cC : w5.heap.size <= gr := by rw [<- aP]; exact aN.size
 obtain ⟨w7, s9⟩ : ∃ w7, w6.alloc (.cells #[.slice (some ⟨gd, 0, none⟩) kk kk, .slice (some ⟨gg, 0, none⟩) nn nn, .slice Ak nk ck] 33) = w7 := ⟨_, rfl⟩
 rw [s9] at HB7 HD7 b0 b1
 rw [aP] at HD7
 have x0 := b0.c1
 rw [<- s9] at x0
 have HST7 := lh (HST.out _ HB7.out)
 rw [<- s9] at HST7
 have HW7 := lh s9
 clear q8 aN aO e8 HFT HST s9
 go_wp2_with fail
 refine HST7.out.mono ?_
 rw [HW7.out]
 rintro e w8 ⟨g2, rfl, cN, q8, aQ⟩
 have aG := Jb w8 (.cells #[.slice (some ⟨g2, 0, none⟩) kk kk] 30)
 have e8 := Ja aQ aG
 have b2 := Blk.new w8 30 #[.slice (some ⟨g2, 0, none⟩) kk kk]
 have HE9 := lh ((OwnSA.next (Qm (by decide)).toKind q8 aG).more aG.size)
 have HD9 := lh (OwnSA.next (Qm (by decide)).toKind HD7.out e8)
 have b0 := b0.below e8 b0.lt
 have cD := b1.lt
 have b1 := b1.below e8 b1.lt
 have HB9 := lh (Ja HB7.out e8)
 obtain ⟨gs, t7⟩ : ∃ gs, w8.heap.size = gs := ⟨_, rfl⟩
 rw [t7] at b2
 have aR : w7.heap.size <= gs := by rw [<- t7]; exact aQ.size
 have bU := HB7.out.size
 obtain ⟨w9, p7⟩ : ∃ w9, w8.alloc (.cells #[.slice (some ⟨g2, 0, none⟩) kk kk] 30) = w9 := ⟨_, rfl⟩
 have q1 : ((kk : Int) == 0) = false := by simp; omega
 have q2 : ¬ (kk : Int) = 0 := by omega
 have y0 := b0.c1
 obtain ⟨y1, y2, y3⟩ := b1.c3
 have y4 := b2.c1
 have HY := lh (show gr ≠ gs from by omega)
 rw [p7] at HE9 HD9 HB9
 have B0 := lh (p7 ▸ b0 : Blk w9 gm _ _)
 have B1 := lh (p7 ▸ b1 : Blk w9 gr _ _)
 have B2 := lh (p7 ▸ b2 : Blk w9 gs _ _)
 have HW9 := lh p7
 clear q8 aQ aG e8 HST7 x0 HD7 HB7 b0 b1 b2 p7
 go_upto_region 9 with fail
 try rw [HW9.out]
 go_cut [] (fun wc => Below w5.heap.size w5 wc /\ Blk wc gm 30 #[.slice A3 kk c3] /\ Blk wc gs 30 #[.slice (some ⟨g2, 0, none⟩) kk kk] /\ ∃ B, OwnSA 31 OwnQ w7.heap.size B wc (.slice (some ⟨g2, 0, none⟩) kk kk) G)
 case first =>
  obtain ⟨l0, j9⟩ : ∃ l, F[0]? = some l := ⟨_, List.getElem?_eq_getElem (by have := HL1.out.1; omega)⟩
  have o0 := HL1.out.2 l0 (List.mem_of_getElem? j9)
  obtain ⟨A8, m8, cp8, t8, j0, u4, x7⟩ := OwnSA.at_ (Qm (T := 31) (by decide)) HD9.out j9
  obtain ⟨ga, rfl, x8⟩ := OwnQ.addr' j0 (by rw [o0]; omega)
  obtain rfl : m8 = wd := by rw [x8, o0]
  obtain ⟨o, ho⟩ : ∃ o, l0[0]? = some o := ⟨_, List.getElem?_eq_getElem (by omega)⟩
  have p8 := u4 ga rfl
  have b3 := At1.mk' t8
  have b4 := OwnQ.at0 j0 ho
  have j6 := fun w => Jnp 77 w (by omega) (by omega)
  obtain ⟨q7, aS⟩ : ∃ q : Rat, ((77 : Int) : Rat) = q := ⟨_, rfl⟩
  rw [aS] at j6
  unfold qV at j6
  have HOF7 := lh j6
  have HR8 := lh j0
  have x9 : (⟨gd, 0, none⟩ : Addr).add 0 = ⟨gd, 0, none⟩ := Addr.add_zero' _
  have y8 : (⟨ga, 0, none⟩ : Addr).add 0 = ⟨ga, 0, none⟩ := Addr.add_zero' _
  have p1 : (0 : Int) < (kk : Int) := by omega
  have p2 : (0 : Int) < (m8 : Int) := by omega
  have p3 : ¬ kk = 0 := by omega
  have p4 : 0 < kk := by omega
  have p5 : ¬ m8 = 0 := by omega
  have p6 : 0 < m8 := by omega
  have b0 := B0.out
  have b1 := B1.out
  have b2 := B2.out
  have cO := HB9.out.size
  have ny1 : ¬ ga = gr := by omega
  have ny2 : ¬ gr = ga := by omega
  have ny3 : ¬ ga = gd := fun e => by
   have h3 := (x7 ga rfl).1
   exact h3 e
  have ny4 : ¬ gd = ga := fun e => ny3 e.symm
  clear x7 u4 j0 t8 ho j9 o0 j6 x8
  obtain ⟨cE, cF, cG⟩ := b1.c3; have c1 := b1.drew; have bV := c1.lt; obtain ⟨aT, aU⟩ := b3.c2; have c3 := b3.drew; have y9 := c3.lt; have c4 := b4.drew; have aA := c4.lt; have hc := Ji w9; go_region_held3 (fun w' => w'.cell? ⟨gr, 0, none⟩ = some (.slice (some ⟨gd, 0, none⟩) kk kk) /\ w'.cell? ⟨gr, 1, none⟩ = some (.slice (some ⟨gg, 0, none⟩) nn nn) /\ w'.cell? ⟨gr, 2, none⟩ = some (.slice Ak nk ck) /\ w'.cell? ⟨gd, 0, none⟩ = some (.slice (some ⟨ga, 0, none⟩) m8 cp8)) (go_keep) (first | (go_at_call 35; (with_reducible refine (HOF7.out _).mono ?_); rintro e w1 ⟨rfl, j7⟩; (try clear aV aW aX); obtain ⟨c1, aV, aW, aX⟩ := c1.zc3 j7; (try clear bV); have bV := c1.lt; (try clear o6 o7); obtain ⟨c3, o6, o7⟩ := c3.zc2 j7; (try clear y9); have y9 := c3.lt; have c4 := c4.below j7 c4.lt; (try clear aA); have aA := c4.lt; have hc := Ja hc j7; obtain ⟨v0, v1, v2, v3, v4⟩ := c4.c5; have e9 := OwnW.next HR8.out hc; have z0 := OwnQ.frozen e9 0; have z1 := OwnQ.frozen e9 1; have z2 := OwnQ.frozen e9 2; have z3 := OwnQ.frozen e9 3; have z4 := OwnQ.frozen e9 4))
  all_goals
   go_wp2
   go_meet
   have p9 := Ja HB9.out hc
   have aB := (((((Exc.refl ga w1).set_ 0 (.bool (decide (q7.num < 0)))).set_ 1 (.int .u64 (lo q7.num.natAbs : Int))).set_ 2 (.string (mo q7.num.natAbs))).set_ 3 (.int .u64 (lo (qden q7) : Int))).set_ 4 (.string (mo (qden q7)))
   exact ⟨((((p9.setCell p8.1 _).setCell p8.1 _).setCell p8.1 _).setCell p8.1 _).setCell p8.1 _, (B0.out.below hc B0.out.lt).exc aB (by omega), (B2.out.below hc B2.out.lt).exc aB (by omega), _, OwnSA.excQ (by decide) (OwnSA.next (Qm (by decide)).toKind HE9.out hc) aB (.inl (by omega)) (by omega)⟩
 case rest =>
  obtain ⟨bW, c0, c2, Bz, aY⟩ := hcut
  rename World => wc
  have HBC := lh bW
  obtain ⟨kl, cP⟩ : ∃ kl, kk - 1 = kl := ⟨_, rfl⟩
  have e5 : (kk : Int) - 1 = (kl : Int) := by omega
  have e6 : IntKind.i64.wrap (kl : Int) = (kl : Int) := IntWalk.i64_in _ (by omega)
  have HS3 := lh (And.intro aR bU)
  have cH : w5.heap.size <= g2 := by omega
  clear y0 y1 y2 y3 y4 HE9 HD9 HB9 B0 B1 B2 HW9 HW7 bW
  go_upto_region 10 with fail
  go_cut [] (fun wz => Below w5.heap.size w5 wz /\ Blk wz gm 30 #[.slice A3 kk c3])
  case first =>
   obtain ⟨l0, j9⟩ : ∃ l, G[kl]? = some l := ⟨_, List.getElem?_eq_getElem (by have := HL2.out.1; omega)⟩
   have o0 := HL2.out.2 l0 (List.mem_of_getElem? j9)
   obtain ⟨A8, m8, cp8, t8, j0, u4, x7⟩ := OwnSA.at_ (Qm (T := 31) (by decide)) aY j9
   obtain ⟨ga, rfl, x8⟩ := OwnQ.addr' j0 (by rw [o0]; omega)
   obtain rfl : m8 = wd := by rw [x8, o0]
   obtain ⟨o, ho⟩ : ∃ o, l0[0]? = some o := ⟨_, List.getElem?_eq_getElem (by omega)⟩
   have p8 := (u4 ga rfl).1
   have b2 := At1.mk' c2.c1
   have b3 := At1.mk' t8
   have b4 := OwnQ.at0 j0 ho
   have j6 := fun w => Jnp 78 w (by omega) (by omega)
   obtain ⟨q7, aS⟩ : ∃ q : Rat, ((78 : Int) : Rat) = q := ⟨_, rfl⟩
   rw [aS] at j6
   unfold qV at j6
   have HOF7 := lh j6
   have HR8 := lh j0
   have x9 : (⟨g2, 0, none⟩ : Addr).add kl = ⟨g2, kl, none⟩ := by rcases kl with _ | i <;> simp [Addr.add]
   have y8 : (⟨ga, 0, none⟩ : Addr).add 0 = ⟨ga, 0, none⟩ := Addr.add_zero' _
   have p1 : (kl : Int) < (kk : Int) := by omega
   have p2 : (0 : Int) < (m8 : Int) := by omega
   have p5 : ¬ m8 = 0 := by omega
   have p6 : 0 < m8 := by omega
   have bU := HS3.out.2
   have cI : gm < w5.heap.size := bM
   have aZ : ga ≠ gs := fun e => by
    obtain ⟨cs', fr', k3⟩ := OwnW.blk j0 (g := ga) rfl
    have k4 := c2
    rw [<- e, Blk, k3] at k4
    injection k4 with k4
    injection k4 with _ k4 _
    exact absurd k4 (by decide)
   have ny1 : ¬ ga = gs := aZ
   have ny2 : ¬ gs = ga := fun e => aZ e.symm
   have ny3 : ¬ ga = g2 := fun e => (x7 ga rfl).1 e
   have ny4 : ¬ g2 = ga := fun e => ny3 e.symm
   have C0 := lh c0
   clear x7 u4 j0 t8 ho j9 o0 j6 x8 aZ aY c2 c0
   obtain ⟨cJ, cK⟩ := b2.c2; have c2 := b2.drew; have bX := c2.lt; obtain ⟨aT, aU⟩ := b3.c2; have c3 := b3.drew; have y9 := c3.lt; have c4 := b4.drew; have aA := c4.lt; have hc := Ji wc; go_region_held3 (fun w' => w'.cell? ⟨gs, 0, none⟩ = some (.slice (some ⟨g2, 0, none⟩) kk kk) /\ w'.cell? ⟨g2, kl, none⟩ = some (.slice (some ⟨ga, 0, none⟩) m8 cp8)) (go_keep) (first | (go_at_call 35; (with_reducible refine (HOF7.out _).mono ?_); rintro e w1 ⟨rfl, j7⟩; (try clear bA bB); obtain ⟨c2, bA, bB⟩ := c2.zc2 j7; (try clear bX); have bX := c2.lt; (try clear o6 o7); obtain ⟨c3, o6, o7⟩ := c3.zc2 j7; (try clear y9); have y9 := c3.lt; have c4 := c4.below j7 c4.lt; (try clear aA); have aA := c4.lt; have hc := Ja hc j7; obtain ⟨v0, v1, v2, v3, v4⟩ := c4.c5; have e9 := OwnW.next HR8.out hc; have z0 := OwnQ.frozen e9 0; have z1 := OwnQ.frozen e9 1; have z2 := OwnQ.frozen e9 2; have z3 := OwnQ.frozen e9 3; have z4 := OwnQ.frozen e9 4))
   all_goals
    go_wp2
    go_meet
    have p9 := HBC.out.trans (hc.mono HBC.out.size)
    have aB := (((((Exc.refl ga w1).set_ 0 (.bool (decide (q7.num < 0)))).set_ 1 (.int .u64 (lo q7.num.natAbs : Int))).set_ 2 (.string (mo q7.num.natAbs))).set_ 3 (.int .u64 (lo (qden q7) : Int))).set_ 4 (.string (mo (qden q7)))
    have aC : w5.heap.size <= ga := by omega
    exact ⟨((((p9.setCell aC _).setCell aC _).setCell aC _).setCell aC _).setCell aC _, (C0.out.below hc C0.out.lt).exc aB (by omega)⟩
  case rest =>
   obtain ⟨p9, c0⟩ := hcut
   rename World => wz
   have HBZ := lh p9
   have x0 := c0.c1
   have C0 := lh c0
   have HSR := lh (fun (w' : World) (A A' : Option Addr) (n c c' : Nat) (xl : List (List Rat)) (hx : ∀ l ∈ xl, l.length = wd /\ ∀ y ∈ l, QS 5 y) (hn : n <= 100) (h : OwnQQ w' (.slice A n c) xl) (h' : Zs w' (.slice A' n c') xl) => Jfb A A' n c c' w'.heap.size w'.heap.size xl w' (OwnS.readS (fun h => OwnQ.reads_ h) h) (OwnS.readS (fun h => OwnR.reads_ h) h') zd zd (by omega) (fun l hl => ⟨by rw [(hx l hl).1]; omega, fun y hy => ((hx l hl).2 y hy).mono (by omega)⟩))
   clear p9 c0 c2 aY HBC
   go_wp2_with fail
   refine (HKN4.out _ HBZ.out).mono ?_
   rintro e w11 ⟨rfl, o8⟩
   have HB11 := lh (Ja HBZ.out o8)
   have C1 := lh (C0.out.below o8 C0.out.lt)
   clear o8 HBZ C0 x0
   go_wp2_with fail
   refine (HSR.out _ _ _ _ _ _ _ HX.out (by omega) (OwnS.next Tryz.kindQQ HQ4.out HB11.out) (OwnS.next Tryz.kindRR HX4.out HB11.out)).mono ?_
   rintro e w12 ⟨rfl, o9⟩
   have HB12 := lh (Ja HB11.out o9)
   have x0 := (C1.out.below o9 C1.out.lt).c1
   clear o9 HB11 C1
   go_wp2_with fail
   refine (HSR.out _ _ _ _ _ _ _ HF.out (by omega) (OwnS.next Tryz.kindQQ HP4.out HB12.out) (OwnS.next Tryz.kindRR HF4.out HB12.out)).mono ?_
   rintro e w13 ⟨rfl, aD⟩
   have HB13 := lh (Ja (Ja HB4.out HB12.out) aD)
   clear aD HB12 x0
   go_wp2
   go_ret
   exact ⟨rfl, HB13.out⟩
