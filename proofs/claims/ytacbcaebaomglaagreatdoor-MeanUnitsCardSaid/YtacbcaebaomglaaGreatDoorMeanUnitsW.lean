import Derived.Test.YtacbcaebaomglaaGreatDoorMeanN
namespace Go.Proofs.YtacbcaebaomglaaGreatDoor
set_option maxRecDepth 100000
set_option maxHeartbeats 8000000
open Go.RowKit
set_option linter.all false
theorem Jp6 {z q : Int} (h : z.tdiv 9 = q) (hz : I64 z) : I64 q := by
 have h1 := Int.mul_tdiv_add_tmod z 9
 have h2 := Int.tmod_lt_of_pos z (show (0 : Int) < 9 by omega)
 have h3 := Int.lt_tmod_of_pos z (show (0 : Int) < 9 by omega)
 rw [h] at h1
 have := hz.1
 have := hz.2
 exact ⟨by omega, by omega⟩
theorem Jp5 : ∀ p, p < 9 -> ∀ q, q < 5 -> 0 < Rat.divInt ((p + 1 : Nat) : Int) ((q + 1 : Nat) : Int) /\ QS 4 (Rat.divInt ((p + 1 : Nat) : Int) ((q + 1 : Nat) : Int)) := by
 unfold QS
 decide +kernel
theorem Jpu (A : Option Addr) (n1 c1 : Nat) (zl : List Int) (A' : Option Addr) (n2 c2 : Nat) (zc : List Int) (zn zk zw zy : Int) (w : World) (h1 : ArgZ w A n1 c1 zl) (h2 : ArgZ w A' n2 c2 zc) (hn : I64 zn) (hk : I64 zk) (hw : I64 zw) (hy : I64 zy) (hT : Tab w) :
  Calls Tryz.prog 4 #[.slice A n1 c1, .slice A' n2 c2, .int .i64 zn, .int .i64 zk, .int .i64 zw, .int .i64 zy] w (Ret (.bool true) w) := by
 obtain ⟨k4, eK, dH⟩ := Ue zk 4 w hk.1 hk.2 (by omega) (by omega)
 obtain ⟨kk, eL⟩ : ∃ kk, k4 + 1 = kk := ⟨_, rfl⟩
 have e2 : (k4 : Int) + 1 = (kk : Int) := by omega
 have e3 : IntKind.i64.wrap (kk : Int) = (kk : Int) := IntWalk.i64_in _ (by omega)
 obtain ⟨nn, wd, fO, hwd1, eM, dI⟩ := Jpj A n1 c1 zl A' n2 c2 zc zn zw kk w h1 h2 hn hw (by omega)
 have hx : ∀ l ∈ Qp zl wd nn, l.length = wd /\ ∀ y ∈ l, QS 5 y := fun l hl => by
  obtain ⟨zs', rfl⟩ := Zz hl
  exact ⟨Zf zs' wd, Zm zs' wd⟩
 have hf : ∀ l ∈ Qp zc wd kk, l.length = wd /\ ∀ y ∈ l, QS 5 y := fun l hl => by
  obtain ⟨zs', rfl⟩ := Zz hl
  exact ⟨Zf zs' wd, Zm zs' wd⟩
 have cE := Xp zl wd nn
 have cF := Xp zc wd kk
 generalize Qp zl wd nn = x at *
 generalize Qp zc wd kk = f at *
 have t8 : 1 <= kk := by omega
 have eN : kk <= 4 := by omega
 have HX := lh hx
 have HF := lh hf
 have HL := lh (And.intro cE cF)
 have HP4 := lh dH
 have HDR := lh dI
 have HT := lh hT
 have HOF := lh (Jgf (wd := wd) (k := 5) cF (by omega) (by omega) (fun l hl => (hf l hl).1) (fun l hl => (hf l hl).2) (by omega))
 have HIN := lh (Jgt (wd := wd) (k := 5) cE (by omega) (by omega) (fun l hl => (hx l hl).1) (fun l hl => (hx l hl).2) (by omega))
 clear hx hf cE cF dI dH hT h1 h2 hn hk hw eL eK
 go_enter Tryz.func4, Tryz.ntmps4
 go_wp2_with fail
 refine (HP4.out _).mono ?_
 rintro e w1 ⟨rfl, rfl⟩
 go_wp2_with fail
 refine HDR.out.mono ?_
 rintro e w1 ⟨Ax, cx, Am, cm, rfl, dJ, dK, dL⟩
 have HX1 := lh dJ
 have HF1 := lh dK
 have HB1 := lh dL
 clear dJ dK dL HDR HP4
 have HLE := lh (Jko Ax nn cx w1.heap.size wd x w1 (OwnS.readS (fun h => OwnR.reads_ h) HX1.out) zd (by omega) hwd1 (by omega) (fun l hl => (HX.out l hl).1))
 go_wp2_with fail
 refine HLE.out.mono ?_
 rintro e w2 ⟨rfl, bP⟩
 have HX2 := lh (OwnS.next Tryz.kindRR HX1.out bP)
 have HF2 := lh (OwnS.next Tryz.kindRR HF1.out bP)
 have HB2 := lh (Ja HB1.out bP)
 clear bP HLE HX1 HF1 HB1
 have HKN := lh (fun w' (hb : Below w2.heap.size w2 w') => Ug w' (HT.out.next (Ja HB2.out hb)))
 by_cases dM : 1 <= nn
 case neg =>
  rw [decide_eq_false dM]
  go_wp2_with fail
  refine (HKN.out _ (Below.refl _ _)).mono ?_
  rintro e w3 ⟨rfl, bQ⟩
  have HB3 := lh (Ja HB2.out bQ)
  clear bQ
  go_wp2
  go_ret
  exact ⟨rfl, HB3.out⟩
 rw [decide_eq_true dM]
 obtain ⟨p0, cG, dN⟩ := Ue zy 9 w hy.1 hy.2 (by omega) (by omega)
 obtain ⟨zq, u4⟩ : ∃ zq, zy.tdiv 9 = zq := ⟨_, rfl⟩
 have bR := Jp6 u4 hy
 obtain ⟨q0, cH, dO⟩ := Ue zq 5 w bR.1 bR.2 (by omega) (by omega)
 obtain ⟨p1, dP⟩ : ∃ p1, p0 + 1 = p1 := ⟨_, rfl⟩
 obtain ⟨q1, dQ⟩ : ∃ q1, q0 + 1 = q1 := ⟨_, rfl⟩
 have e4 : (p0 : Int) + 1 = (p1 : Int) := by omega
 have e5 : (q0 : Int) + 1 = (q1 : Int) := by omega
 have e6 : IntKind.i64.wrap (p1 : Int) = (p1 : Int) := IntWalk.i64_in _ (by omega)
 have e7 : IntKind.i64.wrap (q1 : Int) = (q1 : Int) := IntWalk.i64_in _ (by omega)
 have cI := fun w => Jhp (p1 : Int) (q1 : Int) w (by omega) (by omega) (by omega) (by omega) (by omega)
 have cJ := Jp5 p0 cG q0 cH
 rw [dP, dQ] at cJ
 obtain ⟨u, hu⟩ : ∃ u, Rat.divInt (p1 : Int) (q1 : Int) = u := ⟨_, rfl⟩
 rw [hu] at cI cJ
 obtain ⟨dR, dS⟩ := cJ
 have eO : wrap64 zq = zq := IntWalk.wrap64_in _ bR
 have HPY := lh dN
 have HPQ := lh dO
 have HOV := lh cI
 have HU0 := lh dR
 have HQU := lh dS
 clear dN dO cI dR dS hu bR dP dQ hy
 go_upto_region 4 with fail
 go_cut [15] (fun p wc => Jf4 w2 u p wc)
 case first =>
  go_wp2_with fail
  refine (HPY.out _).mono ?_
  rintro e w3 ⟨rfl, rfl⟩
  go_wp2_with fail
  refine (HPQ.out _).mono ?_
  rintro e w3 ⟨rfl, rfl⟩
  go_wp2_with fail
  refine (HOV.out _).mono ?_
  rintro e w3 ⟨V, rfl, hR, bQ⟩
  obtain ⟨g9, A9, l9, c9, A9', l9', c9', rfl⟩ := hR.shape
  go_wp2
  go_meet
  exact Jcs bQ hR
 case rest =>
  obtain ⟨gu, ng, A7, l7, d7, A7', l7', d7', rfl, eP, bu, x7, bC⟩ := hcut
  rename World => w3
  have HX3 := lh (OwnS.next Tryz.kindRR HX2.out bC)
  have HF3 := lh (OwnS.next Tryz.kindRR HF2.out bC)
  have HB3 := lh (Ja HB2.out bC)
  have HKN3 := lh (fun w' (hb : Below w3.heap.size w3 w') => HKN.out w' (Ja bC hb))
  have HBU := lh bu
  have HQ3 := lh x7
  obtain ⟨gx, rfl⟩ : ∃ g, Ax = some ⟨g, 0, none⟩ := OwnS.addr HX3.out (by rw [HL.out.1]; omega)
  obtain ⟨gf, rfl⟩ : ∃ g, Am = some ⟨g, 0, none⟩ := OwnS.addr HF3.out (by rw [HL.out.2]; omega)
  have HTM := lh (fun (w' : World) (A1 : Option Addr) (c1 : Nat) (l : List Rat) (hb : Below w3.heap.size w3 w') (h : OwnR w' (.slice A1 wd c1) l) (hl : l.length = wd) (hs : ∀ y ∈ l, QS 5 y) => Jqg A1 wd c1 w'.heap.size l u (.agg #[.bool ng, .slice A7 l7 d7, .slice A7' l7' d7']) w' (by have := OwnR.reads h; rw [hl] at this; exact this) ((x7.next zd hb).more hb.size) zd (by omega) (fun y hy => (hs y hy).mono (by omega)) (HQU.out.mono (by omega)))
  clear bu x7 bC HX2 HF2 HB2 HKN eP HPY HPQ HOV eO u4
  have dT : (x.map (Jpf u)).length = nn := by rw [List.length_map]; exact HL.out.1
  have dU : (f.map (Jpf u)).length = kk := by rw [List.length_map]; exact HL.out.2
  have HXZ := lh (And.intro dT dU)
  clear dT dU
  go_upto_block 0 with fail
  go_cut [16] (fun v wc => ∃ Ay cy, v = .slice Ay nn cy /\ Zs wc (.slice Ay nn cy) (x.map (Jpf u)) /\ Below w3.heap.size w3 wc)
  case first =>
   go_wp2_with fail
   go_loopw [16, 18] (fun v p wr => ∃ i : Nat, i <= nn /\ p = .int .i64 (i : Int) /\ Zs wr v ((x.map (Jpf u)).take i) /\ (∀ b, v.ownBlock = some b -> w3.heap.size <= b) /\ Below w3.heap.size w3 wr) (fun _ p _ => nn - (intOf p).toNat)
   case atStart => exact ⟨0, by omega, rfl, OwnS.nil _ _ _, (fun b h => by cases h), Below.refl _ _⟩
   case round =>
    obtain ⟨i, hi, rfl, ho, x8, e8⟩ := hrel
    rename World => wr
    by_cases p7 : i < nn
    ·have k1 : (i : Int) < (nn : Int) := by omega
     obtain ⟨l, hl⟩ : ∃ l, x[i]? = some l := ⟨_, List.getElem?_eq_getElem (by rw [HL.out.1]; exact p7)⟩
     have hlx := HX.out l (List.mem_of_getElem? hl)
     obtain ⟨A1, m1, d1, x9, o8⟩ := OwnS.at_ HX3.out hl
     have p8 := OwnR.next o8 e8
     obtain ⟨A1', d1', p9, -, -⟩ := OwnR.form p8
     rw [hlx.1] at p9
     injection p9 with e1 e2' e3'
     rw [e2'] at x9 p8
     clear e1 e2' e3'
     have cK : (⟨gx, 0, none⟩ : Addr).add i = ⟨gx, i, none⟩ := by rcases i with _ | i <;> simp [Addr.add]
     have d1w := At1.mk' x9
     have b1 := d1w.below e8 d1w.lt
     have b2 := HBU.out.below e8 HBU.out.lt
     have bD : (x.map (Jpf u)).take (i + 1) = (x.map (Jpf u)).take i ++ [Jpf u l] := by rw [List.take_add_one, List.getElem?_map, hl]; rfl
     have HTI := lh (fun w' (hb : Below wr.heap.size wr w') => HTM.out w' A1 d1 l (e8.trans (hb.mono e8.size)) (OwnR.next p8 hb) hlx.1 hlx.2)
     have HSN := lh bD
     have HO := lh ho
     have HFR := lh x8
     have HBW := lh e8
     have HLK := lh (show ((x.map (Jpf u)).take i).length <= 1000000 by rw [List.length_take]; omega)
     have D1 := lh d1w
     clear bD ho x8 e8 hl hlx p8 o8 x9 d1w
     go_upto_region 9 with fail
     obtain ⟨cL, cM⟩ := b1.c2; have c1 := b1.drew; have bE := c1.lt; obtain ⟨cN, cO, cP⟩ := b2.c3; have c2 := b2.drew; have bF := c2.lt; have hc := Ji wr; go_region_held3 (fun w' => w'.cell? ⟨gx, i, none⟩ = some (.slice A1 wd d1) /\ w'.cell? ⟨gu, 0, none⟩ = some (.bool ng) /\ w'.cell? ⟨gu, 1, none⟩ = some (.slice A7 l7 d7) /\ w'.cell? ⟨gu, 2, none⟩ = some (.slice A7' l7' d7')) (go_keep) (first | (go_at_call 28; (with_reducible refine (HTI.out _ hc).mono ?_); rintro e w1 ⟨v1, rfl, ⟨A1, c1c, p9⟩, cQ, j9⟩; subst p9; (try clear j0 y8); obtain ⟨c1, j0, y8⟩ := c1.zc2 j9; (try clear bE); have bE := c1.lt; (try clear j6 j7 j8); obtain ⟨c2, j6, j7, j8⟩ := c2.zc3 j9; (try clear bF); have bF := c2.lt; have hc := Ja hc j9) | (refine Jqe Tryz.kindRR Tryz.eltM rfl (.tmp 55) (.tmp 62) rfl w1 _ ((x.map (Jpf u)).take i) A1 wd c1c (Jpf u l) (by simp [Act.eval, Act.put]) (OwnS.next Tryz.kindRR HO.out hc) cQ (by simp [Act.eval, Act.put]) HLK.out ?_; intro v7 w7 bG y9; have h0 := HBW.out.trans (hc.mono HBW.out.size); have h7 := h0.trans (y9.below h0.size HFR.out); have HO7 := lh bG; have HF7 := lh (y9.fresh h0.size HFR.out); have H7 := lh h7; clear j0 j6 j7 j8; have c1 := D1.out.below h7 D1.out.lt; have c2 := HBU.out.below h7 HBU.out.lt; obtain ⟨j0, -⟩ := c1.c2; obtain ⟨j6, j7, j8⟩ := c2.c3; clear bG y9 h7 h0))
     all_goals
      go_wp2
      exact ⟨⟨i + 1, by omega, by go_num, by rw [HSN.out]; exact HO7.out, HF7.out, H7.out⟩, by simp [intOf]; omega⟩
    obtain rfl : i = nn := by omega
    have k1 : ¬ (i : Int) < (i : Int) := by omega
    rw [List.take_of_length_le (by rw [HXZ.out.1]; omega)] at ho
    obtain ⟨Ay, cy, bH⟩ := OwnS.form ho
    rw [HXZ.out.1] at bH
    subst bH
    have HO := lh ho
    have HBW := lh e8
    clear ho x8 e8
    go_wp2
    go_meet
    exact ⟨Ay, cy, rfl, HO.out, HBW.out⟩
  case rest =>
   obtain ⟨Ay, cy, rfl, dV, q8⟩ := hcut
   rename World => w4
   have HY4 := lh dV
   have HX4 := lh (OwnS.next Tryz.kindRR HX3.out q8)
   have HF4 := lh (OwnS.next Tryz.kindRR HF3.out q8)
   have HB4 := lh (Ja HB3.out q8)
   have HBU4 := lh (HBU.out.below q8 HBU.out.lt)
   have HKN4 := lh (fun w' (hb : Below w4.heap.size w4 w') => HKN3.out w' (Ja q8 hb))
   have HQ4 := lh ((HQ3.out.next zd q8).more q8.size)
   have HTM4 := lh (fun (w' : World) (A1 : Option Addr) (c1 : Nat) (l : List Rat) (hb : Below w4.heap.size w4 w') (h : OwnR w' (.slice A1 wd c1) l) (hl : l.length = wd) (hs : ∀ y ∈ l, QS 5 y) => HTM.out w' A1 c1 l (Ja q8 hb) h hl hs)
   clear dV q8 HX3 HF3 HB3 HBU HKN3 HTM HQ3
   go_upto_block 2 with fail
   go_cut [17] (fun v wc => ∃ Ao co, v = .slice Ao kk co /\ Zs wc (.slice Ao kk co) (f.map (Jpf u)) /\ Below w4.heap.size w4 wc)
   case first =>
    go_wp2_with fail
    go_loopw [17, 19] (fun v p wr => ∃ i : Nat, i <= kk /\ p = .int .i64 (i : Int) /\ Zs wr v ((f.map (Jpf u)).take i) /\ (∀ b, v.ownBlock = some b -> w4.heap.size <= b) /\ Below w4.heap.size w4 wr) (fun _ p _ => kk - (intOf p).toNat)
    case atStart => exact ⟨0, by omega, rfl, OwnS.nil _ _ _, (fun b h => by cases h), Below.refl _ _⟩
    case round =>
     obtain ⟨i, hi, rfl, ho, x8, e8⟩ := hrel
     rename World => wr
     by_cases p7 : i < kk
     ·have k1 : (i : Int) < (kk : Int) := by omega
      obtain ⟨l, hl⟩ : ∃ l, f[i]? = some l := ⟨_, List.getElem?_eq_getElem (by rw [HL.out.2]; exact p7)⟩
      have hlx := HF.out l (List.mem_of_getElem? hl)
      obtain ⟨A1, m1, d1, x9, o8⟩ := OwnS.at_ HF4.out hl
      have p8 := OwnR.next o8 e8
      obtain ⟨A1', d1', p9, -, -⟩ := OwnR.form p8
      rw [hlx.1] at p9
      injection p9 with e1 e2' e3'
      rw [e2'] at x9 p8
      clear e1 e2' e3'
      have cK : (⟨gf, 0, none⟩ : Addr).add i = ⟨gf, i, none⟩ := by rcases i with _ | i <;> simp [Addr.add]
      have d1w := At1.mk' x9
      have b1 := d1w.below e8 d1w.lt
      have b2 := HBU4.out.below e8 HBU4.out.lt
      have bD : (f.map (Jpf u)).take (i + 1) = (f.map (Jpf u)).take i ++ [Jpf u l] := by rw [List.take_add_one, List.getElem?_map, hl]; rfl
      have HTI := lh (fun w' (hb : Below wr.heap.size wr w') => HTM4.out w' A1 d1 l (e8.trans (hb.mono e8.size)) (OwnR.next p8 hb) hlx.1 hlx.2)
      have HSN := lh bD
      have HO := lh ho
      have HFR := lh x8
      have HBW := lh e8
      have HLK := lh (show ((f.map (Jpf u)).take i).length <= 1000000 by rw [List.length_take]; omega)
      have D1 := lh d1w
      clear bD ho x8 e8 hl hlx p8 o8 x9 d1w
      go_upto_region 13 with fail
      obtain ⟨cL, cM⟩ := b1.c2; have c1 := b1.drew; have bE := c1.lt; obtain ⟨cN, cO, cP⟩ := b2.c3; have c2 := b2.drew; have bF := c2.lt; have hc := Ji wr; go_region_held3 (fun w' => w'.cell? ⟨gf, i, none⟩ = some (.slice A1 wd d1) /\ w'.cell? ⟨gu, 0, none⟩ = some (.bool ng) /\ w'.cell? ⟨gu, 1, none⟩ = some (.slice A7 l7 d7) /\ w'.cell? ⟨gu, 2, none⟩ = some (.slice A7' l7' d7')) (go_keep) (first | (go_at_call 28; (with_reducible refine (HTI.out _ hc).mono ?_); rintro e w1 ⟨v1, rfl, ⟨A1, c1c, p9⟩, cQ, j9⟩; subst p9; (try clear j0 y8); obtain ⟨c1, j0, y8⟩ := c1.zc2 j9; (try clear bE); have bE := c1.lt; (try clear j6 j7 j8); obtain ⟨c2, j6, j7, j8⟩ := c2.zc3 j9; (try clear bF); have bF := c2.lt; have hc := Ja hc j9) | (refine Jqe Tryz.kindRR Tryz.eltM rfl (.tmp 70) (.tmp 77) rfl w1 _ ((f.map (Jpf u)).take i) A1 wd c1c (Jpf u l) (by simp [Act.eval, Act.put]) (OwnS.next Tryz.kindRR HO.out hc) cQ (by simp [Act.eval, Act.put]) HLK.out ?_; intro v7 w7 bG y9; have h0 := HBW.out.trans (hc.mono HBW.out.size); have h7 := h0.trans (y9.below h0.size HFR.out); have HO7 := lh bG; have HF7 := lh (y9.fresh h0.size HFR.out); have H7 := lh h7; clear j0 j6 j7 j8; have c1 := D1.out.below h7 D1.out.lt; have c2 := HBU4.out.below h7 HBU4.out.lt; obtain ⟨j0, -⟩ := c1.c2; obtain ⟨j6, j7, j8⟩ := c2.c3; clear bG y9 h7 h0))
      all_goals
       go_wp2
       exact ⟨⟨i + 1, by omega, by go_num, by rw [HSN.out]; exact HO7.out, HF7.out, H7.out⟩, by simp [intOf]; omega⟩
     obtain rfl : i = kk := by omega
     have k1 : ¬ (i : Int) < (i : Int) := by omega
     rw [List.take_of_length_le (by rw [HXZ.out.2]; omega)] at ho
     obtain ⟨Ao, co, bH⟩ := OwnS.form ho
     rw [HXZ.out.2] at bH
     subst bH
     have HO := lh ho
     have HBW := lh e8
     clear ho x8 e8
     go_wp2
     go_meet
     exact ⟨Ao, co, rfl, HO.out, HBW.out⟩
   case rest =>
    obtain ⟨Ao, co, rfl, dW, s9⟩ := hcut
    rename World => w5
    have HO5 := lh dW
    have HY5 := lh (OwnS.next Tryz.kindRR HY4.out s9)
    have HX5 := lh (OwnS.next Tryz.kindRR HX4.out s9)
    have HF5 := lh (OwnS.next Tryz.kindRR HF4.out s9)
    have HB5 := lh (Ja HB4.out s9)
    have HBU5 := lh (HBU4.out.below s9 HBU4.out.lt)
    have HKN5 := lh (fun w' (hb : Below w5.heap.size w5 w') => HKN4.out w' (Ja s9 hb))
    have HQ5 := lh ((HQ4.out.next zd s9).more s9.size)
    clear dW s9 HX4 HF4 HB4 HBU4 HKN4 HTM4 HQ4 HY4
    have bA : ∀ l ∈ x.map (Jpf u), l.length = wd /\ ∀ z ∈ l, QS 10 z := fun l hl => by
     obtain ⟨r, hr, rfl⟩ := List.mem_map.1 hl
     refine ⟨by unfold Jpf; rw [List.length_map]; exact (HX.out r hr).1, fun z hz => ?_⟩
     obtain ⟨q, hq, rfl⟩ := List.mem_map.1 hz
     exact (((HX.out r hr).2 q hq).mul HQU.out).mono (by omega)
    have o7 : ∀ l ∈ f.map (Jpf u), l.length = wd /\ ∀ z ∈ l, QS 10 z := fun l hl => by
     obtain ⟨r, hr, rfl⟩ := List.mem_map.1 hl
     refine ⟨by unfold Jpf; rw [List.length_map]; exact (HF.out r hr).1, fun z hz => ?_⟩
     obtain ⟨q, hq, rfl⟩ := List.mem_map.1 hz
     exact (((HF.out r hr).2 q hq).mul HQU.out).mono (by omega)
    have o9 := Jpz (wd := wd) HU0.out f x 200
    have cS := Jp2 HU0.out (Qj wd x f 200) x
    have bS := HXZ.out.1
    have bI := HXZ.out.2
    obtain ⟨y, hy⟩ : ∃ y, x.map (Jpf u) = y := ⟨_, rfl⟩
    obtain ⟨g, hg⟩ : ∃ g, f.map (Jpf u) = g := ⟨_, rfl⟩
    rw [hy] at bA bS o9 cS HY5
    rw [hg] at o7 bI o9 HO5
    have HINY := lh (Jgt (wd := wd) (k := 10) bS (by omega) (by omega) (fun l hl => (bA l hl).1) (fun l hl => (bA l hl).2) (by omega))
    have HOFY := lh (Jgf (wd := wd) (k := 10) bI (by omega) (by omega) (fun l hl => (o7 l hl).1) (fun l hl => (o7 l hl).2) (by omega))
    have cT : ∀ z : List (List Rat), z.length = kk -> (∀ l ∈ z, l.length = wd) -> Xd z = 0 := fun z hz cU => by
     have := Vo hz cU (by omega) (by omega) (show kk <= 12 by omega)
     rw [this, if_pos t8]
    have cV : ∀ f z : List (List Rat), f.length = kk -> (∀ l ∈ f, l.length = wd) -> z.length = nn -> (∀ l ∈ z, l.length = wd) -> Qt f z = 0 := fun f z hf eQ hz cU => by
     have := Vz hz hf cU eQ hwd1 (by omega) hwd1 (by omega) (by omega) (by omega)
     rw [this]
     unfold Ko
     rw [if_neg (by omega), if_neg (by omega)]
    have cW : ∀ (f z : List (List Rat)) (w' : World) (A A' : Option Addr) (c c' : Nat), (∀ l ∈ f, l.length = wd /\ ∀ y ∈ l, QS 10 y) -> (∀ l ∈ z, l.length = wd /\ ∀ y ∈ l, QS 10 y) -> OwnQQ w' (.slice A kk c) f -> OwnQQ w' (.slice A' nn c') z -> Tab w' -> MF w' w'.heap.size A A' kk nn wd 200 10 f z := fun f z w' A A' c c' hf hz h1 h2 hT => ⟨⟨OwnS.readS (fun h => OwnQ.reads_ h) h1, OwnS.readS (fun h => OwnQ.reads_ h) h2, Nat.le_refl _, t8, by omega, by omega, by omega, fun l hl => (hf l hl).1, fun l hl => (hz l hl).1, by omega, by omega, fun l hl y hy => ((hf l hl).2 y hy).mono (by omega), fun l hl y hy => ((hz l hl).2 y hy).mono (by omega), hT⟩, by omega, by have := Nat.mul_le_mul (show nn <= 8 by omega) (show 10 + 1 <= 11 by omega); omega, fun l hl => (hz l hl).2, hwd1⟩
    have dX : ∀ l ∈ x, l.length = wd /\ ∀ z ∈ l, QS 10 z := fun l hl => ⟨(HX.out l hl).1, fun z hz => ((HX.out l hl).2 z hz).mono (by omega)⟩
    have dY : ∀ l ∈ f, l.length = wd /\ ∀ z ∈ l, QS 10 z := fun l hl => ⟨(HF.out l hl).1, fun z hz => ((HF.out l hl).2 z hz).mono (by omega)⟩
    have dZ := fun w' A A' c c' h1 h2 hT => Jfj A A' kk c nn c' wd w'.heap.size 200 10 200 f x w' (cW f x w' A A' c c' dY dX h1 h2 hT) (by omega) (cT f HL.out.2 (fun l hl => (HF.out l hl).1)) (cV f x HL.out.2 (fun l hl => (HF.out l hl).1) HL.out.1 (fun l hl => (HX.out l hl).1))
    have cZ := fun w' A A' c c' h1 h2 hT => Jfj A A' kk c nn c' wd w'.heap.size 200 10 200 g y w' (cW g y w' A A' c c' o7 bA h1 h2 hT) (by omega) (cT g bI (fun l hl => (o7 l hl).1)) (cV g y bI (fun l hl => (o7 l hl).1) bS (fun l hl => (bA l hl).1))
    rw [o9.1, o9.2, cS] at cZ
    have eA : ∀ i, ∀ l ∈ Qj wd x f i, ∀ y ∈ l, QS 200 y := Jb2 (mx := 5) (by omega) (by have := HL.out.1; omega) (by have h1 := HL.out.1; have := Nat.mul_le_mul (show x.length <= 8 by omega) (show 5 + 1 <= 6 by omega); omega) (fun l hl => (HX.out l hl).2) (fun l hl y hy => ((HF.out l hl).2 y hy).mono (by omega))
    have eB : ∀ i, ∀ l ∈ Qj wd x f i, l.length = wd := Jb0 (fun l hl => (HF.out l hl).1)
    have eC : ∀ i, (Qj wd x f i).length = kk := fun i => by rw [Jb1]; exact HL.out.2
    have eD : ∀ y ∈ Ze wd x f 200, QS 100000 y := fun y hy => by
     obtain ⟨j, rfl⟩ := Jea 200 hy
     refine (Uz (m := 200) (wd := wd) (by omega) (eA j) (fun l hl y hy => ((HX.out l hl).2 y hy).mono (by omega)) (eB j) (by rw [eC]; exact t8) x.length zd).mono ?_
     have h1 := HL.out.1
     have := Nat.mul_le_mul (show x.length <= 8 by omega) (show wd * (4 * 200 + 3) + 2 <= 2411 by omega)
     omega
    have eR := Jag (wd := wd) (x := x) (f := f) 200
    obtain ⟨nk, bT⟩ : ∃ nk, (Ze wd x f 200).length = nk := ⟨_, rfl⟩
    rw [bT] at eR
    have bU : (Jl (Qj wd x f 200) x).length = nn := by unfold Jl; rw [List.length_map]; exact HL.out.1
    generalize Qj wd x f 200 = F at *
    generalize Ze wd x f 200 = K at *
    generalize Jl F x = gl at *
    have HFX := lh dZ
    have HFY := lh cZ
    have HGL := lh bU
    have HNK := lh bT
    have HNK2 : Hid ((K.map fun y => y * (u * u)).length = nk) := lh (by rw [List.length_map]; exact bT)
    have HKQ := lh eD
    have eE := fun (w' : World) (A A' : Option Addr) (c c' : Nat) (h : Own w' 3 iv (.slice A nn c) gl) (h' : Own w' 3 iv (.slice A' nn c') gl) => (Jfc A A' nn c c' gl w'.heap.size w'.heap.size w' (by have := h.reads; rw [bU] at this; exact this) (by have := h'.reads; rw [bU] at this; exact this) (by omega)).mono (by
     rintro e w'' ⟨rfl, k, rfl⟩
     exact ⟨rfl, Jy (Below.refl _ _) k⟩ : ∀ e w'', _ -> e = Ending.returned (Value.bool true) /\ Below w'.heap.size w' w'')
    have HSI := lh eE
    clear bA o7 bS bI o9 cS cT cV cW dX dY dZ cZ eA eB eC eD bT bU eE hy hg
    go_wp2_with fail
    refine (HIN.out _ _ _ HX5.out (HT.out.next HB5.out)).mono ?_
    rintro e v4 ⟨A4, c4, rfl, eF, bV⟩
    have HQ4 := lh eF
    have HY4 := lh (OwnS.next Tryz.kindRR HY5.out bV)
    have HF4 := lh (OwnS.next Tryz.kindRR HF5.out bV)
    have HB4 := lh bV
    clear eF bV HX5 HY5 HF5 HIN
    go_wp2_with fail
    refine (HOF.out _ _ _ HF4.out (HT.out.next (Ja HB5.out HB4.out))).mono ?_
    rintro e v5 ⟨A5, c5, rfl, eG, bJ⟩
    have HP5 := lh eG
    have HQv5 := lh (OwnS.next Tryz.kindQQ HQ4.out bJ)
    have HYv5 := lh (OwnS.next Tryz.kindRR HY4.out bJ)
    have HFv5 := lh (OwnS.next Tryz.kindRR HF4.out bJ)
    have HBv5 := lh (Ja HB4.out bJ)
    clear eG bJ HQ4 HY4 HF4 HB4
    go_wp2_with fail
    refine (HFX.out _ _ _ _ _ HP5.out HQv5.out (HT.out.next (Ja HB5.out HBv5.out))).mono ?_
    rintro e w6 ⟨gd, gg, kv, rfl, fP, o7, aA, aB, eH⟩
    obtain ⟨Ak, ck, dA⟩ := OwnQ.formNm aA HNK.out
    subst dA
    have bK := Jb w6 (.cells #[.slice (some ⟨gd, 0, none⟩) kk kk, .slice (some ⟨gg, 0, none⟩) nn nn, .slice Ak nk ck] 33)
    have e9 := Ja eH bK
    have HM7 : Hid (OwnQQ _ (.slice (some ⟨gd, 0, none⟩) kk kk) F) := lh (OwnS.next Tryz.kindQQ o7.plain bK)
    have HG7 := lh (aB.below bK aB.lt)
    have HK7 := lh (OwnW.next aA bK)
    have B1 := lh (Blk.new w6 33 #[.slice (some ⟨gd, 0, none⟩) kk kk, .slice (some ⟨gg, 0, none⟩) nn nn, .slice Ak nk ck])
    have HY7 := lh (OwnS.next Tryz.kindRR HYv5.out e9)
    have HF7 := lh (OwnS.next Tryz.kindRR HFv5.out e9)
    have HB7 := lh (Ja HBv5.out e9)
    clear o7 aA aB eH bK e9 HFX HP5 HQv5 HYv5 HFv5 HBv5
    go_wp2_with fail
    refine (HINY.out _ _ _ HY7.out (HT.out.next (Ja HB5.out HB7.out))).mono ?_
    rintro e w8 ⟨A8, c8, rfl, eI, aC⟩
    have HQ8 := lh eI
    have HM8 := lh (OwnS.next Tryz.kindQQ HM7.out aC)
    have HG8 := lh (HG7.out.below aC HG7.out.lt)
    have HK8 := lh (OwnW.next HK7.out aC)
    have B2 := lh (B1.out.below aC B1.out.lt)
    have HF8 := lh (OwnS.next Tryz.kindRR HF7.out aC)
    have HB8 := lh (Ja HB7.out aC)
    clear eI aC HINY HY7 HM7 HG7 HK7 B1 HF7 HB7
    go_wp2_with fail
    refine (HOFY.out _ _ _ (OwnS.next Tryz.kindRR HO5.out HB8.out) (HT.out.next (Ja HB5.out HB8.out))).mono ?_
    rintro e w9 ⟨A9, c9, rfl, eJ, aD⟩
    have HP9 := lh eJ
    have HQ9 := lh (OwnS.next Tryz.kindQQ HQ8.out aD)
    have HM9 := lh (OwnS.next Tryz.kindQQ HM8.out aD)
    have HG9 := lh (HG8.out.below aD HG8.out.lt)
    have HK9 := lh (OwnW.next HK8.out aD)
    have B3 := lh (B2.out.below aD B2.out.lt)
    have HB9 := lh (Ja HB8.out aD)
    clear eJ aD HOF HF8 HQ8 HM8 HG8 HK8 B2 HB8
    go_wp2_with fail
    refine (HFY.out _ _ _ _ _ HP9.out HQ9.out (HT.out.next (Ja HB5.out HB9.out))).mono ?_
    rintro e w10 ⟨gd', gg', kv', rfl, eS, o7, aA, aB, bL⟩
    obtain ⟨Ak', ck', dA⟩ := OwnQ.formNm aA HNK2.out
    subst dA
    have t7 := Jb w10 (.cells #[.slice (some ⟨gd', 0, none⟩) kk kk, .slice (some ⟨gg', 0, none⟩) nn nn, .slice Ak' nk ck'] 33)
    have e9 := Ja bL t7
    have HH11 := lh (aB.below t7 aB.lt)
    have HL11 := lh (OwnW.next aA t7)
    have b5 := Blk.new w10 33 #[.slice (some ⟨gd', 0, none⟩) kk kk, .slice (some ⟨gg', 0, none⟩) nn nn, .slice Ak' nk ck']
    have HM11 := lh (OwnS.next Tryz.kindQQ HM9.out e9)
    have HG11 := lh (HG9.out.below e9 HG9.out.lt)
    have HK11 := lh (OwnW.next HK9.out e9)
    have b4 := B3.out.below e9 B3.out.lt
    have HB11 := lh (Ja HB9.out e9)
    obtain ⟨x0, x1, x2⟩ := b4.c3
    obtain ⟨y0, y1, y2⟩ := b5.c3
    have q0 : ((nk : Int) != (nk : Int)) = false := by simp
    have B4 := lh b4
    have B5 := lh b5
    have HSI1 := lh (HSI.out _ _ _ _ _ HG11.out HH11.out)
    clear o7 aA aB bL t7 e9 HFY HP9 HQ9 HM9 HG9 HK9 B3 HB9 b4 b5 HM11 HG11 HH11
    go_wp2_with fail
    refine HSI1.out.mono ?_
    rintro e w12 ⟨rfl, o0⟩
    have HK12 := lh (OwnW.next HK11.out o0)
    have HL12 := lh (OwnW.next HL11.out o0)
    have B6 := lh (B4.out.below o0 B4.out.lt)
    have B7 := lh (B5.out.below o0 B5.out.lt)
    have HB12 := lh (Ja HB11.out o0)
    have x7 := (HQ5.out.next zd HB12.out).more HB12.out.size
    have HMUL := lh (Jnc u u w12.heap.size _ _ w12 x7 x7 zd (HQU.out.mono (by omega)) (HQU.out.mono (by omega)))
    have bW : QS 9 (u * u) := (HQU.out.mul HQU.out).mono (by omega)
    obtain ⟨s, hs⟩ : ∃ s, u * u = s := ⟨_, rfl⟩
    rw [hs] at HMUL bW
    simp only [hs] at HNK2 HL12
    have p7 := fun (w' : World) (V : Value) (h : IsQ w' w'.heap.size V s) (hT : Tab w') => Jnn s _ V w' h zd (bW.mono (by omega)) hT
    unfold qV at p7
    have HIN2 := lh p7
    obtain ⟨z0, z1, z2⟩ := (HBU5.out.below HB12.out HBU5.out.lt).c3
    clear x0 x1 x2 y0 y1 y2 o0 HSI1 HK11 HL11 B4 B5 HB11 x7 p7 hs
    go_wp2_with fail
    refine HMUL.out.mono ?_
    rintro e w13 ⟨V, rfl, hR, o6⟩
    obtain ⟨g9, A9', l9, c9', A9'', l9', c9'', rfl⟩ := hR.shape
    have HR13 := lh hR
    have HK13 := lh (OwnW.next HK12.out o6)
    have HL13 := lh (OwnW.next HL12.out o6)
    have B8 := lh (B6.out.below o6 B6.out.lt)
    have B9 := lh (B7.out.below o6 B7.out.lt)
    have HB13 := lh (Ja HB12.out o6)
    clear hR o6 HK12 HL12 B6 B7 HB12 HMUL z0 z1 z2
    go_wp2_with fail
    refine (HIN2.out _ _ HR13.out (HT.out.next (Ja HB5.out HB13.out))).mono ?_
    rintro e w14 ⟨rfl, bM⟩
    have bN := Jb w14 (.cells #[.bool (decide (s.num < 0)), .int .u64 (lo s.num.natAbs : Int), .string (mo s.num.natAbs), .int .u64 (lo ((qden s)) : Int), .string (mo ((qden s)))] 65)
    have e9 := Ja bM bN
    have HK14 := lh (OwnW.next HK13.out e9)
    have HL14 := lh (OwnW.next HL13.out e9)
    have B10 := lh (B8.out.below e9 B8.out.lt)
    have B11 := lh (B9.out.below e9 B9.out.lt)
    have B12 := lh (Blk.new w14 65 #[.bool (decide (s.num < 0)), .int .u64 (lo s.num.natAbs : Int), .string (mo s.num.natAbs), .int .u64 (lo ((qden s)) : Int), .string (mo ((qden s)))])
    have HB14 := lh (Ja HB13.out e9)
    have x1 := B10.out.c3
    clear bM bN e9 HK13 HL13 B8 B9 HB13 HR13 HIN2 x1
    obtain ⟨w15, aE⟩ : ∃ w15, w14.alloc (.cells #[.bool (decide (s.num < 0)), .int .u64 (lo s.num.natAbs : Int), .string (mo s.num.natAbs), .int .u64 (lo ((qden s)) : Int), .string (mo ((qden s)))] 65) = w15 := ⟨_, rfl⟩
    obtain ⟨ga, dB⟩ : ∃ ga, w6.heap.size = ga := ⟨_, rfl⟩
    obtain ⟨gb, dC⟩ : ∃ gb, w10.heap.size = gb := ⟨_, rfl⟩
    obtain ⟨gs, dD⟩ : ∃ gs, w14.heap.size = gs := ⟨_, rfl⟩
    rw [aE] at HK14 HL14 B10 B11 B12 HB14
    rw [dB] at B10
    rw [dC] at B11
    rw [dD] at B12
    go_wp2_with fail
    try rw [aE]
    try rw [dB]
    try rw [dC]
    try rw [dD]
    have HKN15 := lh (fun w' (hb : Below w15.heap.size w15 w') => HKN5.out w' (Ja HB14.out hb))
    have HT15 := lh (HT.out.next (Ja HB5.out HB14.out))
    have HKL := lh (OwnW.lt HK14.out)
    clear aE dB dC dD
    go_loopw [25] (fun p wr => ∃ i : Nat, i <= nk /\ p = .int .i64 (i : Int) /\ Below w15.heap.size w15 wr) (fun p _ => nk - (intOf p).toNat)
    case atStart => exact ⟨0, by omega, rfl, Below.refl _ _⟩
    case round =>
     obtain ⟨i, hi, rfl, e8⟩ := hrel
     rename World => wr
     have b4 := B10.out.below e8 B10.out.lt
     have b5 := B11.out.below e8 B11.out.lt
     have b6 := B12.out.below e8 B12.out.lt
     by_cases p7 : i < nk
     ·have k1 : (i : Int) < (nk : Int) := by omega
      obtain ⟨y, hy⟩ : ∃ y, K[i]? = some y := ⟨_, List.getElem?_eq_getElem (by rw [HNK.out]; exact p7)⟩
      have dE := HKQ.out y (List.mem_of_getElem? hy)
      have t8 := OwnW.next HK14.out e8
      have dF := OwnW.next HL14.out e8
      obtain ⟨gk, rfl, -⟩ := OwnQ.addr' t8 (by rw [HNK.out]; omega)
      obtain ⟨gk', rfl, -⟩ := OwnQ.addr' dF (by rw [HNK2.out]; omega)
      have hz : (K.map fun y => y * s)[i]? = some (y * s) := by rw [List.getElem?_map, hy]; rfl
      have b7 := OwnQ.at_ t8 hy
      have b8 := OwnQ.at_ dF hz
      have bX := fun w (hT : Tab w) => Jid y s w (dE.mono (by omega)) (bW.mono (by omega)) hT
      have u4 : QS 200000 (y * s) := (dE.mul bW).mono (by omega)
      obtain ⟨z, dG⟩ : ∃ z, y * s = z := ⟨_, rfl⟩
      rw [dG] at b8 u4
      simp only [dG] at bX
      have bY := fun w => Jie z z w (u4.mono (by omega)) (u4.mono (by omega))
      rw [(Jfy z z).2 rfl] at bY
      unfold qV at bX bY
      have HMU := lh bX
      have HCM := lh bY
      have tT := HT15.out.next e8
      have HBW := lh e8
      clear e8 hy dE t8 dF hz bX bY u4 dG
      obtain ⟨x0, x1, x2⟩ := b4.c3
      go_upto_region 22 with fail
      clear x0 x1 x2
      obtain ⟨eT, eU, eV⟩ := b4.c3; have c4 := b4.drew; have bZ := c4.lt; obtain ⟨eW, eX, eY⟩ := b5.c3; have c5 := b5.drew; have cA := c5.lt; obtain ⟨eZ, fA, fB, fC, fD⟩ := b6.c5; have c6 := b6.drew; have cB := c6.lt; obtain ⟨fE, fF, fG, fH, fI⟩ := b7.c5; have c7 := b7.drew; have cC := c7.lt; obtain ⟨fJ, fK, fL, fM, fN⟩ := b8.c5; have c8 := b8.drew; have cD := c8.lt; have hc := Ji wr; go_region_held3 (fun w' => w'.cell? ⟨ga, 0, none⟩ = some (.slice (some ⟨gd, 0, none⟩) kk kk) /\ w'.cell? ⟨ga, 1, none⟩ = some (.slice (some ⟨gg, 0, none⟩) nn nn) /\ w'.cell? ⟨ga, 2, none⟩ = some (.slice (some ⟨gk, 0, none⟩) nk ck) /\ w'.cell? ⟨gb, 0, none⟩ = some (.slice (some ⟨gd', 0, none⟩) kk kk) /\ w'.cell? ⟨gb, 1, none⟩ = some (.slice (some ⟨gg', 0, none⟩) nn nn) /\ w'.cell? ⟨gb, 2, none⟩ = some (.slice (some ⟨gk', 0, none⟩) nk ck') /\ w'.cell? ⟨gs, 0, none⟩ = some (.bool (decide (s.num < 0))) /\ w'.cell? ⟨gs, 1, none⟩ = some (.int .u64 (lo s.num.natAbs : Int)) /\ w'.cell? ⟨gs, 2, none⟩ = some (.string (mo s.num.natAbs)) /\ w'.cell? ⟨gs, 3, none⟩ = some (.int .u64 (lo ((qden s)) : Int)) /\ w'.cell? ⟨gs, 4, none⟩ = some (.string (mo ((qden s)))) /\ w'.cell? ⟨gk, i * 5, none⟩ = some (.bool (decide (y.num < 0))) /\ w'.cell? ⟨gk, i * 5 + 1, none⟩ = some (.int .u64 (lo y.num.natAbs : Int)) /\ w'.cell? ⟨gk, i * 5 + 2, none⟩ = some (.string (mo y.num.natAbs)) /\ w'.cell? ⟨gk, i * 5 + 3, none⟩ = some (.int .u64 (lo ((qden y)) : Int)) /\ w'.cell? ⟨gk, i * 5 + 4, none⟩ = some (.string (mo ((qden y)))) /\ w'.cell? ⟨gk', i * 5, none⟩ = some (.bool (decide (z.num < 0))) /\ w'.cell? ⟨gk', i * 5 + 1, none⟩ = some (.int .u64 (lo z.num.natAbs : Int)) /\ w'.cell? ⟨gk', i * 5 + 2, none⟩ = some (.string (mo z.num.natAbs)) /\ w'.cell? ⟨gk', i * 5 + 3, none⟩ = some (.int .u64 (lo ((qden z)) : Int)) /\ w'.cell? ⟨gk', i * 5 + 4, none⟩ = some (.string (mo ((qden z))))) (go_keep) (first | (go_at_call 31; (with_reducible refine (HMU.out _ (tT.next hc)).mono ?_); rintro e w1 ⟨rfl, j9⟩; (try clear aF aG aH); obtain ⟨c4, aF, aG, aH⟩ := c4.zc3 j9; (try clear bZ); have bZ := c4.lt; (try clear aI aJ aK); obtain ⟨c5, aI, aJ, aK⟩ := c5.zc3 j9; (try clear cA); have cA := c5.lt; (try clear aL aM aN aO aP); obtain ⟨c6, aL, aM, aN, aO, aP⟩ := c6.zc5 j9; (try clear cB); have cB := c6.lt; (try clear aQ aR aS aT aU); obtain ⟨c7, aQ, aR, aS, aT, aU⟩ := c7.zc5 j9; (try clear cC); have cC := c7.lt; (try clear aV aW aX aY aZ); obtain ⟨c8, aV, aW, aX, aY, aZ⟩ := c8.zc5 j9; (try clear cD); have cD := c8.lt; have hc := Ja hc j9) | (go_at_call 32; (with_reducible refine (HCM.out _).mono ?_); rintro e w2 ⟨rfl, bB⟩; (try clear aF aG aH); obtain ⟨c4, aF, aG, aH⟩ := c4.zc3 bB; (try clear bZ); have bZ := c4.lt; (try clear aI aJ aK); obtain ⟨c5, aI, aJ, aK⟩ := c5.zc3 bB; (try clear cA); have cA := c5.lt; (try clear aL aM aN aO aP); obtain ⟨c6, aL, aM, aN, aO, aP⟩ := c6.zc5 bB; (try clear cB); have cB := c6.lt; (try clear aQ aR aS aT aU); obtain ⟨c7, aQ, aR, aS, aT, aU⟩ := c7.zc5 bB; (try clear cC); have cC := c7.lt; (try clear aV aW aX aY aZ); obtain ⟨c8, aV, aW, aX, aY, aZ⟩ := c8.zc5 bB; (try clear cD); have cD := c8.lt; have hc := Ja hc bB))
      all_goals
       go_wp2
       exact ⟨⟨i + 1, by omega, by go_num, HBW.out.trans (hc.mono HBW.out.size)⟩, by simp [intOf]; omega⟩
     obtain rfl : i = nk := by omega
     have k1 : ¬ (i : Int) < (i : Int) := by omega
     obtain ⟨x0, x1, x2⟩ := b4.c3
     have HBW := lh e8
     clear e8 b4 b5 b6
     go_wp2_with fail
     refine (HKN15.out _ HBW.out).mono ?_
     rintro e w16 ⟨rfl, bO⟩
     have HB16 := lh (Ja HBW.out bO)
     clear bO x0 x1 x2
     go_wp2
     go_ret
     exact ⟨rfl, Ja (Ja HB5.out HB14.out) HB16.out⟩
