import Derived.Test.YtacbcaebaomglaaGreatDoorMeanNearestW
namespace Go.Proofs.YtacbcaebaomglaaGreatDoor
set_option maxRecDepth 100000
set_option maxHeartbeats 8000000
open Go.RowKit
set_option linter.all false
theorem Jgf {xl : List (List Rat)} {n wd k : Nat} (hn : xl.length = n) (hn2 : n <= 1000) (hwd : wd <= 1000) (h1 : ∀ l ∈ xl, l.length = wd) (hs : ∀ l ∈ xl, ∀ y ∈ l, QS k y) (hk : k <= 549755813888) (w : World) (A : Option Addr) (c : Nat) (h : Zs w (.slice A n c) xl) (hT : Tab w) :
  Calls Tryz.prog 17 #[.slice A n c] w fun e w' => ∃ A c, e = .returned (.agg #[.slice A n c]) /\ OwnQQ w' (.slice A n c) xl /\ Below w.heap.size w w' := by
 refine (Jjb A n c w.heap.size xl w (OwnS.readS (fun h => OwnR.reads_ h) h) zd hn2 (fun l hl => ⟨by rw [h1 l hl]; omega, fun y hy => (hs l hl y hy).mono hk⟩) hT).mono ?_
 rintro e w' ⟨v, rfl, ho, -, hb⟩
 obtain ⟨A, c, hv⟩ := OwnS.form ho
 rw [hn] at hv
 subst hv
 exact ⟨A, c, rfl, ho, hb⟩
theorem Jgt {xl : List (List Rat)} {n wd k : Nat} (hn : xl.length = n) (hn2 : n <= 1000) (hwd : wd <= 1000) (h1 : ∀ l ∈ xl, l.length = wd) (hs : ∀ l ∈ xl, ∀ y ∈ l, QS k y) (hk : k <= 549755813888) (w : World) (A : Option Addr) (c : Nat) (h : Zs w (.slice A n c) xl) (hT : Tab w) :
  Calls Tryz.prog 16 #[.slice A n c] w fun e w' => ∃ A c, e = .returned (.slice A n c) /\ OwnQQ w' (.slice A n c) xl /\ Below w.heap.size w w' := by
 refine (Jaf A n c w.heap.size xl w (OwnS.readS (fun h => OwnR.reads_ h) h) zd hn2 (fun l hl => ⟨by rw [h1 l hl]; omega, fun y hy => (hs l hl y hy).mono hk⟩) hT).mono ?_
 rintro e w' ⟨v, rfl, ho, -, hb⟩
 obtain ⟨A, c, hv⟩ := OwnS.form ho
 rw [hn] at hv
 subst hv
 exact ⟨A, c, rfl, ho, hb⟩
theorem Jc5 (A : Option Addr) (n1 c1 : Nat) (zl : List Int) (A' : Option Addr) (n2 c2 : Nat) (zc : List Int) (zn zk zw zo : Int) (w : World) (h1 : ArgZ w A n1 c1 zl) (h2 : ArgZ w A' n2 c2 zc) (hn : I64 zn) (hk : I64 zk) (hw : I64 zw) (ho : I64 zo) (hT : Tab w) :
  Calls Tryz.prog 8 #[.slice A n1 c1, .slice A' n2 c2, .int .i64 zn, .int .i64 zk, .int .i64 zw, .int .i64 zo] w (Ret (.bool true) w) := by
 obtain ⟨nn, kk, wd, v, bH, bI, hwd1, aW, hv, aH⟩ := Jck A n1 c1 zl A' n2 c2 zc zn zk zw zo w h1 h2 hn hk hw ho
 have hx : ∀ l ∈ Qp zl wd nn, l.length = wd /\ ∀ y ∈ l, QS 5 y := fun l hl => by
  obtain ⟨zs', rfl⟩ := Zz hl
  exact ⟨Zf zs' wd, Zm zs' wd⟩
 have hf : ∀ l ∈ Qp zc v kk, l.length = v /\ ∀ y ∈ l, QS 5 y := fun l hl => by
  obtain ⟨zs', rfl⟩ := Zz hl
  exact ⟨Zf zs' v, Zm zs' v⟩
 have y8 := Xp zl wd nn
 have y9 := Xp zc v kk
 generalize Qp zl wd nn = x at *
 generalize Qp zc v kk = f at *
 have aI := Vz y8 y9 (fun l hl => (hx l hl).1) (fun l hl => (hf l hl).1) hwd1 (by omega) (by omega) (by omega) (by omega) (by omega)
 have HX := lh hx
 have HF := lh hf
 have HL := lh (And.intro y8 y9)
 have HRF := lh aI
 have HDR := lh aH
 have HT := lh hT
 have HOF := lh (Jgf (wd := v) (k := 5) y9 (by omega) (by omega) (fun l hl => (hf l hl).1) (fun l hl => (hf l hl).2) (by omega))
 have HIN := lh (Jgt (wd := wd) (k := 5) y8 (by omega) (by omega) (fun l hl => (hx l hl).1) (fun l hl => (hx l hl).2) (by omega))
 clear hx hf y8 y9 aI aH hT h1 h2 hn hk hw ho
 go_enter Tryz.func8, Tryz.ntmps8
 go_wp2_with fail
 refine HDR.out.mono ?_
 rintro e w1 ⟨Ax, cx, Am, cm, rfl, aJ, aK, aL⟩
 have HO1 := lh aJ
 have HO2 := lh aK
 have HB1 := lh aL
 clear aJ aK aL HDR
 go_wp2_with fail
 refine (HOF.out _ _ _ HO2.out (HT.out.next HB1.out)).mono ?_
 rintro e w2 ⟨A3, c3, rfl, aM, aA⟩
 have HO3 := lh aM
 have HX2 := lh (OwnS.next Tryz.kindRR HO1.out aA)
 have HF2 := lh (OwnS.next Tryz.kindRR HO2.out aA)
 have HB2 := lh (Ja HB1.out aA)
 clear aM aA HB1 HO1 HO2
 go_wp2_with fail
 refine (HIN.out _ _ _ HX2.out (HT.out.next HB2.out)).mono ?_
 rintro e w3 ⟨A4, c4, rfl, aN, u4⟩
 have HO4 := lh aN
 have HO3 := lh (OwnS.next Tryz.kindQQ HO3.out u4)
 have HX3 := lh (OwnS.next Tryz.kindRR HX2.out u4)
 have HF3 := lh (OwnS.next Tryz.kindRR HF2.out u4)
 have HB3 := lh (Ja HB2.out u4)
 clear aN u4 HB2 HX2 HF2
 have HWR := lh (fun w' (hb : Below w3.heap.size w3 w') => Jcj Ax Am nn cx kk cm w3.heap.size wd v x f w' ((OwnS.readS (fun h => OwnR.reads_ h) HX3.out).below Xf hb) ((OwnS.readS (fun h => OwnR.reads_ h) HF3.out).below Xf hb) hb.size (by omega) (by omega) hwd1 (by omega) (by omega) (by omega) (fun l hl => (HX.out l hl).1) (fun l hl => (HF.out l hl).1))
 have HKN := lh (fun w' (hb : Below w3.heap.size w3 w') => Ug w' (HT.out.next (Ja HB3.out hb)))
 have HCM := lh (fun w' (hb : Below w3.heap.size w3 w') => Yz Am kk cm w3.heap.size v f w' ((OwnS.readS (fun h => OwnR.reads_ h) HF3.out).below Xf hb) hb.size (by omega) (by omega) (by omega) (fun l hl => (HF.out l hl).1))
 have HCK := lh (fun w' (A : Option Addr) (c : Nat) (h : OwnQQ w' (.slice A kk c) f) => Yb A kk c w'.heap.size f w' (OwnS.readS (fun h => OwnQ.reads_ h) h) zd (by omega))
 obtain ⟨u, hu, aO, aP⟩ : ∃ u : Nat, (u = 0 \/ u = 5) /\ Xd f = u /\ (if 1 <= kk /\ kk <= 12 then (0 : Int) else 5) = (u : Int) := by
  have h := Vo HL.out.2 (fun l hl => (HF.out l hl).1) (by omega) (by omega) (show kk <= 12 by omega)
  by_cases t7 : 1 <= kk
  ·exact ⟨0, .inl rfl, by rw [h, if_pos t7], by rw [if_pos ⟨t7, by omega⟩]; rfl⟩
  exact ⟨5, .inr rfl, by rw [h, if_neg t7], by rw [if_neg (by omega)]; rfl⟩
 rw [aO] at HCK
 rw [aP] at HCM
 clear aO aP
 obtain ⟨r, hr⟩ : ∃ r, Ko nn kk wd v = r := ⟨_, rfl⟩
 rw [hr] at HRF HWR
 have HR := lh hr
 clear hr
 by_cases aE : r = 0
 ·subst aE
  have aX : 1 <= kk /\ 1 <= nn /\ wd = v := by
   have h := HR.out
   unfold Ko at h
   split at h
   ·cases h
   rename_i h1
   split at h
   ·cases h
   rename_i h2
   omega
  obtain ⟨t7, bJ, rfl⟩ := aX
  have hmx := fun w' (A A' : Option Addr) (c c' : Nat) (h : OwnQQ w' (.slice A kk c) f) (h' : OwnQQ w' (.slice A' nn c') x) (hT : Tab w') => (⟨OwnS.readS (fun h => OwnQ.reads_ h) h, OwnS.readS (fun h => OwnQ.reads_ h) h', Nat.le_refl _, t7, by omega, by omega, by omega, fun l hl => (HF.out l hl).1, fun l hl => (HX.out l hl).1, by omega, by omega, fun l hl => (HF.out l hl).2, fun l hl => (HX.out l hl).2, hT⟩ : MX w' w'.heap.size A A' kk nn wd 5 f x)
  have aB : MD w3 w3.heap.size Am Ax kk nn wd 5 f x := ⟨OwnS.readS (fun h => OwnR.reads_ h) HF3.out, OwnS.readS (fun h => OwnR.reads_ h) HX3.out, Nat.le_refl _, t7, by omega, by omega, by omega, fun l hl => (HF.out l hl).1, fun l hl => (HX.out l hl).1, by omega, by omega, fun l hl => (HF.out l hl).2, fun l hl => (HX.out l hl).2⟩
  have HMX := lh hmx
  have HMD := lh aB
  have aQ : (Jl f x).length = nn := by unfold Jl; rw [List.length_map]; exact HL.out.1
  have aR : QS 549755813888 (Zk f x) := (Uz (m := 5) (wd := wd) (by omega) (fun l hl => (HF.out l hl).2) (fun l hl => (HX.out l hl).2) (fun l hl => (HF.out l hl).1) (by rw [HL.out.2]; exact t7) x.length zd).mono (by
   have h1 := HL.out.1
   have := Nat.mul_le_mul (show x.length <= 8 by omega) (show wd * (4 * 5 + 3) + 2 <= 71 by omega)
   omega)
  have aS := fun w' (hb : Below w3.heap.size w3 w') => Jbe Am Ax kk cm nn cx wd w3.heap.size 5 f x w' (aB.next hb)
  have aF := fun w' (hb : Below w3.heap.size w3 w') => Jdr Am Ax kk cm nn cx wd w3.heap.size 5 f x w' (aB.next hb)
  have t8 := fun w' A A' c c' h h' hT => Jd0 A A' kk c nn c' w'.heap.size f x w' wd 5 (hmx w' A A' c c' h h' hT) HRF.out
  have p9 := fun w' A A' c c' h h' hT => Jgr A A' kk c nn c' w'.heap.size f x w' wd 5 (hmx w' A A' c c' h h' hT) HRF.out
  obtain ⟨q, hq⟩ : ∃ q, Zk f x = q := ⟨_, rfl⟩
  have aG := fun (w' : World) (V : Value) (h : IsQ w' w'.heap.size V q) => Jaz q _ V w' h zd ((hq ▸ aR : QS 549755813888 q).mono (by omega))
  rw [hq] at aF p9
  unfold qV at p9 aG
  have HRG := lh aS
  have HRC := lh aF
  have HMG := lh t8
  have HMC := lh p9
  have HSA := lh aG
  have HGL := lh aQ
  clear hmx aB aQ aR aS aF t8 p9 aG hq
  go_wp2_with fail
  refine (HMG.out _ _ _ _ _ HO3.out HO4.out (HT.out.next HB3.out)).mono ?_
  rintro e w4 ⟨g4, rfl, q8, p8⟩
  have HG4 := lh q8
  have HX4 := lh (OwnS.next Tryz.kindRR HX3.out p8)
  have HF4 := lh (OwnS.next Tryz.kindRR HF3.out p8)
  have HB4 := lh p8
  clear q8 p8 HMG HO3 HO4
  go_wp2_with fail
  refine (HOF.out _ _ _ HF4.out (HT.out.next (Ja HB3.out HB4.out))).mono ?_
  rintro e w5 ⟨A5, c5, rfl, q8, o8⟩
  have HO5 := lh q8
  have HG5 := lh (HG4.out.below o8 HG4.out.lt)
  have HX5 := lh (OwnS.next Tryz.kindRR HX4.out o8)
  have HF5 := lh (OwnS.next Tryz.kindRR HF4.out o8)
  have HB5 := lh (Ja HB4.out o8)
  clear q8 o8 HG4 HX4 HF4 HB4
  go_wp2_with fail
  refine (HIN.out _ _ _ HX5.out (HT.out.next (Ja HB3.out HB5.out))).mono ?_
  rintro e w6 ⟨A6, c6, rfl, x7, o9⟩
  have HO6 := lh x7
  have HO5' := lh (OwnS.next Tryz.kindQQ HO5.out o9)
  have HG6 := lh (HG5.out.below o9 HG5.out.lt)
  have HF6 := lh (OwnS.next Tryz.kindRR HF5.out o9)
  have HB6 := lh (Ja HB5.out o9)
  clear x7 o9 HG5 HX5 HF5 HB5 HO5
  go_wp2_with fail
  refine (HMC.out _ _ _ _ _ HO5'.out HO6.out (HT.out.next (Ja HB3.out HB6.out))).mono ?_
  rintro e w7 ⟨rfl, x8⟩
  have b0 := Blk.new w7 65 #[.bool (decide (q.num < 0)), .int .u64 (lo q.num.natAbs : Int), .string (mo q.num.natAbs), .int .u64 (lo ((qden q)) : Int), .string (mo ((qden q)))]
  have e8 := Ja x8 (Jb w7 (.cells #[.bool (decide (q.num < 0)), .int .u64 (lo q.num.natAbs : Int), .string (mo q.num.natAbs), .int .u64 (lo ((qden q)) : Int), .string (mo ((qden q)))] 65))
  have HG7 := lh (HG6.out.below e8 HG6.out.lt)
  have HF7 := lh (OwnS.next Tryz.kindRR HF6.out e8)
  have HB7 := lh (Ja HB6.out e8)
  have HK7 := lh b0
  clear b0 x8 e8 HG6 HB6 HMC HO5' HO6 HF6
  go_wp2_with fail
  refine (HWR.out _ HB7.out).mono ?_
  rintro e w8 ⟨rfl, e8⟩
  have HG8 := lh (HG7.out.below e8 HG7.out.lt)
  have HF8 := lh (OwnS.next Tryz.kindRR HF7.out e8)
  have HK8 := lh (HK7.out.below e8 HK7.out.lt)
  have HB8 := lh (Ja HB7.out e8)
  clear e8 HG7 HB7 HF7 HK7
  go_wp2_with fail
  refine (HKN.out _ HB8.out).mono ?_
  rintro e w9 ⟨rfl, p7⟩
  have HG9 := lh (HG8.out.below p7 HG8.out.lt)
  have HF9 := lh (OwnS.next Tryz.kindRR HF8.out p7)
  have HK9 := lh (HK8.out.below p7 HK8.out.lt)
  have HB9 := lh (Ja HB8.out p7)
  clear p7 HG8 HB8 HF8 HK8
  go_wp2_with fail
  refine (HOF.out _ _ _ HF9.out (HT.out.next (Ja HB3.out HB9.out))).mono ?_
  rintro e w10 ⟨A10, c10, rfl, o7, e9⟩
  have HO10 := lh o7
  have HG10 := lh (HG9.out.below e9 HG9.out.lt)
  have HK10 := lh (HK9.out.below e9 HK9.out.lt)
  have HB10 := lh (Ja HB9.out e9)
  clear o7 e9 HG9 HB9 HF9 HK9
  go_wp2_with fail
  refine (HCK.out _ _ _ HO10.out).mono ?_
  rintro e w11 ⟨rfl, j0⟩
  have HG11 := lh (HG10.out.below j0 HG10.out.lt)
  have HK11 := lh (HK10.out.below j0 HK10.out.lt)
  have HB11 := lh (Ja HB10.out j0)
  clear j0 HG10 HB10 HK10 HO10
  go_wp2_with fail
  refine (HCM.out _ HB11.out).mono ?_
  rintro e w12 ⟨rfl, j6⟩
  have HG12 := lh (HG11.out.below j6 HG11.out.lt)
  have b0 := HK11.out.below j6 HK11.out.lt
  have HB12 := lh (Ja HB11.out j6)
  clear j6 HG11 HB11 HK11
  have HRG2 := lh (fun w' (hb : Below w12.heap.size w12 w') => (HRG.out w' (Ja HB12.out hb)).mono (by
   rintro e w'' ⟨v, rfl, ho, aY⟩
   obtain ⟨A, c, hv, -, -⟩ := ho.form
   rw [HGL.out] at hv
   refine ⟨v, rfl, ⟨A, c, hv⟩, ho, aY⟩ : ∀ e w'', _ -> ∃ v, e = Ending.returned v /\ (∃ A c, v = Value.slice A nn c) /\ Own w'' 3 iv v (Jl f x) /\ Below w'.heap.size w' w''))
  have HSI := lh (fun w' (hb : Below w12.heap.size w12 w') (A : Option Addr) (c : Nat) (h : Own w' 3 iv (.slice A nn c) (Jl f x)) => (Jfc (some ⟨g4, 0, none⟩) A nn nn c (Jl f x) w'.heap.size w'.heap.size w' (by have := (HG12.out.below hb HG12.out.lt).reads; rw [HGL.out] at this; exact this) (by have := h.reads; rw [HGL.out] at this; exact this) (by omega)).mono (by
   rintro e w'' ⟨rfl, k, rfl⟩
   exact ⟨rfl, Jy (Below.refl _ _) k⟩ : ∀ e w'', _ -> e = Ending.returned (Value.bool true) /\ Below w'.heap.size w' w''))
  have HRC2 := lh (fun w' (hb : Below w12.heap.size w12 w') => HRC.out w' (Ja HB12.out hb))
  clear HRG HRC HG12 HMX HMD HX3 HF3 HOF HIN HCK HCM HKN HWR
  rcases hu with rfl | rfl
  all_goals
   go_upto_region 9 with fail
   obtain ⟨aZ, bA, bB, bC, bD⟩ := b0.c5; have c0 := b0.drew; have s9 := c0.lt; have hc := Ji w12; go_region_held3 (fun w' => w'.cell? ⟨w7.heap.size, 0, none⟩ = some (.bool (decide (q.num < 0))) /\ w'.cell? ⟨w7.heap.size, 1, none⟩ = some (.int .u64 (lo q.num.natAbs : Int)) /\ w'.cell? ⟨w7.heap.size, 2, none⟩ = some (.string (mo q.num.natAbs)) /\ w'.cell? ⟨w7.heap.size, 3, none⟩ = some (.int .u64 (lo ((qden q)) : Int)) /\ w'.cell? ⟨w7.heap.size, 4, none⟩ = some (.string (mo ((qden q))))) (go_keep) (first | (go_at_call 25; (with_reducible refine (HRG2.out _ hc).mono ?_); rintro e w1 ⟨v1, rfl, ⟨A1, c1c, bE⟩, bF, aT⟩; subst bE; (try clear j7 j8 j9 o0 o6); obtain ⟨c0, j7, j8, j9, o0, o6⟩ := c0.zc5 aT; (try clear s9); have s9 := c0.lt; have hc := Ja hc aT) | (go_at_call 24; (with_reducible refine (HSI.out _ hc _ _ bF).mono ?_); rintro e w2 ⟨rfl, aU⟩; (try clear j7 j8 j9 o0 o6); obtain ⟨c0, j7, j8, j9, o0, o6⟩ := c0.zc5 aU; (try clear s9); have s9 := c0.lt; have hc := Ja hc aU) | (go_at_call 46; (with_reducible refine (HRC2.out _ hc).mono ?_); rintro e w3 ⟨v3, rfl, aC, aV⟩; obtain ⟨g3, A3, l3, c3c, A3', l3', c3c', bG⟩ := aC.shape; subst bG; (try clear j7 j8 j9 o0 o6); obtain ⟨c0, j7, j8, j9, o0, o6⟩ := c0.zc5 aV; (try clear s9); have s9 := c0.lt; have hc := Ja hc aV) | (go_at_call 42; (with_reducible refine (HSA.out _ _ aC).mono ?_); rintro e w4 ⟨rfl, aD⟩; (try clear j7 j8 j9 o0 o6); obtain ⟨c0, j7, j8, j9, o0, o6⟩ := c0.zc5 aD; (try clear s9); have s9 := c0.lt; have aC := (aC.next zd aD).more aD.size; have hc := Ja hc aD))
   all_goals
    go_wp2
    go_ret
    exact ⟨rfl, Ja (Ja HB3.out HB12.out) hc⟩
 have t8 := fun w' (A A' : Option Addr) (c c' : Nat) (h : OwnQQ w' (.slice A kk c) f) (h' : OwnQQ w' (.slice A' nn c') x) => Jc4 A A' kk c nn c' w'.heap.size f x w' (OwnS.readS (fun h => OwnQ.reads_ h) h) (OwnS.readS (fun h => OwnQ.reads_ h) h') zd (by omega) (by omega) (by rw [HRF.out]; exact aE)
 have p9 := fun w' (A A' : Option Addr) (c c' : Nat) (h : OwnQQ w' (.slice A kk c) f) (h' : OwnQQ w' (.slice A' nn c') x) => Je2 A A' kk c nn c' w'.heap.size f x w' (OwnS.readS (fun h => OwnQ.reads_ h) h) (OwnS.readS (fun h => OwnQ.reads_ h) h') zd (by omega) (by omega) (by rw [HRF.out]; exact aE)
 simp only [HRF.out] at t8 p9
 have HMG := lh t8
 have HMC := lh p9
 have HIZ : Hid (∀ w, Calls Tryz.prog 40 #[.agg #[.bool false, .int .u64 0, .string ⟨#[]⟩, .int .u64 0, .string ⟨#[]⟩], .int .i64 0, .int .i64 1] w (Ret (.bool true) w)) := lh fun w => Jdd 0 0 1 w (by omega) (by omega) (by omega) (by omega) (by omega) (by kernel_rfl) ⟨Nat.le_of_ble_eq_true (by kernel_rfl), Nat.le_of_ble_eq_true (by kernel_rfl)⟩
 have q1 : ((r : Int) != 0) = true := by simp; omega
 have q2 : ¬ (r : Int) = 0 := by omega
 have q3 : ((r : Int) == 0) = false := by simp; omega
 clear t8 p9
 go_wp2_with fail
 refine (HMG.out _ _ _ _ _ HO3.out HO4.out).mono ?_
 rintro e w4 ⟨rfl, p8⟩
 have HX4 := lh (OwnS.next Tryz.kindRR HX3.out p8)
 have HF4 := lh (OwnS.next Tryz.kindRR HF3.out p8)
 have HB4 := lh p8
 clear p8 HMG HO3 HO4
 go_wp2_with fail
 refine (HOF.out _ _ _ HF4.out (HT.out.next (Ja HB3.out HB4.out))).mono ?_
 rintro e w5 ⟨A5, c5, rfl, q8, o8⟩
 have HO5 := lh q8
 have HX5 := lh (OwnS.next Tryz.kindRR HX4.out o8)
 have HF5 := lh (OwnS.next Tryz.kindRR HF4.out o8)
 have HB5 := lh (Ja HB4.out o8)
 clear q8 o8 HX4 HF4 HB4
 go_wp2_with fail
 refine (HIN.out _ _ _ HX5.out (HT.out.next (Ja HB3.out HB5.out))).mono ?_
 rintro e w6 ⟨A6, c6, rfl, x7, o9⟩
 have HO6 := lh x7
 have HO5' := lh (OwnS.next Tryz.kindQQ HO5.out o9)
 have HF6 := lh (OwnS.next Tryz.kindRR HF5.out o9)
 have HB6 := lh (Ja HB5.out o9)
 clear x7 o9 HX5 HF5 HB5 HO5
 go_wp2_with fail
 refine (HMC.out _ _ _ _ _ HO5'.out HO6.out).mono ?_
 rintro e w7 ⟨rfl, x8⟩
 have b0 := Blk.new w7 65 #[.bool false, .int .u64 0, .string ⟨#[]⟩, .int .u64 0, .string ⟨#[]⟩]
 have e8 := Ja x8 (Jb w7 (.cells #[.bool false, .int .u64 0, .string ⟨#[]⟩, .int .u64 0, .string ⟨#[]⟩] 65))
 have HF7 := lh (OwnS.next Tryz.kindRR HF6.out e8)
 have HB7 := lh (Ja HB6.out e8)
 have HK7 := lh b0
 clear b0 x8 e8 HB6 HMC HO5' HO6 HF6
 go_wp2_with fail
 refine (HWR.out _ HB7.out).mono ?_
 rintro e w8 ⟨rfl, e8⟩
 have HF8 := lh (OwnS.next Tryz.kindRR HF7.out e8)
 have HK8 := lh (HK7.out.below e8 HK7.out.lt)
 have HB8 := lh (Ja HB7.out e8)
 clear e8 HB7 HF7 HK7
 go_wp2_with fail
 refine (HKN.out _ HB8.out).mono ?_
 rintro e w9 ⟨rfl, p7⟩
 have HF9 := lh (OwnS.next Tryz.kindRR HF8.out p7)
 have HK9 := lh (HK8.out.below p7 HK8.out.lt)
 have HB9 := lh (Ja HB8.out p7)
 clear p7 HB8 HF8 HK8
 go_wp2_with fail
 refine (HOF.out _ _ _ HF9.out (HT.out.next (Ja HB3.out HB9.out))).mono ?_
 rintro e w10 ⟨A10, c10, rfl, o7, e9⟩
 have HO10 := lh o7
 have HK10 := lh (HK9.out.below e9 HK9.out.lt)
 have HB10 := lh (Ja HB9.out e9)
 clear o7 e9 HB9 HF9 HK9
 go_wp2_with fail
 refine (HCK.out _ _ _ HO10.out).mono ?_
 rintro e w11 ⟨rfl, j0⟩
 have HK11 := lh (HK10.out.below j0 HK10.out.lt)
 have HB11 := lh (Ja HB10.out j0)
 clear j0 HB10 HK10 HO10
 go_wp2_with fail
 refine (HCM.out _ HB11.out).mono ?_
 rintro e w12 ⟨rfl, j6⟩
 have b0 := HK11.out.below j6 HK11.out.lt
 have HB12 := lh (Ja HB11.out j6)
 clear j6 HB11 HK11
 obtain ⟨x0, x1, x2, x3, x4⟩ := b0.c5
 rcases hu with rfl | rfl
 all_goals
  go_wp2_with fail
  refine (HIZ.out _).mono ?_
  rintro e w13 ⟨rfl, x9⟩
  have HB13 := lh (Ja (Ja HB3.out HB12.out) x9)
  clear x9 x0 x1 x2 x3 x4
  go_wp2
  go_ret
  exact ⟨rfl, HB13.out⟩
