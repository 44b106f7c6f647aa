import Derived.Test.YtacbcaebaomglaaGreatDoorMeanN
namespace Go.Proofs.YtacbcaebaomglaaGreatDoor
set_option maxRecDepth 100000
set_option maxHeartbeats 8000000
open Go.RowKit
set_option linter.all false
theorem Jd1 (A : Option Addr) (n1 c1 : Nat) (zl : List Int) (A' : Option Addr) (n2 c2 : Nat) (zc : List Int) (zn zk zw zo : Int) (w : World) (h1 : ArgZ w A n1 c1 zl) (h2 : ArgZ w A' n2 c2 zc) (hn : I64 zn) (hk : I64 zk) (hw : I64 zw) (ho : I64 zo) (hT : Tab w) :
  Calls Tryz.prog 5 #[.slice A n1 c1, .slice A' n2 c2, .int .i64 zn, .int .i64 zk, .int .i64 zw, .int .i64 zo] w (Ret (.bool true) w) := by
 obtain ⟨nn, kk, wd, v, aG, aH, hwd1, aD, hv, q8⟩ := Jck A n1 c1 zl A' n2 c2 zc zn zk zw zo w h1 h2 hn hk hw ho
 have hx : ∀ l ∈ Qp zl wd nn, l.length = wd /\ ∀ y ∈ l, QS 5 y := fun l hl => by
  obtain ⟨zs', rfl⟩ := Zz hl
  exact ⟨Zf zs' wd, Zm zs' wd⟩
 have hf : ∀ l ∈ Qp zc v kk, l.length = v /\ ∀ y ∈ l, QS 5 y := fun l hl => by
  obtain ⟨zs', rfl⟩ := Zz hl
  exact ⟨Zf zs' v, Zm zs' v⟩
 have o0 := Xp zl wd nn
 have o6 := Xp zc v kk
 generalize Qp zl wd nn = x at *
 generalize Qp zc v kk = f at *
 have s9 := Vz o0 o6 (fun l hl => (hx l hl).1) (fun l hl => (hf l hl).1) hwd1 (by omega) (by omega) (by omega) (by omega) (by omega)
 have HX := lh hx
 have HF := lh hf
 have HL := lh (And.intro o0 o6)
 have HRF := lh s9
 have HDR := lh q8
 have HT := lh hT
 have HOF := lh (Jgf (wd := v) (k := 5) o6 (by omega) (by omega) (fun l hl => (hf l hl).1) (fun l hl => (hf l hl).2) (by omega))
 have HIN := lh (Jgt (wd := wd) (k := 5) o0 (by omega) (by omega) (fun l hl => (hx l hl).1) (fun l hl => (hx l hl).2) (by omega))
 clear hx hf o0 o6 s9 q8 hT h1 h2 hn hk hw ho
 go_enter Tryz.func5, Tryz.ntmps5
 go_wp2_with fail
 refine HDR.out.mono ?_
 rintro e w1 ⟨Ax, cx, Am, cm, rfl, t7, t8, u4⟩
 have HO1 := lh t7
 have HO2 := lh t8
 have HB1 := lh u4
 clear t7 t8 u4 HDR
 go_wp2_with fail
 refine (HOF.out _ _ _ HO2.out (HT.out.next HB1.out)).mono ?_
 rintro e w2 ⟨A3, c3, rfl, x7, o7⟩
 have HO3 := lh x7
 have HX2 := lh (OwnS.next Tryz.kindRR HO1.out o7)
 have HF2 := lh (OwnS.next Tryz.kindRR HO2.out o7)
 have HB2 := lh (Ja HB1.out o7)
 clear x7 o7 HB1 HO1 HO2
 go_wp2_with fail
 refine (HIN.out _ _ _ HX2.out (HT.out.next HB2.out)).mono ?_
 rintro e w3 ⟨A4, c4, rfl, x8, j6⟩
 have HO4 := lh x8
 have HO3 := lh (OwnS.next Tryz.kindQQ HO3.out j6)
 have HX3 := lh (OwnS.next Tryz.kindRR HX2.out j6)
 have HF3 := lh (OwnS.next Tryz.kindRR HF2.out j6)
 have HB3 := lh (Ja HB2.out j6)
 clear x8 j6 HB2 HX2 HF2
 have HWR := lh (fun w' (hb : Below w3.heap.size w3 w') => Jcj Ax Am nn cx kk cm w3.heap.size wd v x f w' ((OwnS.readS (fun h => OwnR.reads_ h) HX3.out).below Xf hb) ((OwnS.readS (fun h => OwnR.reads_ h) HF3.out).below Xf hb) hb.size (by omega) (by omega) hwd1 (by omega) (by omega) (by omega) (fun l hl => (HX.out l hl).1) (fun l hl => (HF.out l hl).1))
 have HKN := lh (fun w' (hb : Below w3.heap.size w3 w') => Ug w' (HT.out.next (Ja HB3.out hb)))
 obtain ⟨r, hr⟩ : ∃ r, Ko nn kk wd v = r := ⟨_, rfl⟩
 rw [hr] at HRF HWR
 have HR := lh hr
 clear hr
 by_cases x9 : r = 0
 ·subst x9
  have aE : 1 <= kk /\ 1 <= nn /\ wd = v := by
   have h := HR.out
   unfold Ko at h
   split at h
   ·cases h
   rename_i h1
   split at h
   ·cases h
   rename_i h2
   omega
  obtain ⟨y8, aF, rfl⟩ := aE
  have hmx : MX w3 w3.heap.size A3 A4 kk nn wd 100 f x := ⟨OwnS.readS (fun h => OwnQ.reads_ h) HO3.out, OwnS.readS (fun h => OwnQ.reads_ h) HO4.out, Nat.le_refl _, y8, by omega, by omega, by omega, fun l hl => (HF.out l hl).1, fun l hl => (HX.out l hl).1, by omega, by omega, fun l hl y hy => ((HF.out l hl).2 y hy).mono (by omega), fun l hl y hy => ((HX.out l hl).2 y hy).mono (by omega), HT.out.next HB3.out⟩
  have y9 : MD w3 w3.heap.size Am Ax kk nn wd 200 f x := ⟨OwnS.readS (fun h => OwnR.reads_ h) HF3.out, OwnS.readS (fun h => OwnR.reads_ h) HX3.out, Nat.le_refl _, y8, by omega, by omega, by omega, fun l hl => (HF.out l hl).1, fun l hl => (HX.out l hl).1, by omega, by omega, fun l hl y hy => ((HF.out l hl).2 y hy).mono (by omega), fun l hl y hy => ((HX.out l hl).2 y hy).mono (by omega)⟩
  have e9 := Jgp A3 A4 kk c3 nn c4 wd w3.heap.size 100 f x w3 hmx hwd1 HRF.out
  have o9 : ∀ l ∈ Xr wd f x, ∀ y ∈ l, QS 200 y := Jdj (mx := 5) (by omega) (by have := HL.out.1; omega) (by have h1 := HL.out.1; have := Nat.mul_le_mul (show x.length <= 8 by omega) (show 5 + 1 <= 6 by omega); omega) (fun l hl => (HX.out l hl).2) (fun l hl y hy => ((HF.out l hl).2 y hy).mono (by omega))
  have p7 : ∀ l ∈ Xr wd f x, l.length = wd := Jhg (fun l hl => (HF.out l hl).1)
  have p8 : (Xr wd f x).length = kk := by rw [Jaq]; exact HL.out.2
  have p9 := fun w' (hb : Below w3.heap.size w3 w') => Jho Am Ax kk cm nn cx wd w3.heap.size 200 5 f x w' (y9.next hb) (fun _ => True) (fun _ _ => trivial) (OwnRP.of (OwnS.next Tryz.kindRR HF3.out hb) (fun _ _ => trivial)) aF (by omega) (by have := Nat.mul_le_mul (show nn <= 8 by omega) (show 5 + 1 <= 6 by omega); omega) (fun l hl => (HX.out l hl).2)
  obtain ⟨F, hF⟩ : ∃ F, Xr wd f x = F := ⟨_, rfl⟩
  obtain ⟨M, hM⟩ : ∃ M, Zq wd f x = M := ⟨_, rfl⟩
  rw [hF] at e9 o9 p7 p8
  rw [hM] at e9
  simp only [hF, hM] at p9
  have aA := fun (w' : World) (A A' : Option Addr) (c c' : Nat) (h : OwnQQ w' (.slice A kk c) F) (h' : Zs w' (.slice A' kk c') F) => Jfb A A' kk c c' w'.heap.size w'.heap.size F w' (OwnS.readS (fun h => OwnQ.reads_ h) h) (OwnS.readS (fun h => OwnR.reads_ h) h') zd zd (by omega) (fun l hl => ⟨by rw [p7 l hl]; omega, fun y hy => (o9 l hl y hy).mono (by omega)⟩)
  have HSR := lh aA
  have HSL := lh p8
  have HRS := lh p9
  have HMS := lh e9
  have q0 : ((M : Int) == (M : Int)) = true := by simp
  clear hmx y9 e9 o9 p7 p8 p9 aA hF hM
  go_wp2_with fail
  refine HMS.out.mono ?_
  rintro e w4 ⟨g4, rfl, aI, aB, j7⟩
  have HO5 : Hid (OwnQQ w4 (.slice (some ⟨g4, 0, none⟩) kk kk) F) := lh aB.plain
  have HB4 := lh j7
  clear aB j7 HMS HO3 HO4
  have HO6 := lh (OwnS.next Tryz.kindQQ HO5.out (Jb w4 (.cells #[.slice (some ⟨g4, 0, none⟩) kk kk] 30)))
  have HK6 := lh (Blk.new w4 30 #[.slice (some ⟨g4, 0, none⟩) kk kk])
  have HB6 := lh (Ja HB4.out (Jb w4 (.cells #[.slice (some ⟨g4, 0, none⟩) kk kk] 30)))
  clear HO5 HB4
  go_wp2_with fail
  refine (HWR.out _ HB6.out).mono ?_
  rintro e w8 ⟨rfl, j0⟩
  have HO8 := lh (OwnS.next Tryz.kindQQ HO6.out j0)
  have HK8 := lh (HK6.out.below j0 HK6.out.lt)
  have HB8 := lh (Ja HB6.out j0)
  clear j0 HB6 HO6 HK6
  go_wp2_with fail
  refine (HRS.out _ HB8.out).mono ?_
  rintro e w9 ⟨v9, rfl, j8, -, o8⟩
  have j8 := j8.plain
  obtain ⟨A9, c9, aC⟩ := OwnS.form j8
  rw [HSL.out] at aC
  subst aC
  have HR9 := lh j8
  have HO9 := lh (OwnS.next Tryz.kindQQ HO8.out o8)
  have HK9 := lh (HK8.out.below o8 HK8.out.lt)
  have HB9 := lh (Ja HB8.out o8)
  clear j8 o8 HB8 HO8 HK8
  go_wp2_with fail
  refine (HKN.out _ HB9.out).mono ?_
  rintro e w10 ⟨rfl, e8⟩
  have HR10 := lh (OwnS.next Tryz.kindRR HR9.out e8)
  have HO10 := lh (OwnS.next Tryz.kindQQ HO9.out e8)
  have b0 := HK9.out.below e8 HK9.out.lt
  have HB10 := lh (Ja HB9.out e8)
  have HSM := lh (HSR.out w10 _ _ _ _ HO10.out HR10.out)
  have x0 := b0.c1
  clear e8 HB9 HR9 HO9 HK9 b0
  go_wp2_with fail
  refine HSM.out.mono ?_
  rintro e w11 ⟨rfl, j9⟩
  have HB11 := lh (Ja HB10.out j9)
  clear j9 x0
  go_wp2
  go_ret
  exact ⟨rfl, Ja HB3.out HB11.out⟩
 have e9 := Je1 A3 A4 kk c3 nn c4 w3.heap.size f x w3 (OwnS.readS (fun h => OwnQ.reads_ h) HO3.out) (OwnS.readS (fun h => OwnQ.reads_ h) HO4.out) zd (by omega) (by omega) (by rw [HRF.out]; exact x9)
 rw [HRF.out] at e9
 have HMS := lh e9
 have q1 : ((r : Int) != 0) = true := by simp; omega
 have q2 : ¬ (r : Int) = 0 := by omega
 have q3 : ((r : Int) == 0) = false := by simp; omega
 have q4 : ((r : Int) == (r : Int)) = true := by simp
 clear e9
 go_wp2_with fail
 refine HMS.out.mono ?_
 rintro e w4 ⟨rfl, j7⟩
 have HK6 := lh (Blk.new w4 30 #[.slice none 0 0])
 have HB6 := lh (Ja j7 (Jb w4 (.cells #[.slice none 0 0] 30)))
 clear j7 HMS HO3 HO4
 go_wp2_with fail
 refine (HWR.out _ HB6.out).mono ?_
 rintro e w8 ⟨rfl, j0⟩
 have HK8 := lh (HK6.out.below j0 HK6.out.lt)
 have HB8 := lh (Ja HB6.out j0)
 clear j0 HB6 HK6
 go_wp2_with fail
 refine (HKN.out _ HB8.out).mono ?_
 rintro e w10 ⟨rfl, e8⟩
 have b0 := HK8.out.below e8 HK8.out.lt
 have HB10 := lh (Ja HB8.out e8)
 have x0 := b0.c1
 clear e8 HB8 HK8 b0
 go_wp2
 go_ret
 exact ⟨rfl, Ja HB3.out HB10.out⟩
