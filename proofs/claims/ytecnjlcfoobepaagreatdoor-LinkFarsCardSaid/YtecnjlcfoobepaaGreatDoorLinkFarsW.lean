import Derived.Test.YtecnjlcfoobepaaGreatDoorSpoiltP
namespace Go.Proofs.YtecnjlcfoobepaaGreatDoor
open Go.RowKit
set_option linter.unusedSimpArgs false
set_option linter.unusedVariables false
set_option maxRecDepth 100000 in
theorem link_fars_nil (A : Option Addr) (c : Nat) (w : World) : Calls Tryz.prog 15 #[.slice A 0 c] w (Ret (.tuple #[.slice none 0 0, .int .i64 5]) w) := by
 go_enter Tryz.func15, Tryz.ntmps15
 go_wp2
 go_returns
 exact ⟨rfl, by first | exact Below.refl _ _ | exact bdrew0 _ | exact bdrewN (Below.refl _ _) _⟩
set_option maxRecDepth 100000 in
set_option maxHeartbeats 4000000 in
theorem linkFars_walk (A : Option Addr) (n1 c1 : Nat) (zl : List Int) (zn zw zy za zb zk : Int) (w : World) (h1 : ArgZ w A n1 c1 zl) (hn : I64 zn) (hz : I64 zw) (h4 : I64 zy) (h5 : I64 za) (h6 : I64 zb) (h7 : I64 zk) (hT : Tab w) :
  Calls Tryz.prog 3 #[.slice A n1 c1, .int .i64 zn, .int .i64 zw, .int .i64 zy, .int .i64 za, .int .i64 zb, .int .i64 zk] w (Ret (.bool true) w) := by
 obtain ⟨nn, hnn, hp0⟩ := pick_of zn 8 w hn.1 hn.2 (by omega) (by omega)
 obtain ⟨k2, hk2, hp2⟩ := pick_of zw 2 w hz.1 hz.2 (by omega) (by omega)
 obtain ⟨wd, hwd⟩ : ∃ wd, k2 + 1 = wd := ⟨_, rfl⟩
 have e2 : (k2 : Int) + 1 = (wd : Int) := by omega
 obtain ⟨g, hg, hsp⟩ := law_spoilt A n1 c1 zl zn zw zy za zb zk w h1 hn hz h4 h5 h6 h7
 have hrows := hand_rows A n1 c1 w.heap.size zl nn wd w ⟨h1.rd.1, h1.rd.2⟩ (Nat.le_refl _) h1.cap h1.most (by omega) (by omega)
 have hrow : ∀ l ∈ rowsOf zl wd nn, l.length = wd ∧ ∀ x ∈ l, QS 5 x := fun l hl => by
  obtain ⟨zs', rfl⟩ := rowsOf_row hl
  exact ⟨rowOf_len zs' wd, rowOf_size zs' wd⟩
 have hlen := rowsOf_len zl wd nn
 have hfl : (farsQ (rowsOf zl wd nn)).length = nn := by rw [farsQ_len, hlen]
 have hSm := small_fars (zs := zl) (m := wd) (n := nn) (by omega) (by omega)
 have hle := rowsOf_learn (zs := zl) (m := wd) (n := nn) (by omega) (by omega) (by omega)
 generalize rowsOf zl wd nn = x at *
 have HP0 := Lib.hid hp0
 have HP2 := Lib.hid hp2
 have HR := Lib.hid hrows
 have HX := Lib.hid hrow
 have HLEN := Lib.hid hlen
 have HFL := Lib.hid hfl
 have HSM := Lib.hid hSm
 have HLE := Lib.hid hle
 have HG := Lib.hid hg
 have HSP := Lib.hid hsp
 have HT := Lib.hid hT
 clear hp0 hp2 hrows hrow hlen hfl hSm hle hg hsp hT h1 hn hz h4 h5 h6 h7 hwd
 go_enter Tryz.func3, Tryz.ntmps3
 go_wp2_with fail
 refine (HP0.out _).mono ?_
 rintro e w1 ⟨rfl, rfl⟩
 go_wp2_with fail
 refine (HP2.out _).mono ?_
 rintro e w1 ⟨rfl, rfl⟩
 go_wp2_with fail
 refine HR.out.mono ?_
 rintro e w1 ⟨v, rfl, ho, -, hb1⟩
 obtain ⟨A1, c1', hv⟩ := OwnS.form ho
 rw [HLEN.out] at hv
 subst hv
 have HO := Lib.hid ho
 have HB1 := Lib.hid hb1
 clear ho hb1 HR HP0 HP2
 go_wp2_with fail
 refine (hand_inRows A1 nn c1' w1.heap.size x w1 (OwnRR.readsRR HO.out) (Nat.le_refl _) (by omega) (fun l hl => ⟨by rw [(HX.out l hl).1]; omega, fun y hy => ((HX.out l hl).2 y hy).mono (by omega)⟩) (HT.out.next HB1.out)).mono ?_
 rintro e w2 ⟨v, rfl, ho, -, hb2⟩
 obtain ⟨A2, c2, hv⟩ := OwnS.form ho
 rw [HLEN.out] at hv
 subst hv
 have HB2 := Lib.hid (bthen HB1.out hb2)
 have HO1 := Lib.hid (OwnS.next Tryz.kindRR HO.out hb2)
 have HO2 := Lib.hid ho
 clear ho hb2 HB1 HO
 by_cases hn1 : 1 ≤ nn
 ·have hle : learnB x = true := by rw [HLE.out]; exact decide_eq_true hn1
  have HLE := Lib.hid hle
  clear hle
  go_wp2_with fail
  refine (link_fars A2 nn c2 w2.heap.size 5 x w2 (OwnQQ.readsQQ HO2.out) (Nat.le_refl _) (by omega) (by omega) (by omega) (fun l hl => (HX.out l hl).2) (HT.out.next HB2.out) HLE.out).mono ?_
  rintro e w3 ⟨v, rfl, ho, -, hb3⟩
  obtain ⟨A3, c3, hv⟩ := OwnS.form ho
  rw [HFL.out] at hv
  subst hv
  have HO3 := Lib.hid (OwnS.next Tryz.kindRR HO1.out hb3)
  have HF3 := Lib.hid ho
  have HB3 := Lib.hid (bthen HB2.out hb3)
  clear ho hb3 HB2 HO1 HO2
  go_wp2_with fail
  refine (HSP.out w3 HB3.out).mono ?_
  rintro e w4 ⟨A4, n4, c4, rfl, hs4, hb4⟩
  have hn4 : g.length = n4 := hs4.len
  have HO4 := Lib.hid (OwnS.next Tryz.kindRR HO3.out hb4)
  have HF4 := Lib.hid (OwnS.next Tryz.kindQQ HF3.out hb4)
  have HB4 := Lib.hid (bthen HB3.out hb4)
  have HS4 := Lib.hid hs4
  have hn47 : n4 ≤ 7 := by have := HG.out.len; omega
  clear hs4 hb4 HB3 HO3 HF3 HSP hn4
  go_wp2_with fail
  refine (law_known w4 (HT.out.next HB4.out)).mono ?_
  rintro e w5 ⟨rfl, hb5⟩
  have HO5 := Lib.hid (OwnS.next Tryz.kindRR HO4.out hb5)
  have HF5 := Lib.hid (OwnS.next Tryz.kindQQ HF4.out hb5)
  have HS5 := Lib.hid ((HS4.out.below rkindR hb5).more rkindR hb5.size)
  have HB5 := Lib.hid (bthen HB4.out hb5)
  clear hb5 HB4 HO4 HF4 HS4
  go_wp2_with fail
  refine (hand_inRows A4 n4 c4 w5.heap.size g w5 HS5.out (Nat.le_refl _) (by omega) (fun l hl => ⟨by have := (HG.out.row l hl).1; omega, fun y hy => ((HG.out.row l hl).2 y hy).mono (by omega)⟩) (HT.out.next HB5.out)).mono ?_
  rintro e w6 ⟨v, rfl, ho, -, hb6⟩
  obtain ⟨A6, c6, hv⟩ := OwnS.form ho
  have hg4 : g.length = n4 := HS5.out.len
  rw [hg4] at hv
  subst hv
  have HO6 := Lib.hid (OwnS.next Tryz.kindRR HO5.out hb6)
  have HF6 := Lib.hid (OwnS.next Tryz.kindQQ HF5.out hb6)
  have HS6 := Lib.hid ((HS5.out.below rkindR hb6).more rkindR hb6.size)
  have HB6 := Lib.hid (bthen HB5.out hb6)
  have HQ6 := Lib.hid ho
  clear hb6 HB5 HO5 HF5 HS5 ho hg4
  go_wp2_with fail
  refine (link_check A6 n4 c6 w6.heap.size g w6 (OwnQQ.readsQQ HQ6.out) (Nat.le_refl _) (by omega) (fun l hl y hy => ((HG.out.row l hl).2 y hy).mono (by omega))).mono ?_
  rintro e w7 ⟨rfl, hb7⟩
  have HO7 := Lib.hid (OwnS.next Tryz.kindRR HO6.out hb7)
  have HF7 := Lib.hid (OwnS.next Tryz.kindQQ HF6.out hb7)
  have HS7 := Lib.hid ((HS6.out.below rkindR hb7).more rkindR hb7.size)
  have HB7 := Lib.hid (bthen HB6.out hb7)
  clear hb7 HB6 HO6 HF6 HS6 HQ6
  have hcf := ref_checkFars A4 n4 c4 w7.heap.size g w7 HS7.out (Nat.le_refl _) (by omega) (fun l hl y hy => ((HG.out.row l hl).2 y hy).mono (by omega))
  generalize checkFar g = cf at *
  have HCF := Lib.hid hcf
  have q9 : ((cf : Int) == (cf : Int)) = true := by simp
  have q10 : ((cf : Int) != (cf : Int)) = false := by simp
  clear hcf
  go_wp2_with fail
  refine HCF.out.mono ?_
  rintro e w8 ⟨rfl, hb8⟩
  have HO8 := Lib.hid (OwnS.next Tryz.kindRR HO7.out hb8)
  have HF8 := Lib.hid (OwnS.next Tryz.kindQQ HF7.out hb8)
  have HB8 := Lib.hid (bthen HB7.out hb8)
  clear hb8 HB7 HO7 HF7 HS7 HCF
  have hln := ref_learn A1 nn c1' w8.heap.size wd x w8 (OwnRR.readsRR HO8.out) (Nat.le_refl _) (by omega) (by omega) (by omega) (fun l hl => (HX.out l hl).1)
  rw [decide_eq_true hn1] at hln
  have HLN := Lib.hid hln
  clear hln
  go_wp2_with fail
  refine HLN.out.mono ?_
  rintro e w9 ⟨rfl, hb9⟩
  have HO9 := Lib.hid (OwnS.next Tryz.kindRR HO8.out hb9)
  have HF9 := Lib.hid (OwnS.next Tryz.kindQQ HF8.out hb9)
  have HB9 := Lib.hid (bthen HB8.out hb9)
  clear hb9 HB8 HO8 HF8 HLN
  go_wp2_with fail
  refine (ref_fars A1 nn c1' w9.heap.size 5 wd x w9 (OwnRR.readsRR HO9.out) (Nat.le_refl _) (by omega) (by omega) (by omega) (by omega) HX.out).mono ?_
  rintro e wa ⟨v, rfl, ho, -, hba⟩
  obtain ⟨Aa, ca, hv⟩ := OwnSA.form ho
  rw [HFL.out] at hv
  subst hv
  have HFA := Lib.hid (OwnS.next Tryz.kindQQ HF9.out hba)
  have HRA := Lib.hid ho.plain
  have HBA := Lib.hid (bthen HB9.out hba)
  clear hba ho HB9 HO9 HF9
  go_wp2_with fail
  refine (same_rows A3 Aa nn c3 ca wa.heap.size wa.heap.size (farsQ x) wa (OwnQQ.readsQQ HFA.out) (OwnRR.readsRR HRA.out) (Nat.le_refl _) (Nat.le_refl _) (by omega) (fun l hl => ⟨by have := (HSM.out.row l hl).1; omega, fun y hy => ((HSM.out.row l hl).2 y hy).mono (by omega)⟩)).mono ?_
  rintro e wb ⟨rfl, hbb⟩
  have HBB := Lib.hid (bthen HBA.out hbb)
  clear hbb HBA
  go_wp2
  go_ret
  exact ⟨rfl, HBB.out⟩
 ·obtain rfl : nn = 0 := by omega
  go_wp2_with fail
  refine (link_fars_nil A2 c2 w2).mono ?_
  rintro e w3 ⟨rfl, hb3⟩
  have HO3 := Lib.hid (OwnS.next Tryz.kindRR HO1.out hb3)
  have HB3 := Lib.hid (bthen HB2.out hb3)
  clear hb3 HB2 HO1 HO2
  go_wp2_with fail
  refine (HSP.out w3 HB3.out).mono ?_
  rintro e w4 ⟨A4, n4, c4, rfl, hs4, hb4⟩
  have hn4 : g.length = n4 := hs4.len
  have HO4 := Lib.hid (OwnS.next Tryz.kindRR HO3.out hb4)
  have HB4 := Lib.hid (bthen HB3.out hb4)
  have HS4 := Lib.hid hs4
  have hn47 : n4 ≤ 7 := by have := HG.out.len; omega
  clear hs4 hb4 HB3 HO3 HSP hn4
  go_wp2_with fail
  refine (law_known w4 (HT.out.next HB4.out)).mono ?_
  rintro e w5 ⟨rfl, hb5⟩
  have HO5 := Lib.hid (OwnS.next Tryz.kindRR HO4.out hb5)
  have HS5 := Lib.hid ((HS4.out.below rkindR hb5).more rkindR hb5.size)
  have HB5 := Lib.hid (bthen HB4.out hb5)
  clear hb5 HB4 HO4 HS4
  go_wp2_with fail
  refine (hand_inRows A4 n4 c4 w5.heap.size g w5 HS5.out (Nat.le_refl _) (by omega) (fun l hl => ⟨by have := (HG.out.row l hl).1; omega, fun y hy => ((HG.out.row l hl).2 y hy).mono (by omega)⟩) (HT.out.next HB5.out)).mono ?_
  rintro e w6 ⟨v, rfl, ho, -, hb6⟩
  obtain ⟨A6, c6, hv⟩ := OwnS.form ho
  have hg4 : g.length = n4 := HS5.out.len
  rw [hg4] at hv
  subst hv
  have HO6 := Lib.hid (OwnS.next Tryz.kindRR HO5.out hb6)
  have HS6 := Lib.hid ((HS5.out.below rkindR hb6).more rkindR hb6.size)
  have HB6 := Lib.hid (bthen HB5.out hb6)
  have HQ6 := Lib.hid ho
  clear hb6 HB5 HO5 HS5 ho hg4
  go_wp2_with fail
  refine (link_check A6 n4 c6 w6.heap.size g w6 (OwnQQ.readsQQ HQ6.out) (Nat.le_refl _) (by omega) (fun l hl y hy => ((HG.out.row l hl).2 y hy).mono (by omega))).mono ?_
  rintro e w7 ⟨rfl, hb7⟩
  have HO7 := Lib.hid (OwnS.next Tryz.kindRR HO6.out hb7)
  have HS7 := Lib.hid ((HS6.out.below rkindR hb7).more rkindR hb7.size)
  have HB7 := Lib.hid (bthen HB6.out hb7)
  clear hb7 HB6 HO6 HS6 HQ6
  have hcf := ref_checkFars A4 n4 c4 w7.heap.size g w7 HS7.out (Nat.le_refl _) (by omega) (fun l hl y hy => ((HG.out.row l hl).2 y hy).mono (by omega))
  generalize checkFar g = cf at *
  have HCF := Lib.hid hcf
  have q9 : ((cf : Int) == (cf : Int)) = true := by simp
  have q10 : ((cf : Int) != (cf : Int)) = false := by simp
  clear hcf
  go_wp2_with fail
  refine HCF.out.mono ?_
  rintro e w8 ⟨rfl, hb8⟩
  have HO8 := Lib.hid (OwnS.next Tryz.kindRR HO7.out hb8)
  have HB8 := Lib.hid (bthen HB7.out hb8)
  clear hb8 HB7 HO7 HS7 HCF
  have hln := ref_learn A1 0 c1' w8.heap.size wd x w8 (OwnRR.readsRR HO8.out) (Nat.le_refl _) (by omega) (by omega) (by omega) (fun l hl => (HX.out l hl).1)
  rw [show decide (1 ≤ 0) = false from rfl] at hln
  have HLN := Lib.hid hln
  clear hln
  go_wp2_with fail
  refine HLN.out.mono ?_
  rintro e w9 ⟨rfl, hb9⟩
  have HB9 := Lib.hid (bthen HB8.out hb9)
  clear hb9 HB8 HO8 HLN
  go_wp2
  go_ret
  exact ⟨rfl, HB9.out⟩
end Go.Proofs.YtecnjlcfoobepaaGreatDoor
