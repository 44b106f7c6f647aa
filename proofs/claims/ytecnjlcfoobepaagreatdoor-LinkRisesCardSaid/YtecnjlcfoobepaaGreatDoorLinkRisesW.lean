import Derived.Test.YtecnjlcfoobepaaGreatDoorLinkFine
namespace Go.Proofs.YtecnjlcfoobepaaGreatDoor
open Go.RowKit
set_option linter.unusedSimpArgs false
set_option linter.unusedVariables false
set_option maxRecDepth 100000 in
set_option maxHeartbeats 4000000 in
theorem linkRises_walk (A : Option Addr) (n1 c1 : Nat) (zl : List Int) (zn zw zh : Int) (w : World) (h1 : ArgZ w A n1 c1 zl) (hn : I64 zn) (hz : I64 zw) (hh : I64 zh) (hT : Tab w) :
  Calls Tryz.prog 5 #[.slice A n1 c1, .int .i64 zn, .int .i64 zw, .int .i64 zh] w (Ret (.bool true) w) := by
 obtain ⟨k0, hk0, hp0⟩ := pick_of zh 3 w hh.1 hh.2 (by omega) (by omega)
 obtain ⟨how, hhow⟩ : ∃ how, k0 + 1 = how := ⟨_, rfl⟩
 have e1 : (k0 : Int) + 1 = (how : Int) := by omega
 obtain ⟨f, hF, hdr⟩ := law_drawn A n1 c1 zl zn zw w h1 hn hz
 have hlj := lj_of how hF
 have HP := Lib.hid hp0
 have HDR := Lib.hid (fun w' => hdr how w' (by omega))
 have HF := Lib.hid hF
 have HT := Lib.hid hT
 clear hp0 hdr h1 hn hz hh hF hT hhow
 go_enter Tryz.func5, Tryz.ntmps5
 go_wp2_with fail
 refine (HP.out _).mono ?_
 rintro e w1 ⟨rfl, rfl⟩
 go_wp2_with fail
 refine (HDR.out _ HT.out (Below.refl _ _)).mono ?_
 rintro e w1 ⟨vf, vj, rfl, hof, hoj, -, hb1⟩
 obtain ⟨A3, c3, rfl⟩ := OwnS.form hof
 obtain ⟨A4, c4, hv, -⟩ := OwnW.form hoj
 subst hv
 generalize buildJ how f = l at *
 obtain ⟨m, hm⟩ : ∃ m, f.length = m := ⟨_, rfl⟩
 obtain ⟨nj, hnj⟩ : ∃ nj, l.length = nj := ⟨_, rfl⟩
 have hm1 := HF.out.one
 have hm7 := HF.out.most
 have hlen := hlj.len
 rw [hm] at hm1 hm7 hlen
 rw [hnj] at hlen
 have e2 : (m : Int) - 1 = (nj : Int) := by omega
 have HJ := Lib.hid hlj
 have HO := Lib.hid hoj
 have HB1 := Lib.hid hb1
 have HM := Lib.hid hm
 have HNJ := Lib.hid hnj
 have hfine := link_fine A4 m nj c4 5528 l w1 (by rw [← hnj]; exact hoj) hm1 (by omega) (by omega) hlj.jb (HT.out.next hb1)
 rw [← hm, hlj.fine] at hfine
 rw [hm] at hfine ⊢
 rw [hnj]
 have HFI := Lib.hid hfine
 clear hof hoj hb1 hlj hm hnj hfine HP HDR
 go_wp2_with fail
 refine HFI.out.mono ?_
 rintro e w2 ⟨rfl, hb2⟩
 have HB2 := Lib.hid hb2
 clear hb2 HFI
 go_wp2_with fail
 go_loopw [12] (fun p wr => ∃ i : Nat, 1 ≤ i ∧ (i ≤ nj ∨ i = 1) ∧ p = .int .i64 ((i : Nat) : Int) ∧ Below w1.heap.size w1 wr) (fun p _ => nj - (intOf p).toNat)
 case atStart => exact ⟨1, by omega, by omega, rfl, HB2.out⟩
 case round =>
  obtain ⟨i, hi1, hi2, rfl, hbw⟩ := hrel
  rename World => wr
  clear HB2
  have ho := OwnW.next HO.out hbw
  have HBW := Lib.hid hbw
  by_cases hin : i < nj
  ·have p0 : (i : Int) < (nj : Int) := by omega
   obtain ⟨g1, hA1⟩ := (OwnJ.addr ho (by rw [HNJ.out]; omega)).2
   subst hA1
   obtain ⟨i0, hi0⟩ : ∃ i0, i - 1 = i0 := ⟨_, rfl⟩
   have e3 : (i : Int) - 1 = (i0 : Int) := by omega
   have e5 : (i0 : Int) < (nj : Int) := by omega
   have e6 : (0 : Int) ≤ (i0 : Int) := by omega
   have hw : IntKind.i64.wrap (i0 : Int) = (i0 : Int) := IntWalk.i64_in _ (by omega)
   obtain ⟨x, hx⟩ : ∃ x, l[i]? = some x := ⟨_, List.getElem?_eq_getElem (by rw [HNJ.out]; omega)⟩
   obtain ⟨y, hy⟩ : ∃ y, l[i0]? = some y := ⟨_, List.getElem?_eq_getElem (by rw [HNJ.out]; omega)⟩
   have dx : joinAt how f i = x := by
    rw [← HJ.out.at_ i (by rw [HM.out]; omega), List.getD_eq_getElem?_getD, hx]; rfl
   have dy : joinAt how f i0 = y := by
    rw [← HJ.out.at_ i0 (by rw [HM.out]; omega), List.getD_eq_getElem?_getD, hy]; rfl
   have hle := highs (how := how) (k := i0) HJ.out.sym (by rw [HM.out]; omega)
   rw [show i0 + 1 = i by omega, dx, dy] at hle
   have hqx := (HJ.out.jb x (List.mem_of_getElem? hx)).high
   have hqy := (HJ.out.jb y (List.mem_of_getElem? hy)).high
   have b0 := OwnJ.at_ ho hx
   have b1 := OwnJ.at_ ho hy
   obtain ⟨xa, xb, xs, xq⟩ := x
   obtain ⟨ya, yb, ys, yq⟩ := y
   have hcm := fun w => frac_cmp xq yq w (hqx.mono (by omega)) (hqy.mono (by omega))
   have hlt := cmp_lt yq xq
   have hle : yq ≤ xq := hle
   generalize cmpQ xq yq = cv at *
   have q9 : decide (cv < 0) = false := decide_eq_false fun h => absurd (hlt.1 h) (Rat.not_lt.2 hle)
   unfold qV at hcm
   have HCM := Lib.hid hcm
   have hi0 := Lib.hid hi0
   clear hcm hlt hle hx hy dx dy hqx hqy ho hbw
   go_upto_region 7 with fail
   go_cut [59] (fun v wc => v = .bool false ∧ Below wr.heap.size wr wc)
   case first =>
    obtain ⟨b0q0, b0q1, b0q2, b0q3, b0q4, b0q5, b0q6, b0q7⟩ := b0.c8; have c0 := b0.drew; have c0l := c0.lt; obtain ⟨b1q0, b1q1, b1q2, b1q3, b1q4, b1q5, b1q6, b1q7⟩ := b1.c8; have c1 := b1.drew; have c1l := c1.lt; have hc := bdrew0 wr; go_region_held3 (fun w' => w'.cell? ⟨g1, i * 8, none⟩ = some (.int .i64 xa) ∧ w'.cell? ⟨g1, i * 8 + 1, none⟩ = some (.int .i64 xb) ∧ w'.cell? ⟨g1, i * 8 + 2, none⟩ = some (.int .i64 xs) ∧ w'.cell? ⟨g1, i * 8 + 3, none⟩ = some (.bool (decide (xq.num < 0))) ∧ w'.cell? ⟨g1, i * 8 + 4, none⟩ = some (.int .u64 (lo xq.num.natAbs : Int)) ∧ w'.cell? ⟨g1, i * 8 + 5, none⟩ = some (.string (mo xq.num.natAbs)) ∧ w'.cell? ⟨g1, i * 8 + 6, none⟩ = some (.int .u64 (lo (qden xq) : Int)) ∧ w'.cell? ⟨g1, i * 8 + 7, none⟩ = some (.string (mo (qden xq))) ∧ w'.cell? ⟨g1, i0 * 8, none⟩ = some (.int .i64 ya) ∧ w'.cell? ⟨g1, i0 * 8 + 1, none⟩ = some (.int .i64 yb) ∧ w'.cell? ⟨g1, i0 * 8 + 2, none⟩ = some (.int .i64 ys) ∧ w'.cell? ⟨g1, i0 * 8 + 3, none⟩ = some (.bool (decide (yq.num < 0))) ∧ w'.cell? ⟨g1, i0 * 8 + 4, none⟩ = some (.int .u64 (lo yq.num.natAbs : Int)) ∧ w'.cell? ⟨g1, i0 * 8 + 5, none⟩ = some (.string (mo yq.num.natAbs)) ∧ w'.cell? ⟨g1, i0 * 8 + 6, none⟩ = some (.int .u64 (lo (qden yq) : Int)) ∧ w'.cell? ⟨g1, i0 * 8 + 7, none⟩ = some (.string (mo (qden yq)))) (go_keep) (first | (go_at_call 29; (with_reducible refine (HCM.out _).mono ?_); rintro e w1 ⟨rfl, hw1⟩; have c0 := c0.below hw1 c0.lt; (try clear c0q0 c0q1 c0q2 c0q3 c0q4 c0q5 c0q6 c0q7); obtain ⟨c0q0, c0q1, c0q2, c0q3, c0q4, c0q5, c0q6, c0q7⟩ := c0.c8; (try clear c0l); have c0l := c0.lt; have c1 := c1.below hw1 c1.lt; (try clear c1q0 c1q1 c1q2 c1q3 c1q4 c1q5 c1q6 c1q7); obtain ⟨c1q0, c1q1, c1q2, c1q3, c1q4, c1q5, c1q6, c1q7⟩ := c1.c8; (try clear c1l); have c1l := c1.lt; have hc := bthen hc hw1))
    all_goals
     go_wp2
     go_meet
     exact ⟨rfl, hc⟩
   case rest =>
    obtain ⟨rfl, hbd⟩ := hcut
    have HBD := Lib.hid (HBW.out.trans (hbd.mono HBW.out.size))
    clear hbd HBW b0 b1
    go_wp2
    exact ⟨⟨i + 1, by omega, by omega, by go_num, HBD.out⟩, by simp [intOf]; omega⟩
  ·have p0 : ¬ (i : Int) < (nj : Int) := by omega
   have hkn := law_known wr (HT.out.next (HB1.out.trans (hbw.mono HB1.out.size)))
   have HKN := Lib.hid hkn
   clear hkn hbw
   by_cases hnj0 : nj = 0
   ·have e4 : ((nj : Int) == 0) = true := by simp [hnj0]
    have hnj0 := Lib.hid hnj0
    clear ho
    go_wp2_with fail
    refine HKN.out.mono ?_
    rintro e w3 ⟨rfl, hb3⟩
    have HB3 := Lib.hid (HBW.out.trans (hb3.mono HBW.out.size))
    clear hb3
    go_wp2
    go_returns
    exact ⟨rfl, HB1.out.trans (HB3.out.mono HB1.out.size)⟩
   ·have e4 : ((nj : Int) == 0) = false := by simp [hnj0]
    obtain ⟨g1, hA1⟩ := (OwnJ.addr ho (by rw [HNJ.out]; omega)).2
    subst hA1
    obtain ⟨i0, hi0⟩ : ∃ i0, nj - 1 = i0 := ⟨_, rfl⟩
    have e3 : (nj : Int) - 1 = (i0 : Int) := by omega
    have e5 : (i0 : Int) < (nj : Int) := by omega
    obtain ⟨x, hx⟩ : ∃ x, l[i0]? = some x := ⟨_, List.getElem?_eq_getElem (by rw [HNJ.out]; omega)⟩
    have dx : joinAt how f i0 = x := by
     rw [← HJ.out.at_ i0 (by rw [HM.out]; omega), List.getD_eq_getElem?_getD, hx]; rfl
    have hls := last_size (how := how) HJ.out.sym (by rw [HM.out]; omega)
    rw [HM.out, show m - 2 = i0 by omega, dx] at hls
    have HO := Lib.hid ho
    have hi0 := Lib.hid hi0
    clear ho dx
    obtain ⟨xa, xb, xs, xq⟩ := x
    obtain rfl : xs = (m : Int) := hls
    have e6 : ((m : Int) == (m : Int)) = true := by simp
    have HX := Lib.hid hx
    clear hx
    go_wp2_with fail
    refine HKN.out.mono ?_
    rintro e w3 ⟨rfl, hb3⟩
    have HB3 := Lib.hid (HBW.out.trans (hb3.mono HBW.out.size))
    have hat := OwnJ.at_ (OwnW.next HO.out hb3) HX.out
    obtain ⟨x0, x1, x2, x3, x4, x5, x6, x7⟩ := hat.c8
    clear hb3 hat HBW
    go_wp2
    go_returns
    exact ⟨by simp, HB1.out.trans (HB3.out.mono HB1.out.size)⟩
end Go.Proofs.YtecnjlcfoobepaaGreatDoor
