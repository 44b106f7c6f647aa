/-
  The walk of abaculuslaw5.DicePlays.
-/
import Derived.Test.YtjmbpnogicdkgaaGreatDoorTab
import Derived.Test.YtjmbpnogicdkgaaGreatDoorPlays
import Derived.Test.YtjmbpnogicdkgaaGreatDoorRefRow
import Derived.Test.YtjmbpnogicdkgaaGreatDoorDicePicksW
import Derived.WalkKit
import Derived.Deep.DeepCutAuto
import Derived.Deep.CutBlock
namespace Go.Proofs.YtjmbpnogicdkgaaGreatDoor
open Go.RowKit
set_option linter.unusedVariables false
set_option linter.unusedSimpArgs false

/-- a die of the program and one of the document in the same state -/
structure Duet (w0 : World) (s gd gr : Nat) (wr : World) : Prop where
  da : Blk wr gd 125 #[.int .u64 (s : Int)]
  dr : Blk wr gr 88 #[.int .u64 (s : Int)]
  ne : gd ≠ gr
  ld : w0.heap.size ≤ gd
  lr : w0.heap.size ≤ gr
  hB : Below w0.heap.size w0 wr
  hs : s < 18446744073709551616
theorem Duet.next {w0 wr w' : World} {s gd gr : Nat} (h : Duet w0 s gd gr wr) (hb : Below wr.heap.size wr w') : Duet w0 s gd gr w' :=
  ⟨h.da.below hb h.da.lt, h.dr.below hb h.dr.lt, h.ne, h.ld, h.lr, bthen h.hB hb, h.hs⟩
theorem Duet.mid {w0 wr w1 w2 : World} {s gd gr : Nat} (h : Duet w0 s gd gr wr) (hx1 : Exc gd wr w1) (hb : Below w1.heap.size w1 w2) : Blk w2 gr 88 #[.int .u64 (s : Int)] := by
  have := h.dr.exc hx1 (Ne.symm h.ne)
  exact this.below hb this.lt
theorem Duet.two {w0 wr w1 w2 w3 : World} {s s' gd gr : Nat} (h : Duet w0 s gd gr wr) (hx1 : Exc gd wr w1) (d1 : Blk w1 gd 125 #[.int .u64 (s' : Int)]) (hb : Below w1.heap.size w1 w2) (hx2 : Exc gr w2 w3) (d2 : Blk w3 gr 88 #[.int .u64 (s' : Int)]) (hs' : s' < 18446744073709551616) : Duet w0 s' gd gr w3 := by
  have e1 : Below w0.heap.size w0 w1 := h.hB.trans (hx1.below h.hB.size h.ld)
  have e2 := bthen e1 hb
  exact ⟨(d1.below hb d1.lt).exc hx2 h.ne, d2, h.ne, h.ld, h.lr, e2.trans (hx2.below e2.size h.lr), hs'⟩
/-- numbers in memory do not lie in a die -/
theorem reads_die {w w' : World} {b s n : Nat} {A : Option Addr} {l : List Nat} {t : TypeId} (h : Reads w w.heap.size 1 A n (l.map iv)) (hd : Blk w b t #[.int .u64 (s : Int)]) (he : Exc b w w') : Reads w' w'.heap.size 1 A n (l.map iv) := by
  rcases Nat.eq_zero_or_pos n with h0 | h0
  · exact ⟨h.1, fun hn => absurd hn (by omega)⟩
  · refine (h.exc he (Nat.le_refl _) ?_).more he.size
    obtain ⟨ad, x, k1, k2, k3, c0⟩ := h.atf h0
    intro ad' e1 e2
    rw [k1] at e1
    obtain rfl := Option.some.inj e1
    have hadd : ad.add 0 = ad := rfl
    rw [hadd] at c0
    have e0 := spot_none c0
    cases ad with
    | mk g o sp =>
      simp at e0 e2
      subst e0; subst e2
      have h6 := hd.cell o
      rw [c0] at h6
      cases o with
      | zero => simp [iv] at h6
      | succ o => simp at h6
theorem Duet.exc {w0 wr w' : World} {s gd gr g : Nat} (h : Duet w0 s gd gr wr) (hx : Exc g wr w') (h1 : gd ≠ g) (h2 : gr ≠ g) (hg : w0.heap.size ≤ g) : Duet w0 s gd gr w' :=
  ⟨h.da.exc hx h1, h.dr.exc hx h2, h.ne, h.ld, h.lr, h.hB.trans (hx.below h.hB.size hg), h.hs⟩
/-- the weights that are picked of -/
def WRel (w0 : World) (s gd gr : Nat) (v : Value) (m : Nat) (wc : World) : Prop := ∃ L : List Rat, OwnR wc v L ∧ L.length = m ∧ (∀ x ∈ L, QS 5 x) ∧ Duet w0 s gd gr wc
theorem picks_both {b r s : Nat} {l : List Rat} {w w1 : World} {e : Ending} (h : PickPost b s l w e w1) (hd : Blk w b 125 #[.int .u64 (s : Int)]) (hs : s < 18446744073709551616) :
    ∃ (i : Nat) (ok : Bool) (s' : Nat), s' < 18446744073709551616 ∧ Plays 125 b (.tuple #[.int .i64 (i : Int), .bool ok]) s' w e w1 ∧ ∀ w2 w3 e', Blk w2 r 88 #[.int .u64 (s : Int)] → RPickPost r s l w2 e' w3 → Plays 88 r (.tuple #[.int .i64 (i : Int), .bool ok]) s' w2 e' w3 := by
  rcases h with ⟨hbad, h1, h2⟩ | ⟨hn, hz, i, ok, h1, h2, h3, h4⟩
  · refine ⟨0, false, s, hs, ⟨h1, hd.below h2 hd.lt, Exc.of h2⟩, fun w2 w3 e' hr h' => ?_⟩
    rcases h' with ⟨_, k1, k2⟩ | ⟨kn, kz, _⟩
    · exact ⟨k1, hr.below k2 hr.lt, Exc.of k2⟩
    · exfalso
      rcases hbad with ⟨x, hx, hx0⟩ | h0
      · have := kn x hx
        omega
      · exact kz h0
  · refine ⟨i, ok, _, Dice.step_lt s, ⟨h2, h4, h3.exc⟩, fun w2 w3 e' hr h' => ?_⟩
    rcases h' with ⟨hbad, k1, k2⟩ | ⟨_, _, j, ok', k1, k2, k3, k4⟩
    · exfalso
      rcases hbad with ⟨x, hx, hx0⟩ | h0
      · have := hn x hx
        omega
      · exact hz h0
    · obtain ⟨rfl, rfl⟩ := pickRes_same h1 k1
      exact ⟨k2, k4, k3⟩
def PlayEnd (w0 : World) (vd vr ok : Value) (wc : World) : Prop := ok = .bool true ∧ ∃ gd gr s, vd = .pointer (some ⟨gd, 0, none⟩) ∧ vr = .pointer (some ⟨gr, 0, none⟩) ∧ Duet w0 s gd gr wc

set_option maxRecDepth 100000 in
set_option maxHeartbeats 16000000 in
theorem dicePlays_walk (s0 : Nat) (A : Option Addr) (n c : Nat) (l : List PlayD) (w : World) (hs0 : s0 < 18446744073709551616) (h : ReadsW w w.heap.size 5 playC A n l) (hok : ∀ x ∈ l, PlayOK w w.heap.size x) (hn : n ≤ 9223372036854775807) (hT : Tab w) :
    Calls Tryz.prog 7 #[.int .u64 (s0 : Int), .slice A n c] w (Ret (.bool true) w) := by
  have H := Lib.hid h
  have HOK := Lib.hid hok
  have HT := Lib.hid hT
  clear h hok hT
  go_enter Tryz.func7, Tryz.ntmps7
  go_wp2_with fail
  refine (dice_new _ _).mono ?_
  rintro e w1 ⟨rfl, rfl⟩
  go_wp2_with fail
  refine (dice_known _).mono ?_
  rintro e x1 ⟨rfl, hb1⟩
  have hD0 : Duet w s0 w.heap.size (w.heap.size + 1) x1 := by
    refine ⟨((Blk.new w _ _).alloc _).below hb1 (by simp; omega), ?_, by omega, Nat.le_refl _, by omega, (((Below.refl _ _).alloc (Nat.le_refl _) _).alloc (by simp) _).trans (hb1.mono (by simp; omega)), hs0⟩
    have h := (Blk.new (w.alloc (.cells #[.int .u64 (s0 : Int)] 125)) 88 #[.int .u64 (s0 : Int)]).below hb1 (by simp)
    simpa using h
  have HD0 := Lib.hid hD0
  clear hb1 hD0
  go_wp2_with fail
  go_loopw [5, 6, 7] (fun vd vr i wr => ∃ k gd gr s : Nat, k ≤ n ∧ k ≤ 20 ∧ i = .int .i64 (k : Int) ∧ vd = .pointer (some ⟨gd, 0, none⟩) ∧ vr = .pointer (some ⟨gr, 0, none⟩) ∧ Duet w s gd gr wr) (fun _ _ i _ => 20 - (intOf i).toNat)
  case atStart => exact ⟨0, _, _, s0, by omega, by omega, rfl, rfl, rfl, HD0.out⟩
  case round =>
    obtain ⟨k, gd, gr, s, hk, hk20, rfl, rfl, rfl, hd⟩ := hrel
    rename World => wr
    clear HD0
    by_cases hlt : k < n ∧ k < 20
    · obtain ⟨hlt1, hlt2⟩ := hlt
      obtain ⟨ad, g, o, x, rfl, hP, hgB, hx, x0, x1, x2, x3, x4⟩ := PlayS.cells (H.out.below hd.hB) hlt1
      have ok := HOK.out x (List.mem_of_getElem? hx)
      have hpk := fun w => hand_pick x.what 6 w ok.w0 ok.w1 (by omega) (by omega)
      obtain ⟨r, hr⟩ : ∃ r, x.what % ((6 : Nat) : Int) = r := ⟨_, rfl⟩
      have hr6 : r = 0 ∨ r = 1 ∨ r = 2 ∨ r = 3 ∨ r = 4 ∨ r = 5 := by
        have h2 : x.what % 6 = r := hr
        omega
      rw [hr] at hpk
      obtain ⟨xw, xn, xk, xA, xna, xca, xs, zs⟩ := x
      simp only [] at x0 x1 x2 x3 x4 hpk
      have HPK := Lib.hid hpk
      have HO := Lib.hid ok
      have b8 := Blk.new wr 90 #[.int .i64 xw, .int .i64 xn, .int .i64 xk, .slice xA xna xca, .string xs]
      have HD := Lib.hid (hd.next (balloc1 wr (.cells #[.int .i64 xw, .int .i64 xn, .int .i64 xk, .slice xA xna xca, .string xs] 90)))
      have hgd8 : gd < wr.heap.size := hd.da.lt
      have hgr8 : gr < wr.heap.size := hd.dr.lt
      have j1 : (k : Int) < (n : Int) := by omega
      have j2 : (k : Int) < 20 := by omega
      clear hpk hr hx ok hd
      go_wp2_with fail
      generalize wr.alloc (.cells #[.int .i64 xw, .int .i64 xn, .int .i64 xk, .slice xA xna xca, .string xs] 90) = W at *
      generalize hga : wr.heap.size = g8 at *
      clear hga x0 x1 x2 x3 x4 hP
      refine (HPK.out W).mono ?_
      rintro e w4 ⟨rfl, rfl⟩
      go_upto_block 2 with fail
      go_cut [5, 6, 9, 10, 11, 12, 13, 14, 15, 16, 17, 18, 19] from 31 to 173 (fun vd vr ok _ _ _ _ _ _ _ _ _ _ wc => PlayEnd w vd vr ok wc)
      case first =>
        have q1 : W.cell? ⟨g8, 1, none⟩ = some (.int .i64 xn) := b8.cell 1
        have q2 : W.cell? ⟨g8, 2, none⟩ = some (.int .i64 xk) := b8.cell 2
        have q3 : W.cell? ⟨g8, 3, none⟩ = some (.slice xA xna xca) := b8.cell 3
        have q4 : W.cell? ⟨g8, 4, none⟩ = some (.string xs) := b8.cell 4
        rcases hr6 with rfl | rfl | rfl | rfl | rfl | rfl
        · clear q1 q2 q3 q4
          go_wp2_with fail
          refine (play_next HD.out.hs HD.out.da).mono ?_
          rintro e w5 ⟨rfl, d5, hx5⟩
          have dm := HD.out.mid hx5 (Below.refl _ _)
          go_wp2_with fail
          refine (rplay_next HD.out.hs dm).mono ?_
          rintro e w6 ⟨rfl, d6, hx6⟩
          have HF := Lib.hid (HD.out.two hx5 d5 (Below.refl _ _) hx6 d6 (Dice.step_lt s))
          clear d5 hx5 dm d6 hx6
          go_wp2
          go_meet
          exact ⟨by simp, _, _, _, rfl, rfl, HF.out⟩
        · have hp := fun w => hand_pick xn 50 w HO.out.n0 HO.out.n1 (by omega) (by omega)
          have e50 : xn % ((50 : Nat) : Int) = xn % 50 := rfl
          rw [e50] at hp
          have hp0 : 0 ≤ xn % 50 := Int.emod_nonneg _ (by omega)
          have hp1 : xn % 50 < 50 := Int.emod_lt_of_pos _ (by omega)
          have hxn0 := HO.out.n0
          have hxn1 := HO.out.n1
          simp only [] at hxn0 hxn1
          generalize xn % 50 = p at *
          have HPP := Lib.hid hp
          clear hp e50 q3 q4
          by_cases hm : xk.tmod 2 = 0
          · have hmb : (xk.tmod 2 == 0) = true := by simp [hm]
            have HB1 := Lib.hid (play_below (p - 3) HD.out.hs (by omega) HD.out.da)
            have HB2 := Lib.hid (fun w' hd' => rplay_below (b := gr) (s := s) (w := w') (p - 3) HD.out.hs (by omega) hd')
            have hst := belowZ_state (p - 3) s HD.out.hs
            generalize belowZ (p - 3) s = bz at *
            clear hm
            go_wp2_with fail
            refine (HPP.out W).mono ?_
            rintro e w4 ⟨rfl, rfl⟩
            go_wp2_with fail
            refine HB1.out.mono ?_
            rintro e w5 ⟨rfl, d5, hx5⟩
            have dm := HD.out.mid hx5 (Below.refl _ _)
            go_wp2_with fail
            refine (HB2.out w5 dm).mono ?_
            rintro e w6 ⟨rfl, d6, hx6⟩
            have HF := Lib.hid (HD.out.two hx5 d5 (Below.refl _ _) hx6 d6 hst)
            clear d5 hx5 dm d6 hx6
            go_wp2
            go_meet
            exact ⟨by simp, _, _, _, rfl, rfl, HF.out⟩
          · have hmb : (xk.tmod 2 == 0) = false := by simp [hm]
            have HB1 := Lib.hid (play_below xn HD.out.hs (by omega) HD.out.da)
            have HB2 := Lib.hid (fun w' hd' => rplay_below (b := gr) (s := s) (w := w') xn HD.out.hs (by omega) hd')
            have hst := belowZ_state xn s HD.out.hs
            generalize belowZ xn s = bz at *
            clear hm HPP
            go_wp2_with fail
            refine HB1.out.mono ?_
            rintro e w5 ⟨rfl, d5, hx5⟩
            have dm := HD.out.mid hx5 (Below.refl _ _)
            go_wp2_with fail
            refine (HB2.out w5 dm).mono ?_
            rintro e w6 ⟨rfl, d6, hx6⟩
            have HF := Lib.hid (HD.out.two hx5 d5 (Below.refl _ _) hx6 d6 hst)
            clear d5 hx5 dm d6 hx6
            go_wp2
            go_meet
            exact ⟨by simp, _, _, _, rfl, rfl, HF.out⟩
        · have hp := fun w => hand_pick xn 40 w HO.out.n0 HO.out.n1 (by omega) (by omega)
          have e40 : xn % ((40 : Nat) : Int) = xn % 40 := rfl
          rw [e40] at hp
          have hp0 : 0 ≤ xn % 40 := Int.emod_nonneg _ (by omega)
          have hp1 : xn % 40 < 40 := Int.emod_lt_of_pos _ (by omega)
          generalize xn % 40 = p at *
          have HPP := Lib.hid hp
          have HB1 := Lib.hid (play_order (p - 2) HD.out.hs (by omega) HD.out.da)
          have HB2 := Lib.hid (fun w' hd' => rplay_order (b := gr) (s := s) (w := w') (p - 2) HD.out.hs (by omega) hd')
          have hst := orderZ_state (p - 2) s HD.out.hs
          have hol : (orderZ (p - 2) s).1.length ≤ 40 := by
            unfold orderZ
            split
            · simp
            · rw [order_len]; omega
          generalize orderZ (p - 2) s = bz at *
          clear hp e40 q2 q3 q4
          go_wp2_with fail
          refine (HPP.out W).mono ?_
          rintro e w4 ⟨rfl, rfl⟩
          go_wp2_with fail
          refine HB1.out.mono ?_
          rintro e w5 ⟨A5, c5, rfl, r5, d5, hx5⟩
          have dm := HD.out.mid hx5 (Below.refl _ _)
          go_wp2_with fail
          refine (HB2.out w5 dm).mono ?_
          rintro e w6 ⟨A6, c6, rfl, r6, d6, hx6⟩
          have r5 := reads_die r5 dm hx6
          have HSI := Lib.hid (same_ints A5 A6 _ c5 c6 bz.1 _ _ w6 r5 r6 (by omega))
          have HF := Lib.hid (HD.out.two hx5 d5 (Below.refl _ _) hx6 d6 hst)
          clear d5 hx5 dm d6 hx6 r5 r6
          go_wp2_with fail
          refine HSI.out.mono ?_
          rintro e w7 ⟨rfl, dk, rfl⟩
          have HF := Lib.hid (HF.out.next (bdrewN (Below.refl _ _) dk))
          go_wp2
          go_meet
          exact ⟨rfl, _, _, _, rfl, rfl, HF.out⟩
        · have hp := fun w => hand_pick xn 40 w HO.out.n0 HO.out.n1 (by omega) (by omega)
          have e40 : xn % ((40 : Nat) : Int) = xn % 40 := rfl
          rw [e40] at hp
          have hp0 : 0 ≤ xn % 40 := Int.emod_nonneg _ (by omega)
          have hp1 : xn % 40 < 40 := Int.emod_lt_of_pos _ (by omega)
          generalize xn % 40 = p at *
          have hy := fun w => hand_pick xk 30 w HO.out.k0 HO.out.k1 (by omega) (by omega)
          have e30 : xk % ((30 : Nat) : Int) = xk % 30 := rfl
          rw [e30] at hy
          have hy0 : 0 ≤ xk % 30 := Int.emod_nonneg _ (by omega)
          have hy1 : xk % 30 < 30 := Int.emod_lt_of_pos _ (by omega)
          generalize xk % 30 = y at *
          have HPP := Lib.hid hp
          have HPY := Lib.hid hy
          have HB1 := Lib.hid (play_draw (p - 2) (y - 2) HD.out.hs (by omega) (by omega) HD.out.da)
          have HB2 := Lib.hid (fun w' hd' => rplay_draw (b := gr) (s := s) (w := w') (p - 2) (y - 2) HD.out.hs (by omega) (by omega) hd')
          have hst := drawZ_state (p - 2) (y - 2) s HD.out.hs
          have hol : (drawZ (p - 2) (y - 2) s).1.length ≤ 40 := by
            unfold drawZ
            split
            · simp
            · rw [Dice.draws_len]; omega
          generalize drawZ (p - 2) (y - 2) s = bz at *
          clear hp e40 hy e30 q3 q4
          go_wp2_with fail
          refine (HPP.out W).mono ?_
          rintro e w4 ⟨rfl, rfl⟩
          go_wp2_with fail
          refine (HPY.out W).mono ?_
          rintro e w4 ⟨rfl, rfl⟩
          go_wp2_with fail
          refine HB1.out.mono ?_
          rintro e w5 ⟨A5, c5, rfl, r5, d5, hx5⟩
          have dm := HD.out.mid hx5 (Below.refl _ _)
          go_wp2_with fail
          refine (HB2.out w5 dm).mono ?_
          rintro e w6 ⟨A6, c6, rfl, r6, d6, hx6⟩
          have r5 := reads_die r5 dm hx6
          have HSI := Lib.hid (same_ints A5 A6 _ c5 c6 bz.1 _ _ w6 r5 r6 (by omega))
          have HF := Lib.hid (HD.out.two hx5 d5 (Below.refl _ _) hx6 d6 hst)
          clear d5 hx5 dm d6 hx6 r5 r6
          go_wp2_with fail
          refine HSI.out.mono ?_
          rintro e w7 ⟨rfl, dk, rfl⟩
          have HF := Lib.hid (HF.out.next (bdrewN (Below.refl _ _) dk))
          go_wp2
          go_meet
          exact ⟨rfl, _, _, _, rfl, rfl, HF.out⟩
        · obtain ⟨m, hm⟩ : ∃ m, min xna 8 = m := ⟨_, rfl⟩
          have hmin : min (xna : Int) 8 = (m : Int) := by omega
          have hm8 : m ≤ 8 := by omega
          have hrw := hand_row xA xna xca _ zs m W (HO.out.hr.below HD.out.hB) HD.out.hB.size HO.out.na (by omega)
          have HRW := Lib.hid hrw
          clear hm hrw q2 q4
          go_wp2_with fail
          refine HRW.out.mono ?_
          rintro e w5 ⟨v14, rfl, ho, hf, hb5⟩
          obtain ⟨A14, c14, hv14, _, _⟩ := ho.form
          rw [rowOf_len] at hv14
          subst hv14
          have HD5 := Lib.hid (HD.out.next hb5)
          have b8 := b8.below hb5 b8.lt
          have hl8 := b8.lt
          clear q1 q3
          have q1 : w5.cell? ⟨g8, 1, none⟩ = some (.int .i64 xn) := b8.cell 1
          obtain ⟨ql, hql⟩ : ∃ ql, rowOf zs m = ql := ⟨_, rfl⟩
          have hqlen : ql.length = m := by rw [← hql, rowOf_len]
          have hqsz : ∀ x ∈ ql, QS 5 x := by rw [← hql]; exact rowOf_size zs m
          rw [hql] at ho
          obtain ⟨g14, hg1, hg2⟩ : ∃ g, (0 < m → A14 = some ⟨g, 0, none⟩) ∧ W.heap.size ≤ g := by
            rcases Nat.eq_zero_or_pos m with h0 | h0
            · exact ⟨W.heap.size, (fun h => by omega), Nat.le_refl _⟩
            · obtain ⟨g, hg⟩ := ho.addr (by omega)
              exact ⟨g, (fun _ => hg), hf g (by rw [hg]; rfl)⟩
          have hgdW := HD.out.da.lt
          have hgrW := HD.out.dr.lt
          have hwW := HD.out.hB.size
          have hown : ∀ b, (Value.slice A14 m c14).ownBlock = some b → b ≠ gd ∧ b ≠ gr := fun b hb => by
            have := hf b hb
            omega
          have HOWN := Lib.hid hown
          have HG1 := Lib.hid hg1
          have HQL := Lib.hid hqlen
          have HQS := Lib.hid hqsz
          have HOQ := Lib.hid ho
          clear hql ho hf hb5 hqlen hqsz hg1 hown HRW
          go_upto_if 127 with fail
          generalize hbo : decide (0 < xn.tmod 4) = bo at *
          clear hbo
          go_cut [15] from 128 to 141 (fun _ wc => WRel w s gd gr (.slice A14 m c14) m wc)
          case first =>
            cases bo with
            | false =>
              go_wp2
              go_meet
              exact ⟨ql, HOQ.out, HQL.out, HQS.out, HD5.out⟩
            | true =>
              go_wp2_with fail
              go_loopw [15] (fun i wr => ∃ k : Nat, k ≤ m ∧ i = .int .i64 (k : Int) ∧ OwnR wr (.slice A14 m c14) (lst ql k) ∧ Exc g14 w5 wr) (fun i _ => m - (intOf i).toNat)
              case atStart => exact ⟨0, by omega, rfl, HOQ.out, Exc.refl _ _⟩
              case round =>
                obtain ⟨j, hj, rfl, ho10, hx⟩ := hrel
                rename World => wv
                by_cases hkm : j < m
                · have k1 : (j : Int) < (m : Int) := by omega
                  have hA14 := HG1.out (by omega)
                  subst hA14
                  obtain ⟨q, hq⟩ : ∃ q, ql[j]? = some q := ⟨_, List.getElem?_eq_getElem (by have := HQL.out; omega)⟩
                  obtain ⟨r, q0, q1, q2, hiq⟩ := ho10.cell3 (lst_at hq)
                  have hab := ref_abs q _ _ wv hiq (Nat.le_refl _)
                  obtain ⟨rg, rA, rl, rc, rA', rl', rc'⟩ := r
                  unfold RC.v at hab
                  simp only [] at q0 q1 q2 hab
                  have HAB := Lib.hid hab
                  have HQ := Lib.hid hq
                  have H10 := Lib.hid ho10
                  have HX := Lib.hid hx
                  clear hab hiq hq ho10 hx
                  go_wp2_with fail
                  refine HAB.out.mono ?_
                  rintro e y1 ⟨V1, rfl, hR1, hw1⟩
                  obtain ⟨g1, A1, l1, c1, A1', l1', c1', rfl⟩ := hR1.shape
                  have o10 := H10.out.next hw1
                  have f0 := o10.frozen (j * 3)
                  have f1 := o10.frozen (j * 3 + 1)
                  have f2 := o10.frozen (j * 3 + 2)
                  have st := o10.store j ⟨g1, A1, l1, c1, A1', l1', c1'⟩ hR1
                  rw [lst_set HQ.out] at st
                  have ex := (((HX.out.trans (Exc.of hw1)).set_ (j * 3) (.bool g1)).set_ (j * 3 + 1) (.slice A1 l1 c1)).set_ (j * 3 + 2) (.slice A1' l1' c1')
                  have HS := Lib.hid (And.intro st ex)
                  clear q0 q1 q2
                  obtain ⟨⟨rg, rA, rl, rc, rA', rl', rc'⟩, q0, q1, q2, _⟩ := o10.cell3 (lst_at HQ.out)
                  simp only [] at q0 q1 q2
                  clear st ex o10 hR1 HAB H10 HX
                  go_wp2
                  exact ⟨⟨j + 1, by omega, by go_num, HS.out.1, HS.out.2⟩, by simp [intOf]; omega⟩
                · obtain rfl : j = m := by omega
                  have k1 : ¬ (j : Int) < (j : Int) := by omega
                  have e1 : lst ql j = ql.map absQ := by rw [← HQL.out]; exact lst_all ql
                  rw [e1] at ho10
                  have HF : Hid (WRel w s gd gr (.slice A14 j c14) j wv) := Lib.hid ⟨ql.map absQ, ho10, by rw [List.length_map]; exact HQL.out, fun x hx => by
                    obtain ⟨y, hy, rfl⟩ := List.mem_map.1 hx
                    exact absQ_size (HQS.out y hy), HD5.out.exc hx (by omega) (by omega) (by omega)⟩
                  clear ho10 hx
                  go_wp2
                  go_meet
                  exact HF.out
          case rest =>
            obtain ⟨L, ho, hLl, hLs, hd5⟩ := hcut
            rename World => w6
            have hin := hand_inRow A14 m c14 _ L w6 (by have := ho.reads; rw [hLl] at this; exact this) (Nat.le_refl _) (by omega) (fun x hx => (hLs x hx).mono (by omega)) (HT.out.next hd5.hB)
            have HIN := Lib.hid hin
            have HLL := Lib.hid hLl
            have HLS := Lib.hid hLs
            have HO6 := Lib.hid ho
            have HD6 := Lib.hid hd5
            clear hin hLl hLs ho hd5 HOQ HD5
            go_wp2_with fail
            refine HIN.out.mono ?_
            rintro e w7 ⟨v7, rfl, ho7, hf7, hb7⟩
            rw [List.take_of_length_le (by rw [HLL.out]; exact Nat.le_refl _)] at ho7
            obtain ⟨A7, c7, hv7, _, _⟩ := OwnW.form ho7
            rw [HLL.out] at hv7
            subst hv7
            have hr7 := OwnW.reads ho7
            rw [HLL.out] at hr7
            have d7 := HD6.out.next hb7
            have o7 := HO6.out.next hb7
            have HP7 := Lib.hid (dice_pick gd s A7 m c7 _ 5 L w7 d7.hs d7.da hr7 (Nat.le_refl _) (by omega) (by omega) HLS.out (HT.out.next d7.hB))
            have HD7 := Lib.hid d7
            have HO7 := Lib.hid o7
            clear ho7 hf7 hb7 hr7 d7 o7 HIN HD6 HO6
            go_wp2_with fail
            refine HP7.out.mono ?_
            rintro e w8 hpost
            have hx8 : Exc gd w7 w8 := by
              rcases hpost with ⟨_, _, h⟩ | ⟨_, _, _, _, _, _, h, _⟩
              · exact Exc.of h
              · exact h.exc
            have o8 := HO7.out.excB HD7.out.da (dice_nou32 s) hx8 (fun e => (HOWN.out gd e).1 rfl)
            have dm := HD7.out.mid hx8 (Below.refl _ _)
            have hrp := rd_pick gr s A14 m c14 w8.heap.size 5 L w8 HD7.out.hs dm (by have := o8.reads; rw [HLL.out] at this; exact this) (Nat.le_refl _) (by omega) (by omega) HLS.out
            obtain ⟨i, ok, s', hs', hpl, hrp2⟩ := picks_both (r := gr) hpost HD7.out.da HD7.out.hs
            have hrp2 := fun e' w9 h9 => hrp2 w8 w9 e' dm h9
            obtain ⟨rfl, d8, _⟩ := hpl
            have HRP := Lib.hid (hrp.mono hrp2)
            have H8 := Lib.hid (And.intro hx8 d8)
            clear hrp hrp2 hpost o8 dm hx8 d8 HP7
            go_wp2_with fail
            refine HRP.out.mono ?_
            rintro e w9 ⟨rfl, d9, hx9⟩
            have HF := Lib.hid (HD7.out.two H8.out.1 H8.out.2 (Below.refl _ _) hx9 d9 hs')
            clear d9 hx9 HRP
            go_wp2
            go_meet
            exact ⟨by simp, _, _, _, rfl, rfl, HF.out⟩
        · have hss := HO.out.hs
          simp only [] at hss
          have hf1 := dice_fork gd s xs W HD.out.hs (HD.out.da.cell 0) (HD.out.da.frozen 0) hss
          have HF1 := Lib.hid hf1
          have hnl := xor_lt64 (Dice.next_lt s) (fnv_lt xs.data.toList)
          have hglt := HD.out.dr.lt
          clear hf1 q1 q2 q3
          go_wp2_with fail
          refine HF1.out.mono ?_
          rintro e w5 ⟨g5, rfl, hg5, d5, hb5⟩
          have hx5 := exc_of_set hb5
          have dm := HD.out.mid hx5 (Below.refl _ _)
          have q4 : w5.cell? ⟨g8, 4, none⟩ = some (.string xs) := (b8.exc hx5 (by omega)).cell 4
          have HF2 := Lib.hid (rd_fork gr s xs w5 HD.out.hs (dm.cell 0) (dm.frozen 0) hss)
          have hlt5 := d5.lt
          have hB5 := HD.out.hB.trans (hx5.below HD.out.hB.size HD.out.ld)
          clear HF1 hb5
          go_wp2_with fail
          refine HF2.out.mono ?_
          rintro e w6 ⟨g6, rfl, hg6, d6, hb6⟩
          have hx6 := exc_of_set hb6
          have hWs := HD.out.hB.size
          have HF : Hid (Duet w (Dice.next s ^^^ fnv xs.data.toList) g5 g6 w6) := Lib.hid ⟨d5.exc hx6 (by omega), d6, by omega, by omega, by omega, hB5.trans (hx6.below hB5.size HD.out.lr), hnl⟩
          clear d5 hx5 dm d6 hx6 hb6
          go_wp2
          go_meet
          exact ⟨rfl, _, _, _, rfl, rfl, HF.out⟩
      case rest =>
        obtain ⟨rfl, gd', gr', s', rfl, rfl, hd⟩ := hcut
        rename World => w9
        have hst := dice_state gd' s' w9 (hd.da.cell 0)
        have q0 : w9.cell? ⟨gr', 0, none⟩ = some (.int .u64 (s' : Int)) := hd.dr.cell 0
        have HST := Lib.hid (dice_state gd' s' w9.drew (hd.da.drew.cell 0))
        have HF := Lib.hid (hd.next (bdrew0 w9))
        have HF0 := Lib.hid hd
        clear hd hst
        go_upto_region 39 with fail
        have hund : undef = Value.tuple #[] := rfl
        first | (go_region_with (go_at_call 34; (with_reducible refine HST.out.mono ?_); rintro e w10 ⟨rfl, rfl⟩)) | fail
        all_goals
          go_wp2
          go_roundw
          case rel =>
            (repeat apply Exists.intro)
            exact ⟨⟨k + 1, gd', gr', s', by omega, by omega, by go_num, rfl, rfl, HF.out⟩, rfl⟩
          case measure => simp [intOf]; omega
    · have hcase : (¬ (k : Int) < (n : Int)) ∨ ((k : Int) < (n : Int) ∧ ¬ (k : Int) < 20) := by omega
      have HF := Lib.hid hd.hB
      clear hlt hd
      rcases hcase with k1 | ⟨k1, k2⟩
      all_goals
        go_wp2
        go_ret
        exact ⟨rfl, HF.out⟩
end Go.Proofs.YtjmbpnogicdkgaaGreatDoor
