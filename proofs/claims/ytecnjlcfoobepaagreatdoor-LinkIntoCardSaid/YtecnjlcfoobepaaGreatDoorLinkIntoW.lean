import Derived.Test.YtecnjlcfoobepaaGreatDoorLinkGrp
namespace Go.Proofs.YtecnjlcfoobepaaGreatDoor
open Go.RowKit
set_option linter.unusedSimpArgs false
set_option linter.unusedVariables false
set_option maxRecDepth 100000 in
set_option maxHeartbeats 4000000 in
theorem linkInto_walk (A : Option Addr) (n1 c1 : Nat) (zl : List Int) (zn zw zh zk : Int) (w : World) (h1 : ArgZ w A n1 c1 zl) (hn : I64 zn) (hz : I64 zw) (hh : I64 zh) (h4 : I64 zk) (hT : Tab w) :
  Calls Tryz.prog 10 #[.slice A n1 c1, .int .i64 zn, .int .i64 zw, .int .i64 zh, .int .i64 zk] w (Ret (.bool true) w) := by
 obtain ⟨k0, hk0, hp0⟩ := pick_of zh 3 w hh.1 hh.2 (by omega) (by omega)
 obtain ⟨how, hhow⟩ : ∃ how, k0 + 1 = how := ⟨_, rfl⟩
 have e1 : (k0 : Int) + 1 = (how : Int) := by omega
 obtain ⟨f, hF, hdr⟩ := law_drawn A n1 c1 zl zn zw w h1 hn hz
 have hlj := lj_of how hF
 have HDR := Lib.hid (fun w' => hdr how w' (by omega))
 generalize buildJ how f = l at *
 obtain ⟨m, hm⟩ : ∃ m, f.length = m := ⟨_, rfl⟩
 obtain ⟨nj, hnj⟩ : ∃ nj, l.length = nj := ⟨_, rfl⟩
 have hm1 := hF.one
 have hm7 := hF.most
 have hlen := hlj.len
 rw [hm] at hm1 hm7 hlen
 rw [hnj] at hlen
 obtain ⟨k1, hk1, hpk⟩ := pick_of zk m w h4.1 h4.2 (by omega) (by omega)
 obtain ⟨k, hk⟩ : ∃ k, k1 + 1 = k := ⟨_, rfl⟩
 have e2 : (k1 : Int) + 1 = (k : Int) := by omega
 obtain ⟨k3, hk3⟩ : ∃ k3, min (k + 1) m = k3 := ⟨_, rfl⟩
 have e3 : min ((k : Int) + 1) (m : Int) = (k3 : Int) := by omega
 have hcount : (seenTo (grpB how f (m - k)) m).length = k := by
  have := groups_count (how := how) (k := m - k) hlj.sym (by omega)
  rw [hm] at this
  have h2 : (seenTo (grpB how f (m - k)) m).length + (m - k) = m := by
   unfold grpB
   rw [hm]
   exact this
  omega
 have hmono : ∀ a b, grpB how f (m - k3) a = grpB how f (m - k3) b → grpB how f (m - k) a = grpB how f (m - k) b := fun a b h => by
  have := own_stay h (m - k - (m - k3))
  rw [show m - k3 + (m - k - (m - k3)) = m - k by omega] at this
  exact this
 have HP := Lib.hid hp0
 have HPK := Lib.hid hpk
 have HT := Lib.hid hT
 have HM := Lib.hid hm
 have HNJ := Lib.hid hnj
 have HJ := Lib.hid hlj
 have hkm : k ≤ m := by omega
 have hk1' : 1 ≤ k := by omega
 have hk3m : k3 ≤ m := by omega
 have hk31 : 1 ≤ k3 := by omega
 obtain ⟨G, hG⟩ : ∃ G, grpB how f (m - k) = G := ⟨_, rfl⟩
 obtain ⟨H, hH⟩ : ∃ H, grpB how f (m - k3) = H := ⟨_, rfl⟩
 rw [hG] at hcount
 rw [hG, hH] at hmono
 have HC := Lib.hid hcount
 have HMO := Lib.hid hmono
 have HG := Lib.hid hG
 have HH := Lib.hid hH
 clear hp0 hdr h1 hn hz hh hF hT hhow h4 hpk hm hnj hlj hk3 hcount hmono hG hH hk
 go_enter Tryz.func10, Tryz.ntmps10
 go_wp2_with fail
 refine (HP.out _).mono ?_
 rintro e w1 ⟨rfl, rfl⟩
 go_wp2_with fail
 refine (HDR.out _ HT.out (Below.refl _ _)).mono ?_
 rintro e w1 ⟨vf, vj, rfl, hof, hoj, -, hb1⟩
 obtain ⟨A3, c3, rfl⟩ := OwnS.form hof
 obtain ⟨A4, c4, hv, -⟩ := OwnW.form hoj
 subst hv
 rw [HNJ.out] at hoj
 rw [HM.out, HNJ.out]
 have hT1 := HT.out.next hb1
 have hI1 := lj_into HJ.out hoj hT1 HM.out hm7 k hk1' hkm
 have hI2 := lj_into HJ.out hoj hT1 HM.out hm7 k3 hk31 hk3m
 rw [HG.out] at hI1
 rw [HH.out] at hI2
 have HI1 := Lib.hid hI1
 have HI2 := Lib.hid hI2
 have HKN : Hid (∀ w', Below w1.heap.size w1 w' → Calls Tryz.prog 18 #[] w' (Ret (.bool true) w')) := Lib.hid fun w' hb => law_known w' (hT1.next hb)
 have HB1 := Lib.hid hb1
 clear hof hoj hb1 hT1 hI1 hI2 HDR HP HG HH
 go_wp2_with fail
 refine (HPK.out _).mono ?_
 rintro e w2 ⟨rfl, rfl⟩
 go_wp2_with fail
 refine (HI1.out _ (Below.refl _ _)).mono ?_
 rintro e w2 ⟨g1, rfl, hg1, ho1, hb2⟩
 have HO1 := Lib.hid ho1
 have HB2 := Lib.hid hb2
 clear ho1 hb2 HI1 HPK hg1
 go_wp2_with fail
 refine (HI2.out _ HB2.out).mono ?_
 rintro e w3 ⟨g2, rfl, hg2, ho2, hb3⟩
 have HO1 := Lib.hid (HO1.out.below hb3 HO1.out.lt)
 have HO2 := Lib.hid ho2
 have HB3 := Lib.hid (bthen HB2.out hb3)
 clear ho2 hb3 HI2 HB2 hg2
 go_wp2_with fail
 go_loopw [19, 20] (fun t p wr => ∃ a : Nat, a ≤ m ∧ t = .int .i64 (((seenTo G a).length : Nat) : Int) ∧ p = .int .i64 ((a : Nat) : Int) ∧ Below w3.heap.size w3 wr) (fun _ p _ => m - (intOf p).toNat)
 case atStart => exact ⟨0, by omega, rfl, rfl, Below.refl _ _⟩
 case round =>
  obtain ⟨a, ham, rfl, rfl, hbw⟩ := hrel
  rename World => wr
  by_cases hal : a < m
  ·have p0 : (a : Int) < (m : Int) := by omega
   have hrl := rank_le (g := G) a
   have hsu := seen_succ (g := G) a
   have hsl := seen_len_le G a
   obtain ⟨r, hr⟩ : ∃ r, rankG G a = r := ⟨_, rfl⟩
   obtain ⟨t, ht⟩ : ∃ t, (seenTo G a).length = t := ⟨_, rfl⟩
   rw [hr, ht] at hrl hsu
   rw [ht] at hsl ⊢
   have y1 := Own.cellf (by rw [List.length_map, List.length_range]; exact HO1.out.below hbw HO1.out.lt) (groups_at (g := G) hal)
   rw [hr] at y1
   unfold zi at y1
   have p1 : ¬ (r : Int) < 0 := by omega
   have p2 : ¬ (t : Int) < (r : Int) := by omega
   have HSU := Lib.hid hsu
   have HR := Lib.hid hr
   have HBW := Lib.hid hbw
   clear hsu hr ht hbw
   obtain ⟨t2, ht2⟩ : ∃ t2, (seenTo G (a + 1)).length = t2 := ⟨_, rfl⟩
   rw [ht2] at HSU
   have HT2 := Lib.hid ht2
   clear ht2
   go_upto_if 99 with fail
   go_cut [19] (fun v wc => v = .int .i64 ((t2 : Nat) : Int) ∧ wc = wr)
   case first =>
    by_cases hrt : r = t
    ·have e4 : t2 = t + 1 := by rw [HSU.out, if_pos hrt]
     subst e4
     have q1 : ((r : Int) == (t : Int)) = true := by simp [hrt]
     go_wp2
     go_meet
     exact ⟨by go_num, rfl⟩
    ·have e4 : t2 = t := by rw [HSU.out, if_neg hrt]
     subst e4
     have q1 : ((r : Int) == (t2 : Int)) = false := by simp; omega
     have q2 : ¬ (r : Int) = (t2 : Int) := by omega
     have q3 : (r == t2) = false := by simp; omega
     go_wp2
     go_meet
     exact ⟨rfl, rfl⟩
   case rest =>
    obtain ⟨rfl, rfl⟩ := hcut
    have hlen2 : (List.map (rankZ G) (List.range m)).length = m := by rw [List.length_map, List.length_range]
    have hlen3 : (List.map (rankZ H) (List.range m)).length = m := by rw [List.length_map, List.length_range]
    have HL2 := Lib.hid hlen2
    have HL3 := Lib.hid hlen3
    rename World => wa
    have HA := HBW
    clear y1 p1 p2 hrl hsl HBW hlen2 hlen3
    obtain ⟨x, hx⟩ : ∃ x, rankG H a = x := ⟨_, rfl⟩
    have HX := Lib.hid hx
    clear hx
    go_wp2_with fail
    go_loopw [21] (fun p wr => ∃ b : Nat, b ≤ a ∧ p = .int .i64 ((b : Nat) : Int) ∧ Below w3.heap.size w3 wr) (fun p _ => a - (intOf p).toNat)
    case atStart => exact ⟨0, by omega, rfl, HA.out⟩
    case round =>
     obtain ⟨b, hba, rfl, hbw⟩ := hrel
     rename World => wb
     clear HA
     by_cases hbl : b < a
     ·have p1 : (b : Int) < (a : Int) := by omega
      have p2 : (b : Int) < (m : Int) := by omega
      have ho1 := HO1.out.below hbw HO1.out.lt
      have ho2 := HO2.out.below hbw HO2.out.lt
      have y1 := Own.cellf (by rw [HL2.out]; exact ho1) (groups_at (g := G) hal)
      have y2 := Own.cellf (by rw [HL2.out]; exact ho1) (groups_at (g := G) (show b < m by omega))
      have y3 := Own.cellf (by rw [HL3.out]; exact ho2) (groups_at (g := H) hal)
      have y4 := Own.cellf (by rw [HL3.out]; exact ho2) (groups_at (g := H) (show b < m by omega))
      rw [HR.out] at y1
      rw [HX.out] at y3
      obtain ⟨s, hs⟩ : ∃ s, rankG G b = s := ⟨_, rfl⟩
      obtain ⟨y, hy⟩ : ∃ y, rankG H b = y := ⟨_, rfl⟩
      rw [hs] at y2
      rw [hy] at y4
      have hxy : x = y → r = s := fun e => by
       have := HMO.out a b (rank_inj.1 (by rw [HX.out, hy]; exact e))
       rw [← HR.out, ← hs]
       exact rank_inj.2 this
      unfold zi at y1 y2 y3 y4
      have HBW := Lib.hid hbw
      have HXY := Lib.hid hxy
      clear ho1 ho2 hs hy hxy hbw
      go_upto_region 21 with fail
      go_cut [126] (fun v wc => v = .bool false ∧ Below wb.heap.size wb wc)
      case first =>
       by_cases hxy : x = y
       ·obtain rfl := HXY.out hxy
        subst hxy
        have q1 : ((x : Int) == (x : Int)) = true := by simp
        have q2 : ((r : Int) == (r : Int)) = true := by simp
        go_region
        all_goals
         go_wp2
         go_meet
         exact ⟨by first | rfl | simp, bdrew0 _⟩
       ·have q1 : ((x : Int) == (y : Int)) = false := by simp; omega
        have q2 : ¬ (x : Int) = (y : Int) := by omega
        have q3 : (x == y) = false := by simp; omega
        go_region
        all_goals
         go_wp2
         go_meet
         exact ⟨by first | rfl | simp, bdrew0 _⟩
      case rest =>
       obtain ⟨rfl, hbd⟩ := hcut
       have HBD := Lib.hid (HBW.out.trans (hbd.mono HBW.out.size))
       clear hbd y1 y2 y3 y4
       go_wp2
       exact ⟨⟨b + 1, by omega, by go_num, HBD.out⟩, by simp [intOf]; omega⟩
     ·obtain rfl : b = a := by omega
      have p1 : ¬ (b : Int) < (b : Int) := by omega
      have HBW := Lib.hid hbw
      clear hbw
      go_wp2
      exact ⟨⟨b + 1, by omega, by rw [HT2.out], by go_num, HBW.out⟩, by simp [intOf]; omega⟩
  ·obtain rfl : a = m := by omega
   have p0 : ¬ (a : Int) < (a : Int) := by omega
   rw [HC.out]
   have hkn := HKN.out wr (HB3.out.trans (hbw.mono HB3.out.size))
   have HK := Lib.hid hkn
   have HBW := Lib.hid (HB1.out.trans ((HB3.out.trans (hbw.mono HB3.out.size)).mono HB1.out.size))
   clear hkn hbw
   go_wp2_with fail
   refine HK.out.mono ?_
   rintro e w4 ⟨rfl, hb4⟩
   have HB4 := Lib.hid (HBW.out.trans (hb4.mono HBW.out.size))
   clear hb4
   go_wp2
   go_returns
   exact ⟨by simp, HB4.out⟩
end Go.Proofs.YtecnjlcfoobepaaGreatDoor
