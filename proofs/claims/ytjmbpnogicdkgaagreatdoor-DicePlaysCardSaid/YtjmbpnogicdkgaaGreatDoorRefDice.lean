/-
  The document's Dice: Next, Below, Order, Draw, Fork.
-/
import Derived.Test.YtjmbpnogicdkgaaGreatDoorDiceMore
import Derived.Test.YtjmbpnogicdkgaaGreatDoorOrder
import Derived.Test.YtjmbpnogicdkgaaGreatDoorRefOctet
import Derived.RegionTactic
import Derived.Deep.LoopGhost
import Derived.BigRegion
namespace Go.Proofs.YtjmbpnogicdkgaaGreatDoor
open Go.RowKit
set_option linter.unusedSimpArgs false
set_option linter.unusedVariables false

theorem wrap_u64_neg (n : Nat) (h : 1 ≤ n) (h2 : n < 18446744073709551616) : IntKind.u64.wrap (-(n : Int)) = ((18446744073709551616 - n : Nat) : Int) := by
  have e : IntKind.u64.wrap (-(n : Int)) = (-(n : Int)) % 18446744073709551616 := by
    simp [IntKind.wrap, IntKind.signed, IntKind.bits]
  rw [e]
  omega
theorem neg_walk (n : Nat) (hn1 : 1 ≤ n) (hn2 : n ≤ 9223372036854775807) : ∃ M R : Nat, IntKind.u64.wrap (-(n : Int)) = (M : Int) ∧ (M : Int).tmod (n : Int) = (R : Int) ∧ (M : Int) % (n : Int) = (R : Int) ∧ IntKind.u64.wrap (18446744073709551615 - (R : Int)) = ((Dice.last n : Nat) : Int) := by
  have h0 : (18446744073709551616 - n) % n = (18446744073709551615 % n + 1) % n := by
    rw [Nat.mod_add_mod, show 18446744073709551615 + 1 = (18446744073709551616 - n) + n from by omega, Nat.add_mod_right]
  have h1 : (18446744073709551616 - n) % n < n := Nat.mod_lt _ hn1
  refine ⟨18446744073709551616 - n, (18446744073709551616 - n) % n, ?_, ?_, ?_, ?_⟩
  · rw [wrap_u64_neg n hn1 (by omega)]
  · rw [Int.tmod_eq_emod_of_nonneg (by omega), ← Int.natCast_emod]
  · rw [← Int.natCast_emod]
  · have e2 : (18446744073709551615 : Int) - (((18446744073709551616 - n) % n : Nat) : Int) = ((18446744073709551615 - (18446744073709551616 - n) % n : Nat) : Int) := by omega
    rw [e2, wrap_u64_nat, Nat.mod_eq_of_lt (by omega), h0]
    rfl
theorem rd_next (b s : Nat) (w : World) (hs : s < 18446744073709551616) (hc : w.cell? ⟨b, 0, none⟩ = some (.int .u64 (s : Int))) (hf : w.frozen? ⟨b, 0, none⟩ = false) :
    Calls Tryz.prog 45 #[.pointer (some ⟨b, 0, none⟩)] w fun e w' => e = .returned (.int .u64 ((Dice.next s : Nat) : Int)) ∧ w.setCell ⟨b, 0, none⟩ (.int .u64 ((Dice.step s : Nat) : Int)) = w' := by
  have e1 := Dice.step_walk s
  have e2 := Dice.mixA_walk (Dice.step s) (Dice.step_lt s)
  have e3 := Dice.mixB_walk (Dice.mixA (Dice.step s)) (Dice.mixA_lt _)
  have e4 := Dice.mixC_walk (Dice.mixB (Dice.mixA (Dice.step s))) (Dice.mixB_lt _)
  go_enter Tryz.func45, Tryz.ntmps45
  go_wp2
  go_ret

  exact ⟨rfl, rfl⟩
set_option maxHeartbeats 400000 in
theorem rd_below (b s n : Nat) (w : World) (hs : s < 18446744073709551616) (hn1 : 1 ≤ n) (hn2 : n ≤ 9223372036854775807) (hd : Blk w b 88 #[.int .u64 (s : Int)]) :
    Calls Tryz.prog 47 #[.pointer (some ⟨b, 0, none⟩), .int .i64 (n : Int)] w fun e w' => e = .returned (.int .i64 (((Dice.below n s).1 : Nat) : Int)) ∧ w.setCell ⟨b, 0, none⟩ (.int .u64 (((Dice.below n s).2 : Nat) : Int)) = w' := by
  obtain ⟨M, R, e1, e2, e2', e3⟩ := neg_walk n hn1 hn2
  obtain ⟨k0, hk1, hk2, hg0⟩ := Dice.gap_exists s hs
  clear hk2
  have hc1 : decide ((n : Int) < 1) = false := by simp; omega
  go_enter Tryz.func47, Tryz.ntmps47
  go_wp2_with fail
  go_loopg [7] k0 (fun k u wr => BelowRel w b n s k wr)
  case atStart => exact ⟨s, hs, hg0, hk1, (hd.setCell_self 0 _ rfl).symm, rfl⟩
  case round =>
    obtain ⟨r, hr, hg, hk, rfl, hd2⟩ := hrel
    have HD := Lib.hid hd2
    clear hd2 hs hg0 hk1 e1 e2 e2'
    have hd3 := hd.set_ 0 (.int .u64 (r : Int))
    have es := setCell_setCell w b 0 (.int .u64 (r : Int)) (.int .u64 ((Dice.step r : Nat) : Int))
    have hx := Lib.hid (Dice.draw_step (Dice.last n) r hr)
    by_cases hle : Dice.next r ≤ Dice.last n
    · have e4 := rem_walk (Dice.next r) n hn1 hn2
      go_wp2_with fail
      refine (rd_next b r _ hr (hd3.cell 0) (hd3.frozen 0)).mono ?_
      rintro e w1 ⟨rfl, rfl⟩
      rw [es]
      go_wp2_with fail
      go_ret
      have hx2 := hx.out
      rw [if_pos hle, HD.out] at hx2
      refine ⟨ret_int ?_, ?_⟩
      · rw [Dice.below_fst, hx2]
        exact (Int.natCast_emod _ _).symm
      · rw [Dice.below_snd, hx2]
    · go_wp2_with fail
      refine (rd_next b r _ hr (hd3.cell 0) (hd3.frozen 0)).mono ?_
      rintro e w1 ⟨rfl, rfl⟩
      rw [es]
      go_wp2_with fail
      have hk2 : 2 ≤ gk := by
        rcases Nat.lt_or_ge gk 2 with h | h
        · obtain rfl : gk = 1 := by omega
          have := Dice.gap_zero r hg
          omega
        · exact h
      obtain ⟨g', rfl⟩ : ∃ g', gk = g' + 1 := ⟨gk - 1, by omega⟩
      go_roundg g'
      case rel =>
        have hx2 := hx.out
        rw [if_neg hle] at hx2
        exact ⟨Dice.step r, Dice.step_lt _, Dice.gap_step r g' hg, by omega, rfl, by rw [← hx2]; exact HD.out⟩
      case measure => omega
theorem rd_below_none (b : Nat) (z : Int) (w : World) (hz : z < 1) :
    Calls Tryz.prog 47 #[.pointer (some ⟨b, 0, none⟩), .int .i64 z] w fun e w' => e = .returned (.int .i64 0) ∧ w = w' := by
  go_enter Tryz.func47, Tryz.ntmps47
  go_wp2
  go_ret
  exact ⟨rfl, rfl⟩
def MixRelR (w : World) (b n s0 i : Nat) (wr : World) : Prop :=
  ∃ l s, i < n ∧ s < 18446744073709551616 ∧ l.length = n ∧ Dice.shuffle i l s = Dice.shuffle (n - 1) (List.range n) s0 ∧ Row wr w.heap.size 3 iv l ∧ Blk wr b 88 #[.int .u64 (s : Int)] ∧
    Below w.heap.size (w.setCell ⟨b, 0, none⟩ (.int .u64 (s : Int))) wr

theorem mix_stepR {w x1 : World} {b n s0 i j t' vi vj : Nat} {l : List Nat} (hst : t' < 18446744073709551616) (hl : l.length = n) (hi : i + 1 < n) (hr1 : Row x1 w.heap.size 3 iv l)
    (hd1 : Blk x1 b 88 #[.int .u64 (t' : Int)]) (hb1 : Below w.heap.size (w.setCell ⟨b, 0, none⟩ (.int .u64 (t' : Int))) x1) (hbl : b < w.heap.size)
    (hsu : Dice.shuffle i (Dice.swapL l (i + 1) j) t' = Dice.shuffle (n - 1) (List.range n) s0) (hvi : l.getD (i + 1) 0 = vi) (hvj : l.getD j 0 = vj) :
    Value.int .i64 (i : Int) = .int .i64 (i : Int) ∧ MixRelR w b n s0 i ((x1.setCell ⟨w.heap.size, i + 1, none⟩ (.int .i64 (vj : Int))).setCell ⟨w.heap.size, j, none⟩ (.int .i64 (vi : Int))).drew := by
  have e : Dice.swapL l (i + 1) j = (l.set (i + 1) vj).set j vi := by unfold Dice.swapL; rw [hvi, hvj]
  refine ⟨rfl, Dice.swapL l (i + 1) j, t', by omega, hst, by rw [Dice.swapL_len]; exact hl, hsu, ?_, ?_, ?_⟩
  · rw [e]
    exact ((hr1.set_ (i + 1) vj).set_ j vi).drew
  · exact ((hd1.far (by simp; omega) _).far (by simp; omega) _).drew
  · exact ((hb1.setCell (Nat.le_refl _) _).setCell (Nat.le_refl _) _).drew

set_option maxHeartbeats 1000000 in
theorem rd_order (b s n : Nat) (w : World) (hs : s < 18446744073709551616) (hn1 : 1 ≤ n) (hn2 : n ≤ 65536) (hd : Blk w b 88 #[.int .u64 (s : Int)]) :
    Calls Tryz.prog 50 #[.pointer (some ⟨b, 0, none⟩), .int .i64 (n : Int)] w fun e w' => e = .returned (.slice (some ⟨w.heap.size, 0, none⟩) n n) ∧
      Row w' w.heap.size 3 iv (Dice.order n s).1 ∧ Blk w' b 88 #[.int .u64 (((Dice.order n s).2 : Nat) : Int)] ∧ Below w.heap.size (w.setCell ⟨b, 0, none⟩ (.int .u64 (((Dice.order n s).2 : Nat) : Int))) w' := by
  have hmk := make_row (P := Tryz.prog) iv 0 43 3 8 Tryz.underlying43 Tryz.infoInt rfl .i64 .i64 n (by omega) (by omega)
  have hc1 : decide ((n : Int) < 1) = false := by simp; omega
  have hc2 : decide ((65536 : Int) < (n : Int)) = false := by simp; omega
  have hbl := hd.lt
  go_enter Tryz.func50, Tryz.ntmps50
  go_wp2
  go_loopw [6] (fun i wr => ∃ k : Nat, k ≤ n ∧ i = .int .i64 k ∧ FillRel w n k wr) (fun i _ => n - (intOf i).toNat)
  case atStart =>
    refine ⟨0, Nat.zero_le _, rfl, ?_, (Below.refl _ _).alloc (Nat.le_refl _) _⟩
    have := Row.rep w 3 iv 0 n
    simpa using this
  case round =>
    obtain ⟨k, hk, rfl, hrow, hbel⟩ := hrel
    by_cases hlt : k < n
    · have hlt2 : (k : Int) < (n : Int) := by omega
      have hcell := hrow.cell (k := k) (x := 0) (by rw [List.getElem?_append_right (by simp)]; rw [List.getElem?_replicate]; simp; omega)
      have hfr := hrow.frozen k
      unfold iv at hcell
      go_wp2
      exact ⟨⟨k + 1, by omega, by go_num, by have := hrow.set_ k k; rw [fill_step n k hlt] at this; exact this, hbel.setCell (Nat.le_refl _) _⟩, by simp [intOf]; omega⟩
    · obtain rfl : k = n := by omega
      have hrow1 : Row wr w.heap.size 3 iv (List.range k) := by simpa using hrow
      have hd1 := hd.below hbel hbl
      clear hrow
      go_wp2
      go_loopg [7, 8] (k - 1) (fun i x y wr => x = .int .i64 i ∧ MixRelR w b k s i wr)
      case atStart =>
        refine ⟨by go_num, List.range k, s, by omega, hs, by simp, rfl, hrow1, hd1, ?_⟩
        rw [hd.setCell_self 0 (.int .u64 (s : Int)) rfl]
        exact hbel
      case round =>
        obtain ⟨rfl, l, t, hi, ht, hl, hsh, hrow, hdi, hbel2⟩ := hrel
        have HSH := Lib.hid hsh
        have HL := Lib.hid hl
        clear hsh hl
        by_cases hi1 : 1 ≤ gk
        · obtain ⟨i, rfl⟩ : ∃ i, gk = i + 1 := ⟨gk - 1, by omega⟩
          go_wp2_with fail
          rw [show ((i : Int) + 1 + 1) = ((i + 2 : Nat) : Int) from by omega]
          refine (rd_below b t (i + 2) wr ht (by omega) (by omega) hdi).mono ?_
          rintro e x1 ⟨rfl, rfl⟩
          have hlt := Dice.below_lt (i + 2) t (by omega)
          have hst := Dice.below_state (i + 2) t ht
          have hsu := HSH.out
          rw [Dice.shuffle_succ] at hsu
          have hr1 := hrow.far (p := ⟨b, 0, none⟩) (by simp; omega) (.int .u64 (((Dice.below (i + 2) t).2 : Nat) : Int))
          have hd1 := hdi.set_ 0 (.int .u64 (((Dice.below (i + 2) t).2 : Nat) : Int))
          have hb1 : Below w.heap.size (w.setCell ⟨b, 0, none⟩ (.int .u64 (((Dice.below (i + 2) t).2 : Nat) : Int))) (wr.setCell ⟨b, 0, none⟩ (.int .u64 (((Dice.below (i + 2) t).2 : Nat) : Int))) := by
            have := below_set hbel2 hbl (.int .u64 (((Dice.below (i + 2) t).2 : Nat) : Int))
            rw [setCell_setCell] at this
            exact this
          generalize wr.setCell ⟨b, 0, none⟩ (.int .u64 (((Dice.below (i + 2) t).2 : Nat) : Int)) = x1 at *
          generalize (Dice.below (i + 2) t).1 = j at *
          generalize (Dice.below (i + 2) t).2 = t' at *
          have HSU := Lib.hid hsu
          clear hsu hrow hdi hbel2 HSH ht
          have hl := HL.out
          have hci := hr1.cell (k := i + 1) (x := l.getD (i + 1) 0) (by rw [List.getD_eq_getElem?_getD, List.getElem?_eq_getElem (by omega)]; rfl)
          have hcj := hr1.cell (k := j) (x := l.getD j 0) (by rw [List.getD_eq_getElem?_getD, List.getElem?_eq_getElem (by omega)]; rfl)
          have hfi := hr1.frozen (i + 1)
          have hfj := hr1.frozen j
          clear hl
          unfold iv at hci hcj
          obtain ⟨vi, hvi⟩ : ∃ v, l.getD (i + 1) 0 = v := ⟨_, rfl⟩
          obtain ⟨vj, hvj⟩ : ∃ v, l.getD j 0 = v := ⟨_, rfl⟩
          rw [hvi] at hci
          rw [hvj] at hcj
          have HV := Lib.hid (And.intro hvi hvj)
          clear hvi hvj
          have g1 : ((i + 1 : Nat) : Int) < (k : Int) := by omega
          have g2 : (j : Int) < (k : Int) := by omega
          by_cases hij : j = i + 1
          · subst hij
            obtain rfl : vi = vj := HV.out.1.symm.trans HV.out.2
            go_wp2_with fail
            go_region
            go_wp2
            go_roundg i
            case rel => exact mix_stepR hst HL.out hi hr1 (by exact hd1) hb1 hbl HSU.out HV.out.1 HV.out.2
            case measure => omega
          · go_wp2_with fail
            go_region
            go_wp2
            go_roundg i
            case rel => exact mix_stepR hst HL.out hi hr1 (by exact hd1) hb1 hbl HSU.out HV.out.1 HV.out.2
            case measure => omega
        · go_wp2_with fail
          go_ret
          obtain rfl : gk = 0 := by omega
          have hsu := HSH.out
          rw [Dice.shuffle_zero] at hsu
          unfold Dice.order
          rw [← hsu]
          exact ⟨rfl, hrow, hdi, hbel2⟩
theorem rd_order_none (b : Nat) (z : Int) (w : World) (hz : z < 1) :
    Calls Tryz.prog 50 #[.pointer (some ⟨b, 0, none⟩), .int .i64 z] w fun e w' => e = .returned (.slice none 0 0) ∧ w = w' := by
  go_enter Tryz.func50, Tryz.ntmps50
  go_wp2
  go_ret
  exact ⟨rfl, rfl⟩
theorem Tryz.eltInt : Elt Tryz.prog 43 3 (.int .i64 0) 8 := ⟨Tryz.underlying43, by kernel_rfl, by kernel_rfl⟩
theorem iv_one (x : Nat) : (iv x).oneCell' = true := rfl
def RDrawRel (w : World) (b n s0 i : Nat) (v : Value) (wr : World) : Prop :=
  Own wr 3 iv v (Dice.draws n i s0).1 ∧ (∀ g, v.ownBlock = some g → w.heap.size ≤ g) ∧ Blk wr b 88 #[.int .u64 (((Dice.draws n i s0).2 : Nat) : Int)] ∧
    Below w.heap.size (w.setCell ⟨b, 0, none⟩ (.int .u64 (((Dice.draws n i s0).2 : Nat) : Int))) wr
set_option maxRecDepth 100000 in
set_option maxHeartbeats 1000000 in
theorem rd_draw (b s n k : Nat) (w : World) (hs : s < 18446744073709551616) (hn1 : 1 ≤ n) (hn2 : n ≤ 9223372036854775807) (hk2 : k ≤ 65536) (hd : Blk w b 88 #[.int .u64 (s : Int)]) :
    Calls Tryz.prog 52 #[.pointer (some ⟨b, 0, none⟩), .int .i64 (n : Int), .int .i64 (k : Int)] w fun e w' => ∃ v, e = .returned v ∧ RDrawRel w b n s k v w' := by
  have hbl := hd.lt
  go_enter Tryz.func52, Tryz.ntmps52
  go_wp2_with fail
  go_loopw [7, 8] (fun v i wr => ∃ j : Nat, j ≤ k ∧ i = .int .i64 j ∧ RDrawRel w b n s j v wr) (fun _ i _ => k - (intOf i).toNat)
  case atStart =>
    refine ⟨0, Nat.zero_le _, rfl, ?_⟩
    unfold RDrawRel
    rw [Dice.draws_zero]
    refine ⟨Own.nil_ _ _ _, (fun g h => by cases h), hd, ?_⟩
    rw [hd.setCell_self 0 (.int .u64 (s : Int)) rfl]
    exact Below.refl _ _
  case round =>
    obtain ⟨j, hj, rfl, ho, hf, hdb, hbel⟩ := hrel
    rename World => wr
    by_cases hlt : j < k
    · have hlt2 : (j : Int) < (k : Int) := by omega
      have hst := Dice.draws_state n j s hs
      have hsc := Dice.draws_succ n j s
      have hln := Dice.draws_len n j s
      have hrb := rd_below b _ n wr hst (by omega) (by omega) hdb
      have hz := hbel.size
      rw [World.size_setCell] at hz
      have ho2 := ho.exc ((Exc.refl b wr).set_ 0 (.int .u64 (((Dice.below n (Dice.draws n j s).2).2 : Nat) : Int))) (fun e => by have := hf b e; omega)
      have hd2 := hdb.set_ 0 (.int .u64 (((Dice.below n (Dice.draws n j s).2).2 : Nat) : Int))
      have hb2 := below_set hbel hbl (.int .u64 (((Dice.below n (Dice.draws n j s).2).2 : Nat) : Int))
      rw [setCell_setCell] at hb2
      generalize (Dice.draws n j s).1 = l at *
      generalize (Dice.draws n j s).2 = t at *
      generalize (Dice.below n t).1 = x at *
      generalize (Dice.below n t).2 = t' at *
      have HSC := Lib.hid hsc
      have HRB := Lib.hid hrb
      have HD2 := Lib.hid hd2
      have HB2 := Lib.hid hb2
      clear hsc hrb hd2 hb2 hdb hbel ho hst
      go_wp2_with fail
      refine HRB.out.mono ?_
      rintro e x1 ⟨rfl, hx1⟩
      rw [hx1] at ho2 HD2 HB2
      clear hx1 HRB
      go_wp2_with (at_builtin; refine app1 Tryz.eltInt rfl (.tmp 20) (.tmp 24) rfl x1 _ l x _ rfl rfl ho2 rfl (iv_one x) ?c1 ?c2 ?_)
      case c1 => rw [hln]; unfold maxLen; omega
      case c2 => rw [hln]; omega
      intro v' w2 ho3 hgr
      have hHB := HB2.out.size
      rw [World.size_setCell] at hHB
      have hF : RDrawRel w b n s (j + 1) v' w2 := by
        unfold RDrawRel
        rw [HSC.out]
        refine ⟨ho3, hgr.fresh (by omega) hf, ?_, HB2.out.trans (hgr.below hHB hf)⟩
        have h4 : Blk x1 b 88 #[.int .u64 (t' : Int)] := by simpa using HD2.out
        exact (hgr.block b h4.lt (fun e => by have := hf b e.symm; omega)).trans h4
      have HF := Lib.hid hF
      clear hF ho3 hgr HD2 HB2 ho2
      go_wp2
      exact ⟨⟨j + 1, by omega, by go_num, HF.out⟩, by simp [intOf]; omega⟩
    · obtain rfl : j = k := by omega
      have HF := Lib.hid (show RDrawRel w b n s j u7 wr from ⟨ho, hf, hdb, hbel⟩)
      clear ho hf hdb hbel
      go_wp2
      go_ret
      exact ⟨_, rfl, HF.out⟩
theorem rd_draw_none (b : Nat) (z y : Int) (w : World) (hz : z < 1) :
    Calls Tryz.prog 52 #[.pointer (some ⟨b, 0, none⟩), .int .i64 z, .int .i64 y] w fun e w' => e = .returned (.slice none 0 0) ∧ w = w' := by
  go_enter Tryz.func52, Tryz.ntmps52
  go_wp2
  go_ret
  exact ⟨rfl, rfl⟩
theorem rd_fork (b s : Nat) (nm : ByteArray) (w : World) (hs : s < 18446744073709551616) (hc : w.cell? ⟨b, 0, none⟩ = some (.int .u64 (s : Int))) (hf : w.frozen? ⟨b, 0, none⟩ = false)
    (hm : nm.size ≤ 9223372036854775807) :
    Calls Tryz.prog 55 #[.pointer (some ⟨b, 0, none⟩), .string nm] w fun e w' => ∃ g, e = .returned (.pointer (some ⟨g, 0, none⟩)) ∧ w.heap.size ≤ g ∧
      Blk w' g 88 #[.int .u64 ((Dice.next s ^^^ fnv nm.data.toList : Nat) : Int)] ∧ Below w.heap.size (w.setCell ⟨b, 0, none⟩ (.int .u64 ((Dice.step s : Nat) : Int))) w' := by
  have kc := fun (w : World) => Lib.run_convert_string_bytes (P := Tryz.prog) w 9 22 5 nm Tryz.underlying9 Tryz.underlying22 Tryz.underlying5
  have hx := xor_u64 (Dice.next s) (fnv nm.data.toList) (Dice.next_lt s) (fnv_lt _)
  go_enter Tryz.func55, Tryz.ntmps55
  go_wp2_with fail
  refine (rd_next b s _ hs hc hf).mono ?_
  rintro e w1 ⟨rfl, rfl⟩
  go_wp2_with fail
  have hby := bytes_bytesWorld (w.setCell ⟨b, 0, none⟩ (.int .u64 ((Dice.step s : Nat) : Int))) 5 nm
  rw [World.size_setCell] at hby
  refine (ref_sum _ _ _ _ _ _ hby hm).mono ?_
  rintro e w1 ⟨rfl, rfl⟩
  go_wp2
  go_ret
  refine ⟨_, rfl, ?_, Blk.new _ _ _, ?_⟩
  · rw [Lib.bytesWorld_size]; simp
  · have hb := below_bytesWorld (w.setCell ⟨b, 0, none⟩ (.int .u64 ((Dice.step s : Nat) : Int))) 5 nm
    have hz := hb.size
    simp at hb hz
    exact hb.alloc (by omega) _
end Go.Proofs.YtjmbpnogicdkgaaGreatDoor
