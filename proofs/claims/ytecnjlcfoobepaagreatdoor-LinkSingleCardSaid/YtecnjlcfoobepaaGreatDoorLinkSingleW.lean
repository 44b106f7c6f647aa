import Derived.Test.YtecnjlcfoobepaaGreatDoorLinkFine
import Derived.Test.YtecnjlcfoobepaaGreatDoorLinkFarP
import Derived.Test.YtecnjlcfoobepaaGreatDoorLinkMore
namespace Go.Proofs.YtecnjlcfoobepaaGreatDoor
open Go.RowKit
set_option linter.unusedSimpArgs false
set_option linter.unusedVariables false
set_option maxRecDepth 100000 in
set_option maxHeartbeats 2000000 in
theorem hand_outRow (A : Option Addr) (n c B : Nat) (l : List Rat) (w : World) (h : ReadsQ w B A n l) (hB : B ≤ w.heap.size) (hn : n ≤ 1000000) (hq : ∀ x ∈ l, QS 1099511627776 x) :
  Calls Tryz.prog 71 #[.slice A n c] w fun e w' => ∃ v, e = .returned v ∧ OwnR w' v l ∧ (∀ b, v.ownBlock = some b → w.heap.size ≤ b) ∧ Below w.heap.size w w' := by
 have H := Lib.hid h
 have HLN := Lib.hid h.len
 have HQ := Lib.hid hq
 clear h hq
 go_enter Tryz.func71, Tryz.ntmps71
 go_wp2_with fail
 go_loopw [3, 4] (fun v i wr => ∃ k : Nat, k ≤ n ∧ i = .int .i64 (k : Int) ∧ OwnR wr v (l.take k) ∧ Hid (∀ b, v.ownBlock = some b → w.heap.size ≤ b) ∧ Below w.heap.size w wr) (fun _ i _ => n - (intOf i).toNat)
 case atStart => exact ⟨0, by omega, rfl, OwnR.nil _, Lib.hid (fun b h => by cases h), Below.refl _ _⟩
 case round =>
  obtain ⟨k, hk, rfl, hown, hfr, hbel⟩ := hrel
  rename World => wr
  by_cases hkn : k < n
  ·have k1 : (k : Int) < (n : Int) := by omega
   obtain ⟨ad, gg, o, x, rfl, hP, hgB, hx, x0, x1, x2, x3, x4⟩ := ReadsQ.cells (H.out.below (hbel.mono hB)) hkn
   have hsc : l.take (k + 1) = l.take k ++ [x] := by rw [List.take_add_one, hx]; rfl
   have hout := hand_out x wr (HQ.out x (List.mem_of_getElem? hx))
   unfold qV at hout
   have HOUT := Lib.hid hout
   have HSC := Lib.hid hsc
   have HO := Lib.hid hown
   have HBL := Lib.hid hbel
   have HLK := Lib.hid (show (l.take k).length ≤ 1000000 from by rw [List.length_take]; omega)
   clear hout hsc hx hown hbel hgB
   go_wp2_with fail
   refine HOUT.out.mono ?_
   rintro e w1 ⟨V, rfl, hR, hw1⟩
   obtain ⟨g1, A1, l1, c1, A2, l2, c2, rfl⟩ := hR.shape
   have hown1 := HO.out.next hw1
   have HB1 := Lib.hid (HBL.out.trans (hw1.mono HBL.out.size))
   have HR := Lib.hid hR
   have HO1 := Lib.hid hown1
   clear HOUT x0 x1 x2 x3 x4 hP hown1 hw1 hR
   go_wp2_with (at_builtin; refine appR rfl (.tmp 11) (.tmp 17) rfl w1 _ (l.take k) x g1 A1 l1 c1 A2 l2 c2 rfl HO1.out HR.out rfl HLK.out ?_; intro v' w2 hown2 hgr; have HO2 := Lib.hid hown2; have HGR := Lib.hid hgr; clear hown2 hgr)
   exact ⟨⟨k + 1, by omega, by go_num, by rw [HSC.out]; exact HO2.out, Lib.hid (grewL HGR.out hfr.out HB1.out.size), HB1.out.trans (HGR.out.below HB1.out.size hfr.out)⟩, by simp [intOf]; omega⟩
  ·obtain rfl : k = n := by omega
   have k1 : ¬ (k : Int) < (k : Int) := by omega
   rw [List.take_of_length_le (by have := HLN.out; omega)] at hown
   have HO := Lib.hid hown
   have HBL := Lib.hid hbel
   clear hown hbel
   go_wp2
   go_ret
   exact ⟨_, rfl, HO.out, hfr.out, HBL.out⟩
set_option maxRecDepth 100000 in
set_option maxHeartbeats 2000000 in
theorem hand_outRows (A : Option Addr) (n c B : Nat) (xl : List (List Rat)) (w : World) (h : ReadsQQ w B A n xl) (hBB : B ≤ w.heap.size) (hn : n ≤ 1000) (hl : ∀ l ∈ xl, l.length ≤ 1000000 ∧ ∀ x ∈ l, QS 1099511627776 x) :
  Calls Tryz.prog 34 #[.slice A n c] w fun e w' => ∃ v, e = .returned v ∧ OwnRR w' v xl ∧ (∀ b, v.ownBlock = some b → w.heap.size ≤ b) ∧ Below w.heap.size w w' := by
 have hxn : xl.length = n := h.len
 have H := Lib.hid h
 have HL := Lib.hid hl
 have HXN := Lib.hid hxn
 clear h hl hxn
 go_enter Tryz.func34, Tryz.ntmps34
 go_wp2_with fail
 go_loopw [3, 4] (fun v i wr => ∃ k : Nat, k ≤ n ∧ i = .int .i64 (k : Int) ∧ OwnRR wr v (xl.take k) ∧ (∀ b, v.ownBlock = some b → w.heap.size ≤ b) ∧ Below w.heap.size w wr) (fun _ i _ => n - (intOf i).toNat)
 case atStart => exact ⟨0, by omega, rfl, OwnS.nil _ _ _, (fun b h => by cases h), Below.refl _ _⟩
 case round =>
  obtain ⟨k, hk, rfl, hown, hfr, hbel⟩ := hrel
  rename World => wr
  by_cases hkn : k < n
  ·have k1 : (k : Int) < (n : Int) := by omega
   obtain ⟨row, hx⟩ : ∃ row, xl[k]? = some row := ⟨_, List.getElem?_eq_getElem (by have := HXN.out; omega)⟩
   obtain ⟨ad, Ar, m, cr, rfl, hadb, hcell, hrow⟩ := (H.out.below rkindQ (hbel.mono hBB)).at_ hx
   have hm : m = row.length := hrow.len.symm
   obtain ⟨hlen, hsz⟩ := HL.out row (List.mem_of_getElem? hx)
   have hsc : xl.take (k + 1) = xl.take k ++ [row] := by rw [List.take_add_one, hx]; rfl
   have HIN := Lib.hid (hand_outRow Ar m cr B row wr hrow (Nat.le_trans hBB hbel.size) (by omega) hsz)
   have HSC := Lib.hid hsc
   have HO := Lib.hid hown
   have HFR := Lib.hid hfr
   have HBL := Lib.hid hbel
   have HLK := Lib.hid (show (xl.take k).length ≤ 1000000 from by rw [List.length_take]; omega)
   clear hx hrow hm hlen hsz hsc hown hfr hbel
   go_wp2_with fail
   refine HIN.out.mono ?_
   rintro e w1 ⟨v1, rfl, ho1, hf1, hb1⟩
   obtain ⟨A1, d1, rfl, _, _⟩ := OwnR.form ho1
   have hown1 := OwnS.next Tryz.kindRR HO.out hb1
   have hbel1 := HBL.out.trans (hb1.mono HBL.out.size)
   clear HIN hcell hf1 hb1
   go_wp2_with (at_builtin; refine appS Tryz.kindRR Tryz.eltRR rfl (.tmp 11) (.tmp 17) rfl w1 _ (xl.take k) A1 _ d1 row rfl hown1 ho1 rfl HLK.out ?_; intro v' w2 hown2 hgr)
   have hbel2 := hbel1.trans (hgr.below hbel1.size HFR.out)
   have hfr2 := hgr.fresh hbel1.size HFR.out
   rw [← HSC.out] at hown2
   exact ⟨⟨k + 1, by omega, by go_num, hown2, hfr2, hbel2⟩, by simp [intOf]; omega⟩
  ·obtain rfl : k = n := by omega
   have k1 : ¬ (k : Int) < (k : Int) := by omega
   rw [List.take_of_length_le (by have := HXN.out; omega)] at hown
   have HO := Lib.hid hown
   have HFR := Lib.hid hfr
   have HBL := Lib.hid hbel
   clear hown hfr hbel
   go_wp2
   go_ret
   exact ⟨_, rfl, HO.out, HFR.out, HBL.out⟩
theorem OwnR.atR {w : World} {g n c : Nat} {ql : List Rat} (h : OwnR w (.slice (some ⟨g, 0, none⟩) n c) ql) {k : Nat} {q : Rat} (hq : ql[k]? = some q) : ∃ r : RC, AtR w g (k * 3) r ∧ IsQ w w.heap.size r.v q := by
 obtain ⟨r, h0, h1, h2, h3⟩ := OwnR.cell3 h hq
 exact ⟨r, ⟨h0, h1, h2⟩, h3⟩
theorem farR_at {w : World} {gf n c : Nat} {f : List (List Rat)} (h : OwnRR w (.slice (some ⟨gf, 0, none⟩) n c) f) (hs : SymF f) {a b : Nat} (ha : a < f.length) (hb : b < f.length) :
  ∃ gr c' r, At1 w gf a (.slice (some ⟨gr, 0, none⟩) f.length c') ∧ AtR w gr (b * 3) r ∧ IsQ w w.heap.size r.v (dOf f a b) := by
 obtain ⟨l, hl⟩ : ∃ l, f[a]? = some l := ⟨_, List.getElem?_eq_getElem ha⟩
 have hld : f.getD a [] = l := by rw [List.getD_eq_getElem?_getD, hl]; rfl
 have hlen := hs.row a ha
 rw [hld] at hlen
 obtain ⟨A, m, k, hc, ho⟩ := OwnS.at_ h hl
 obtain ⟨A', c', hv, -, -⟩ := OwnR.form ho
 injection hv with hv1 hv2 hv3
 subst hv2
 obtain ⟨g, rfl⟩ := OwnR.addr ho (by omega)
 rw [hlen] at hc
 obtain ⟨x, hx⟩ : ∃ x, l[b]? = some x := ⟨_, List.getElem?_eq_getElem (by omega)⟩
 have hd : dOf f a b = x := by
  unfold dOf
  rw [hld, List.getD_eq_getElem?_getD, hx]
  rfl
 rw [hd]
 obtain ⟨r, h1, h2⟩ := OwnR.atR ho hx
 exact ⟨g, k, r, At1.mk' hc, h1, h2⟩
theorem nextTo_QS {best : List Rat} {d : Nat → Nat → Rat} {i m : Nat} (hb : ∀ j, QS m (best.getD j 0)) (hd : ∀ a b, QS m (d a b)) : ∀ k, QS m (nextTo best d i k) := by
 intro k
 induction k with
 | zero => exact hb i
 | succ k ih =>
  show QS m (minQ (nextTo best d i k) (maxQ (best.getD k 0) (d k i)))
  unfold minQ maxQ
  split <;> split <;> first | exact ih | exact hb _ | exact hd _ _
theorem stepsL_QS {n m a : Nat} {d : Nat → Nat → Rat} (hm : 1 ≤ m) (hd : ∀ a b, QS m (d a b)) : ∀ k j, QS m ((stepsL n d a k).getD j 0) := by
 intro k
 induction k with
 | zero =>
  intro j
  refine QS.getD (fun x hx => ?_) hm j
  obtain ⟨i, -, rfl⟩ := List.mem_map.1 hx
  exact hd _ _
 | succ k ih =>
  intro j
  refine QS.getD (fun x hx => ?_) hm j
  obtain ⟨i, -, rfl⟩ := List.mem_map.1 hx
  exact nextTo_QS ih hd n
theorem map_snoc {α : Type} (g : Nat → α) (i : Nat) : (List.range (i + 1)).map g = (List.range i).map g ++ [g i] := by rw [List.range_succ, List.map_append]; rfl
theorem Blk.set3r {w : World} {g : Nat} {t : TypeId} {a : Bool} {A A' : Option Addr} {l c l' c' : Nat} (h : Blk w g t #[.bool a, .slice A l c, .slice A' l' c']) (x : Bool) (X X' : Option Addr) (m d m' d' : Nat) :
  Blk (((w.setCell ⟨g, 0, none⟩ (.bool x)).setCell ⟨g, 1, none⟩ (.slice X m d)).setCell ⟨g, 2, none⟩ (.slice X' m' d')) g t #[.bool x, .slice X m d, .slice X' m' d'] := by
 simpa using ((h.set_ 0 (.bool x)).set_ 1 (.slice X m d)).set_ 2 (.slice X' m' d')
theorem Exc.set3r {b : Nat} {w w' : World} (h : Exc b w w') (x y z : Value) : Exc b w (((w'.setCell ⟨b, 0, none⟩ x).setCell ⟨b, 1, none⟩ y).setCell ⟨b, 2, none⟩ z) := ((h.set_ 0 x).set_ 1 y).set_ 2 z
theorem box_ne {a : Bool} {A A' : Option Addr} {l c l' c' : Nat} : ∀ i x : Nat, (#[Value.bool a, Value.slice A l c, Value.slice A' l' c'])[i]? ≠ some (u32v x) := by
 intro i x
 match i with
 | 0 => simp [u32v]
 | 1 => simp [u32v]
 | 2 => simp [u32v]
 | i + 3 => simp
set_option maxRecDepth 100000 in
set_option maxHeartbeats 4000000 in
theorem ref_steps (gf n c m a b : Nat) (f : List (List Rat)) (w : World) (h : OwnRR w (.slice (some ⟨gf, 0, none⟩) n c) f) (hs : SymF f) (hlen : f.length = n) (hn1 : 1 ≤ n) (hn : n ≤ 64) (ha : a < n) (hb : b < n) (hm1 : 1 ≤ m) (hm : m ≤ 1000000) (hq : ∀ a b, QS m (dOf f a b)) :
  Calls Tryz.prog 33 #[.slice (some ⟨gf, 0, none⟩) n c, .int .i64 (a : Int), .int .i64 (b : Int)] w (RetQ ((stepsL n (dOf f) a n).getD b 0) w) := by
 have hqs := fun k j => stepsL_QS (n := n) (a := a) hm1 hq k j
 obtain ⟨D, hD⟩ : ∃ D, dOf f = D := ⟨_, rfl⟩
 rw [hD] at hq hqs ⊢
 have HH := Lib.hid h
 have HS := Lib.hid hs
 have HD : Hid (∀ i j, dOf f i j = D i j) := Lib.hid fun i j => by rw [hD]
 have HLEN := Lib.hid hlen
 have HQ := Lib.hid hq
 have HQS := Lib.hid hqs
 clear h hs hlen hq hqs hD
 have hav : (a : Int) < (n : Int) := by omega
 have hbv : (b : Int) < (n : Int) := by omega
 have b0 := Blk.new w  70 #[.bool false, .slice none 0 0, .slice none 0 0]; have hB := balloc1 w (.cells #[.bool false, .slice none 0 0, .slice none 0 0] 70); have hZ := Lib.hid (show (w.alloc (.cells #[.bool false, .slice none 0 0, .slice none 0 0] 70)).heap.size = w.heap.size + 1 from by simp)
 go_enter Tryz.func33, Tryz.ntmps33
 go_wp2_with fail
 generalize (w.alloc (.cells #[.bool false, .slice none 0 0, .slice none 0 0] 70)) = W at *
 have hHW := OwnS.next Tryz.kindRR HH.out hB
 have HHW := Lib.hid hHW
 have hWw : w.heap.size < W.heap.size := b0.lt
 clear hHW
 go_loopw [8, 9] (fun vb p wr => ∃ i : Nat, i ≤ n ∧ p = .int .i64 (i : Int) ∧ OwnR wr vb ((List.range i).map (D a)) ∧ Hid (∀ b, vb.ownBlock = some b → W.heap.size ≤ b) ∧ Below W.heap.size W wr) (fun _ p _ => n - (intOf p).toNat)
 case atStart => exact ⟨0, by omega, rfl, OwnR.nil _, Lib.hid (fun b h => by cases h), Below.refl _ _⟩
 case round =>
  obtain ⟨i, hi, rfl, ho, hfr, hbw⟩ := hrel
  rename World => wr
  by_cases hin : i < n
  ·have k1 : (i : Int) < (n : Int) := by omega
   obtain ⟨gr, cr, r, c1, c2, hIs⟩ := farR_at (a := a) (b := i) (OwnS.next Tryz.kindRR HHW.out hbw) HS.out (by rw [HLEN.out]; exact ha) (by rw [HLEN.out]; exact hin)
   rw [HLEN.out] at c1
   rw [HD.out] at hIs
   have HSN := Lib.hid (map_snoc (D a) i)
   generalize D a i = x at *
   obtain ⟨rg, rA, rl, rc, rA', rl', rc'⟩ := r
   have hIs : IsQ wr wr.heap.size (.agg #[.bool rg, .slice rA rl rc, .slice rA' rl' rc']) x := hIs
   obtain ⟨y0, -⟩ := c1.c2
   obtain ⟨x0, x1, x2⟩ := c2.c3
   simp only [] at x0 x1 x2
   have HI := Lib.hid hIs
   have HO := Lib.hid ho
   have HBW := Lib.hid hbw
   clear hIs ho hbw c1 c2
   go_wp2_with (at_builtin; refine appR rfl (.tmp 23) (.tmp 31) rfl wr _ ((List.range i).map (D a)) x rg rA rl rc rA' rl' rc' rfl HO.out HI.out rfl (by rw [List.length_map, List.length_range]; omega) ?_; intro v' w2 hown2 hgr; have HO2 := Lib.hid hown2; have HGR := Lib.hid hgr; clear hown2 hgr)
   exact ⟨⟨i + 1, by omega, by go_num, by rw [HSN.out]; exact HO2.out, Lib.hid (grewL HGR.out hfr.out HBW.out.size), HBW.out.trans (HGR.out.below HBW.out.size hfr.out)⟩, by simp [intOf]; omega⟩
  ·obtain rfl : i = n := by omega
   have k1 : ¬ (i : Int) < (i : Int) := by omega
   have ho : OwnR wr _ (stepsL i D a 0) := ho
   have HO := Lib.hid ho
   have HBW := Lib.hid hbw
   clear ho hbw
   go_wp2_with fail
   clear k1
   go_loopw [8, 10] (fun vb p wr => ∃ k : Nat, k ≤ i ∧ p = .int .i64 (k : Int) ∧ OwnR wr vb (stepsL i D a k) ∧ Hid (∀ b, vb.ownBlock = some b → W.heap.size ≤ b) ∧ Below W.heap.size W wr) (fun _ p _ => i - (intOf p).toNat)
   case atStart => exact ⟨0, by omega, rfl, HO.out, hfr, HBW.out⟩
   case round =>
    obtain ⟨k, hk, rfl, ho, hfr2, hbw⟩ := hrel
    rename World => wr
    clear HO HBW hfr
    obtain ⟨A8, c8, hv8, -, -⟩ := OwnR.form ho
    rw [stepsL_len] at hv8
    subst hv8
    obtain ⟨gb, rfl⟩ := OwnR.addr ho (by rw [stepsL_len]; omega)
    by_cases hki : k < i
    ·have k1 : (k : Int) < (i : Int) := by omega
     have hstep : stepsL i D a (k + 1) = (List.range i).map fun r => nextTo (stepsL i D a k) D r i := rfl
     have hbq := HQS.out k
     have hnq := fun r j => nextTo_QS (i := r) hbq HQ.out j
     have hbl := stepsL_len i D a k
     have HSTEP := Lib.hid hstep
     clear hstep
     generalize stepsL i D a k = best at *
     have HBQ := Lib.hid hbq
     have HNQ := Lib.hid hnq
     have HBL := Lib.hid hbl
     have HB2 := Lib.hid ho
     have HBW := Lib.hid hbw
     have hgb := ho.lt gb rfl
     clear hbq hnq hbl ho hbw
     go_wp2_with fail
     go_loopw [11, 12] (fun vn p w3 => ∃ r : Nat, r ≤ i ∧ p = .int .i64 (r : Int) ∧ OwnR w3 vn ((List.range r).map fun r => nextTo best D r i) ∧ Hid (∀ b, vn.ownBlock = some b → wr.heap.size ≤ b) ∧ Below wr.heap.size wr w3) (fun _ p _ => i - (intOf p).toNat)
     case atStart => exact ⟨0, by omega, rfl, OwnR.nil _, Lib.hid (fun b h => by cases h), Below.refl _ _⟩
     case round =>
      obtain ⟨r, hr, rfl, hvn, hfr3, hbw3⟩ := hrel
      rename World => w3
      by_cases hri : r < i
      ·have k2 : (r : Int) < (i : Int) := by omega
       obtain ⟨x, hx⟩ : ∃ x, best[r]? = some x := ⟨_, List.getElem?_eq_getElem (by rw [HBL.out]; exact hri)⟩
       obtain ⟨q, c2, hIs⟩ := OwnR.atR (HB2.out.next hbw3) hx
       have hx0 : nextTo best D r 0 = x := by
        show best.getD r 0 = x
        rw [List.getD_eq_getElem?_getD, hx]; rfl
       obtain ⟨rg, rA, rl, rc, rA', rl', rc'⟩ := q
       replace hIs : IsQ w3 w3.heap.size (.agg #[.bool rg, .slice rA rl rc, .slice rA' rl' rc']) x := hIs
       obtain ⟨x0, x1, x2⟩ := c2.c3
       simp only [] at x0 x1 x2
       have HI := Lib.hid hIs
       have HVN := Lib.hid hvn
       have HB3 := Lib.hid hbw3
       have HX0 := Lib.hid hx0
       have HVL := Lib.hid hvn.lt
       clear hIs hvn hbw3 hx hx0 c2
       go_upto_region 14 with fail
       go_cut [13] (fun p wc => ∃ g13, p = .pointer (some ⟨g13, 0, none⟩) ∧ Blk wc g13 70 #[.bool rg, .slice rA rl rc, .slice rA' rl' rc'] ∧ w3.heap.size ≤ g13 ∧ Below w3.heap.size w3 wc)
       case first =>
        go_wp2
        go_meet
        (with_reducible refine ⟨w3.heap.size, rfl, Blk.new _ _ _, Nat.le_refl _, ?_⟩)
        exact balloc1 _ _
       case rest =>
       obtain ⟨g13, rfl, b13, hg13, hbc⟩ := hcut
       rename World => w4
       have hw3 := HB3.out.size
       have HI := Lib.hid ((HI.out.next (Nat.le_refl _) hbc).more hbc.size)
       have HVN := Lib.hid (HVN.out.next hbc)
       have HVL : Hid (∀ b, u11.ownBlock = some b → b < g13) := Lib.hid fun b hb => by have := HVL.out b hb; omega
       have HB3 := Lib.hid (HB3.out.trans (hbc.mono HB3.out.size))
       have hg13' : wr.heap.size ≤ g13 := by omega
       have hI0 : IsQ w4 w4.heap.size (.agg #[.bool rg, .slice rA rl rc, .slice rA' rl' rc']) (nextTo best D r 0) := by rw [HX0.out]; exact HI.out
       have HI0 := Lib.hid hI0
       have HB13 := Lib.hid b13
       clear hbc hI0 b13 x0 x1 x2 HI HX0 hw3 hg13
       go_wp2_with fail
       go_loopw [14] (fun p w5 => ∃ (j : Nat) (rg : Bool) (rA : Option Addr) (rl rc : Nat) (rA' : Option Addr) (rl' rc' : Nat), j ≤ i ∧ p = .int .i64 (j : Int) ∧ Blk w5 g13 70 #[.bool rg, .slice rA rl rc, .slice rA' rl' rc'] ∧ IsQ w5 w5.heap.size (.agg #[.bool rg, .slice rA rl rc, .slice rA' rl' rc']) (nextTo best D r j) ∧ OwnR w5 u11 ((List.range r).map fun r => nextTo best D r i) ∧ Below wr.heap.size wr w5) (fun p _ => i - (intOf p).toNat)
       case atStart => exact ⟨0, rg, rA, rl, rc, rA', rl', rc', by omega, rfl, HB13.out, HI0.out, HVN.out, HB3.out⟩
       case round =>
        clear HB13 HI0 HVN HB3
        clear HI
        clear rg rA rl rc rA' rl' rc'
        obtain ⟨j, rg, rA, rl, rc, rA', rl', rc', hj, rfl, b13, hIx, hvn, hbw5⟩ := hrel
        rename World => w5
        by_cases hji : j < i
        ·have k3 : (j : Int) < (i : Int) := by omega
         obtain ⟨y, hy⟩ : ∃ y, best[j]? = some y := ⟨_, List.getElem?_eq_getElem (by rw [HBL.out]; exact hji)⟩
         obtain ⟨q, c2, hIy⟩ := OwnR.atR (HB2.out.next hbw5) hy
         have hyd : best.getD j 0 = y := by rw [List.getD_eq_getElem?_getD, hy]; rfl
         obtain ⟨gr, cr, z, d1, d2, hIz⟩ := farR_at (a := j) (b := r) (OwnS.next Tryz.kindRR (OwnS.next Tryz.kindRR HHW.out HBW.out) hbw5) HS.out (by rw [HLEN.out]; exact hji) (by rw [HLEN.out]; exact hri)
         rw [HLEN.out] at d1
         rw [HD.out] at hIz
         have hnx : nextTo best D r (j + 1) = minQ (nextTo best D r j) (maxQ (best.getD j 0) (D j r)) := rfl
         have hqx := HNQ.out r j
         have hqy := HBQ.out j
         have hqz := HQ.out j r
         rw [hyd] at hnx hqy
         generalize nextTo best D r j = x at *
         generalize D j r = dz at *
         obtain ⟨yg, yA, yl, yc, yA', yl', yc'⟩ := q
         obtain ⟨zg, zA, zl, zc, zA', zl', zc'⟩ := z
         replace hIy : IsQ w5 w5.heap.size (.agg #[.bool yg, .slice yA yl yc, .slice yA' yl' yc']) y := hIy
         replace hIz : IsQ w5 w5.heap.size (.agg #[.bool zg, .slice zA zl zc, .slice zA' zl' zc']) dz := hIz
         obtain ⟨x0, x1, x2⟩ := c2.c3
         simp only [] at x0 x1 x2
         have HIX := Lib.hid hIx
         have HIY := Lib.hid hIy
         have HIZ := Lib.hid hIz
         have HB13 := Lib.hid b13
         have HD1 := Lib.hid d1
         have HD2 := Lib.hid d2
         have HVN := Lib.hid hvn
         have HB5 := Lib.hid hbw5
         have HNX := Lib.hid hnx
         have HQX := Lib.hid hqx
         have HQY := Lib.hid hqy
         have HQZ := Lib.hid hqz
         clear hIx hIy hIz b13 hvn hbw5 hy hyd d1 d2 hnx hqx hqy hqz c2
         go_upto_region 18 with fail
         go_cut [15] (fun p wc => ∃ g15, p = .pointer (some ⟨g15, 0, none⟩) ∧ Blk wc g15 70 #[.bool yg, .slice yA yl yc, .slice yA' yl' yc'] ∧ w5.heap.size ≤ g15 ∧ Below w5.heap.size w5 wc)
         case first =>
          go_wp2
          go_meet
          (with_reducible refine ⟨w5.heap.size, rfl, Blk.new _ _ _, Nat.le_refl _, ?_⟩)
          exact balloc1 _ _
         case rest =>
         obtain ⟨g15, rfl, b15, hg15, hbc⟩ := hcut
         rename World => w6
         clear x0 x1 x2
         have HIY := Lib.hid ((HIY.out.next (Nat.le_refl _) hbc).more hbc.size)
         have HIZ := Lib.hid ((HIZ.out.next (Nat.le_refl _) hbc).more hbc.size)
         have d1 := HD1.out.below hbc HD1.out.lt
         have d2 := HD2.out.below hbc HD2.out.lt
         have hcm : ∀ w', Below w6.heap.size w6 w' → Calls Tryz.prog 57 #[.agg #[.bool zg, .slice zA zl zc, .slice zA' zl' zc'], .agg #[.bool yg, .slice yA yl yc, .slice yA' yl' yc']] w' (Ret (.int .i64 (cmpQ dz y)) w') := fun w' hb => ref_cmpQ dz y w6.heap.size _ _ w' (HIZ.out.next (Nat.le_refl _) hb) (HIY.out.next (Nat.le_refl _) hb) hb.size (HQZ.out.mono (by omega)) (HQY.out.mono (by omega))
         have hgt := cmp_gt y dz
         generalize cmpQ dz y = cv at *
         have HCM := Lib.hid hcm
         have HGT := Lib.hid hgt
         have HBC := Lib.hid hbc
         have hgw := HB13.out.lt
         have hne : ¬ g13 = g15 := by omega
         have hne2 : ¬ g15 = g13 := by omega
         clear hcm hgt hbc
         go_upto_region 19 with fail
         go_cut [65] (fun v wc => ∃ t, v = .bool t ∧ (t = true ↔ y < dz) ∧ Below w6.heap.size w6 wc)
         case first =>
          obtain ⟨b15q0, b15q1, b15q2⟩ := b15.c3; have c15 := b15.drew; have c15l := c15.lt; obtain ⟨d1q0, d1q1⟩ := d1.c2; have c1 := d1.drew; have c1l := c1.lt; obtain ⟨d2q0, d2q1, d2q2⟩ := d2.c3; have c2 := d2.drew; have c2l := c2.lt; have hc := bdrew0 w6; go_region_held3 (fun w' => w'.cell? ⟨g15, 0, none⟩ = some (.bool yg) ∧ w'.cell? ⟨g15, 1, none⟩ = some (.slice yA yl yc) ∧ w'.cell? ⟨g15, 2, none⟩ = some (.slice yA' yl' yc') ∧ w'.cell? ⟨gf, j, none⟩ = some (.slice (some ⟨gr, 0, none⟩) i cr) ∧ w'.cell? ⟨gr, r * 3, none⟩ = some (.bool zg) ∧ w'.cell? ⟨gr, r * 3 + 1, none⟩ = some (.slice zA zl zc) ∧ w'.cell? ⟨gr, r * 3 + 2, none⟩ = some (.slice zA' zl' zc')) (go_keep) (first | (go_at_call 57; (with_reducible refine (HCM.out _ hc).mono ?_); rintro e w1 ⟨rfl, hw1⟩; have c15 := c15.below hw1 c15.lt; (try clear c15q0 c15q1 c15q2); obtain ⟨c15q0, c15q1, c15q2⟩ := c15.c3; (try clear c15l); have c15l := c15.lt; have c1 := c1.below hw1 c1.lt; (try clear c1q0 c1q1); obtain ⟨c1q0, c1q1⟩ := c1.c2; (try clear c1l); have c1l := c1.lt; have c2 := c2.below hw1 c2.lt; (try clear c2q0 c2q1 c2q2); obtain ⟨c2q0, c2q1, c2q2⟩ := c2.c3; (try clear c2l); have c2l := c2.lt; have hc := bthen hc hw1))
          all_goals
           go_wp2
           go_meet
           exact ⟨_, rfl, by rw [decide_eq_true_eq]; exact HGT.out, hc⟩
         case rest =>
         obtain ⟨t, rfl, ht, hbt⟩ := hcut
         rename World => w7
         have HT := Lib.hid ht
         have b15 := b15.below hbt b15.lt
         have d1 := d1.below hbt d1.lt
         have d2 := d2.below hbt d2.lt
         have HIY := Lib.hid ((HIY.out.next (Nat.le_refl _) hbt).more hbt.size)
         have HIZ := Lib.hid ((HIZ.out.next (Nat.le_refl _) hbt).more hbt.size)
         have HBC := Lib.hid (bthen HBC.out hbt)
         clear hbt ht HCM HGT
         go_upto_if 65 with fail
         go_cut [] (fun wc => ∃ (yg : Bool) (yA : Option Addr) (yl yc : Nat) (yA' : Option Addr) (yl' yc' : Nat), Blk wc g15 70 #[.bool yg, .slice yA yl yc, .slice yA' yl' yc'] ∧ IsQ wc wc.heap.size (.agg #[.bool yg, .slice yA yl yc, .slice yA' yl' yc']) (maxQ y dz) ∧ Below w5.heap.size w5 wc)
         case first =>
          cases t with
          | true =>
           have hyz : maxQ y dz = dz := if_pos (HT.out.1 rfl)
           obtain ⟨y0, -⟩ := d1.c2
           obtain ⟨x0, x1, x2⟩ := d2.c3
           simp only [] at x0 x1 x2
           have HS3 := Lib.hid (Blk.set3r b15 zg zA zA' zl zc zl' zc')
           have HI3 := Lib.hid (IsQ.set3 HIZ.out b15 zg zA zA' zl zc zl' zc')
           have HB3 := Lib.hid (bset3 HBC.out hg15 (.bool zg) (.slice zA zl zc) (.slice zA' zl' zc'))
           have HYZ := Lib.hid hyz
           obtain ⟨b15q0, b15q1, b15q2, b15f0, b15f1, b15f2, b15s0, b15s1, b15s2⟩ := b15.f3
           clear hyz d1 d2
           go_wp2
           go_meet
           refine ⟨zg, zA, zl, zc, zA', zl', zc', HS3.out, ?_, HB3.out⟩
           rw [HYZ.out]
           simpa using HI3.out
          | false =>
           have hyz : maxQ y dz = y := if_neg (fun h => by have := HT.out.2 h; cases this)
           have HYZ := Lib.hid hyz
           have HB15 := Lib.hid b15
           clear hyz b15 d1 d2
           go_wp2
           go_meet
           exact ⟨yg, yA, yl, yc, yA', yl', yc', HB15.out, by rw [HYZ.out]; exact HIY.out, HBC.out⟩
         case rest =>
         clear HIY b15 d1 d2 HIZ HBC HT HD1 HD2
         (try clear HIY); (try clear HIZ); (try clear HIY); (try clear HIZ); (try clear b15); (try clear d1); (try clear d2); (try clear HBC)
         obtain ⟨yg, yA, yl, yc, yA', yl', yc', b15, hIy, hbc⟩ := hcut
         rename World => w8
         have hqm : QS m (maxQ y dz) := by
          unfold maxQ
          split
          ·exact HQZ.out
          ·exact HQY.out
         generalize maxQ y dz = yy at *
         have b13 := HB13.out.below hbc HB13.out.lt
         have HIX := Lib.hid ((HIX.out.next (Nat.le_refl _) hbc).more hbc.size)
         have HVN := Lib.hid (HVN.out.next hbc)
         have HB5 := Lib.hid (HB5.out.trans (hbc.mono HB5.out.size))
         have HIY := Lib.hid hIy
         have hcm : Calls Tryz.prog 57 #[.agg #[.bool yg, .slice yA yl yc, .slice yA' yl' yc'], .agg #[.bool rg, .slice rA rl rc, .slice rA' rl' rc']] w8 (Ret (.int .i64 (cmpQ yy x)) w8) := ref_cmpQ yy x w8.heap.size _ _ w8 HIY.out HIX.out (Nat.le_refl _) (hqm.mono (by omega)) (HQX.out.mono (by omega))
         have hlt := cmp_lt x yy
         generalize cmpQ yy x = cv at *
         have HCM := Lib.hid hcm
         have HLT := Lib.hid hlt
         obtain ⟨x0, x1, x2⟩ := b13.c3
         obtain ⟨y0, y1, y2⟩ := b15.c3
         clear hcm hlt hIy hbc hqm HQX HQY HQZ HB13
         go_wp2_with fail
         refine HCM.out.mono ?_
         rintro e w9 ⟨rfl, hb9⟩
         have b13 := b13.below hb9 b13.lt
         have b15 := b15.below hb9 b15.lt
         have HIX := Lib.hid ((HIX.out.next (Nat.le_refl _) hb9).more hb9.size)
         have HIY := Lib.hid ((HIY.out.next (Nat.le_refl _) hb9).more hb9.size)
         have HVN := Lib.hid (HVN.out.next hb9)
         have HB5 := Lib.hid (HB5.out.trans (hb9.mono HB5.out.size))
         clear x0 x1 x2 y0 y1 y2 HCM hb9
         by_cases hcv : cv < 0
         ·have q9 : decide (cv < 0) = true := decide_eq_true hcv
          have hyz : minQ x yy = yy := if_pos (HLT.out.1 hcv)
          have HS3 := Lib.hid (Blk.set3r b13 yg yA yA' yl yc yl' yc')
          have HI3 := Lib.hid (IsQ.set3 HIY.out b13 yg yA yA' yl yc yl' yc')
          have HV3 := Lib.hid (HVN.out.excB b13 box_ne ((Exc.refl g13 w9).set3r (.bool yg) (.slice yA yl yc) (.slice yA' yl' yc')) (fun e => by have := HVL.out g13 e; omega))
          have HB3 := Lib.hid (((HB5.out.setCell (p := ⟨g13, 0, none⟩) hg13' (.bool yg)).setCell (p := ⟨g13, 1, none⟩) hg13' (.slice yA yl yc)).setCell (p := ⟨g13, 2, none⟩) hg13' (.slice yA' yl' yc'))
          have HYZ := Lib.hid hyz
          obtain ⟨y0, y1, y2⟩ := b15.c3
          obtain ⟨b13q0, b13q1, b13q2, b13f0, b13f1, b13f2, b13s0, b13s1, b13s2⟩ := b13.f3
          clear hyz
          go_wp2
          refine ⟨⟨j + 1, yg, yA, yl, yc, yA', yl', yc', by omega, by go_num, HS3.out, ?_, HV3.out, HB3.out⟩, by simp [intOf]; omega⟩
          rw [HNX.out, HYZ.out]
          simpa using HI3.out
         ·have q9 : decide (cv < 0) = false := decide_eq_false hcv
          have hyz : minQ x yy = x := if_neg (fun h => hcv (HLT.out.2 h))
          have HYZ := Lib.hid hyz
          have HB13 := Lib.hid b13
          clear hyz b13 b15
          go_wp2
          exact ⟨⟨j + 1, rg, rA, rl, rc, rA', rl', rc', by omega, by go_num, HB13.out, by rw [HNX.out, HYZ.out]; exact HIX.out, HVN.out, HB5.out⟩, by simp [intOf]; omega⟩
        ·obtain rfl : j = i := by omega
         have k3 : ¬ (j : Int) < (j : Int) := by omega
         have HSN := Lib.hid (map_snoc (fun r => nextTo best D r j) r)
         generalize hxx : nextTo best D r j = x at *
         have hxx := Lib.hid hxx
         have HIX := Lib.hid hIx
         have HVN := Lib.hid hvn
         have HB5 := Lib.hid hbw5
         obtain ⟨x0, x1, x2⟩ := b13.c3
         clear hIx hvn hbw5 b13
         go_wp2_with (at_builtin; refine appR rfl (.tmp 78) (.tmp 80) rfl w5 _ _ x rg rA rl rc rA' rl' rc' rfl HVN.out HIX.out rfl (by rw [List.length_map, List.length_range]; omega) ?_; intro v' w2 hown2 hgr; have HO2 := Lib.hid hown2; have HGR := Lib.hid hgr; clear hown2 hgr)
         exact ⟨⟨r + 1, by omega, by go_num, by rw [HSN.out]; exact HO2.out, Lib.hid (grewL HGR.out hfr3.out HB5.out.size), HB5.out.trans (HGR.out.below HB5.out.size hfr3.out)⟩, by simp [intOf]; omega⟩
      ·obtain rfl : r = i := by omega
       have k2 : ¬ (r : Int) < (r : Int) := by omega
       have HVN := Lib.hid hvn
       have HB3 := Lib.hid (HBW.out.trans (hbw3.mono HBW.out.size))
       have hfw := HBW.out.size
       clear hvn hbw3
       go_wp2
       exact ⟨⟨k + 1, by omega, by go_num, by rw [HSTEP.out]; exact HVN.out, Lib.hid (fun b hb => Nat.le_trans hfw (hfr3.out b hb)), HB3.out⟩, by simp [intOf]; omega⟩
    ·obtain rfl : k = i := by omega
     have k1 : ¬ (k : Int) < (k : Int) := by omega
     obtain ⟨x, hx⟩ : ∃ x, (stepsL k D a k)[b]? = some x := ⟨_, List.getElem?_eq_getElem (by rw [stepsL_len]; exact hb)⟩
     have hxd : (stepsL k D a k)[b]?.getD 0 = x := by rw [hx]; rfl
     obtain ⟨q, c2, hIx⟩ := OwnR.atR ho hx
     obtain ⟨rg, rA, rl, rc, rA', rl', rc'⟩ := q
     have hIx : IsQ wr wr.heap.size (.agg #[.bool rg, .slice rA rl rc, .slice rA' rl' rc']) x := hIx
     obtain ⟨x0, x1, x2⟩ := c2.c3
     simp only [] at x0 x1 x2
     have b0 := b0.below hbw b0.lt
     have hB9 := bthen hB hbw
     have HI3 := Lib.hid (IsQ.set3 hIx b0 rg rA rA' rl rc rl' rc')
     have HB9 := Lib.hid hB9
     have HXD := Lib.hid hxd
     have hgb : ¬ gb = w.heap.size := fun e => by have := hfr2.out gb rfl; omega
     obtain ⟨b0q0, b0q1, b0q2, b0f0, b0f1, b0f2, b0s0, b0s1, b0s2⟩ := b0.f3
     clear hIx hx hxd ho hbw hB9 c2
     go_wp2
     refine bodyPost_ret (v := .agg #[.bool rg, .slice rA rl rc, .slice rA' rl' rc']) (by simp [results, Tryz.results33, go_sem, b0s0, b0s1, b0s2]) rfl ?_
     refine ⟨_, rfl, ?_, bset3 HB9.out (by omega) _ _ _⟩
     rw [HXD.out]
     simpa using HI3.out
end Go.Proofs.YtecnjlcfoobepaaGreatDoor
namespace Go.Proofs.YtecnjlcfoobepaaGreatDoor
open Go.RowKit
set_option linter.unusedSimpArgs false
set_option linter.unusedVariables false
set_option maxRecDepth 100000 in
set_option maxHeartbeats 4000000 in
theorem linkSingle_walk (A : Option Addr) (n1 c1 : Nat) (zl : List Int) (zn zw za zb : Int) (w : World) (h1 : ArgZ w A n1 c1 zl) (hn : I64 zn) (hz : I64 zw) (h4 : I64 za) (h5 : I64 zb) (hT : Tab w) :
  Calls Tryz.prog 7 #[.slice A n1 c1, .int .i64 zn, .int .i64 zw, .int .i64 za, .int .i64 zb] w (Ret (.bool true) w) := by
 obtain ⟨f, hF, hdr⟩ := law_drawn A n1 c1 zl zn zw w h1 hn hz
 have hlj := lj_of 1 hF
 have HDR := Lib.hid (fun w' => hdr 1 w' (by omega))
 generalize buildJ 1 f = l at *
 obtain ⟨m, hm⟩ : ∃ m, f.length = m := ⟨_, rfl⟩
 obtain ⟨nj, hnj⟩ : ∃ nj, l.length = nj := ⟨_, rfl⟩
 have hm1 := hF.one
 have hm7 := hF.most
 have hlen := hlj.len
 rw [hm] at hm1 hm7 hlen
 rw [hnj] at hlen
 obtain ⟨a, ha, hpa⟩ := pick_of za m w h4.1 h4.2 (by omega) (by omega)
 obtain ⟨b, hb, hpb⟩ := pick_of zb m w h5.1 h5.2 (by omega) (by omega)
 have hqf : ∀ a b, QS 47 (dOf f a b) := dOf_QS hF.qs (by omega)
 have hrl : ∀ r ∈ f, r.length ≤ 1000000 ∧ ∀ x ∈ r, QS 1099511627776 x := fun r hr => by
  obtain ⟨i, hi, e⟩ := List.mem_iff_getElem.1 hr
  have h2 := hlj.sym.row i hi
  rw [List.getD_eq_getElem?_getD, List.getElem?_eq_getElem hi] at h2
  have h3 : f[i].length = f.length := h2
  rw [← e]
  exact ⟨by omega, fun x hx => (hF.qs _ (List.getElem_mem hi) x hx).mono (by omega)⟩
 have HOR : Hid (∀ w' c gf, OwnQQ w' (.slice (some ⟨gf, 0, none⟩) m c) f → Calls Tryz.prog 34 #[.slice (some ⟨gf, 0, none⟩) m c] w' fun e w'' => ∃ v, e = .returned v ∧ (∃ A c, v = .slice A m c) ∧ OwnRR w'' v f ∧ Below w'.heap.size w' w'') := Lib.hid fun w' c gf ho => by
  refine (hand_outRows _ m c w'.heap.size f w' (OwnQQ.readsQQ ho) (Nat.le_refl _) (by omega) hrl).mono ?_
  rintro e w2 ⟨v, rfl, ho2, -, hb2⟩
  obtain ⟨A2, c2, hv⟩ := OwnS.form ho2
  exact ⟨v, rfl, ⟨A2, c2, by rw [hv, hm]⟩, ho2, hb2⟩
 have hfs := far_steps hlj.sym hlj.pos hlj.diag (a := a) (b := b) (by omega) (by omega)
 have hx := lj_far hlj a b
 have hle := far_single_le hlj.sym hlj.pos (a := a) (b := b) (by omega) (by omega)
 rw [hm] at hfs
 have hst : ∀ w' A' c', OwnRR w' (.slice A' m c') f → Calls Tryz.prog 33 #[.slice A' m c', .int .i64 (a : Int), .int .i64 (b : Int)] w' (RetQ ((stepsL m (dOf f) a m).getD b 0) w') := fun w' A' c' ho => by
  obtain ⟨g, rfl⟩ := OwnS.addr ho (by omega)
  exact ref_steps g m c' 47 a b f w' ho hlj.sym hm hm1 (by omega) ha hb (by omega) (by omega) hqf
 rw [← hfs] at hst
 obtain ⟨x, ex⟩ : ∃ x, farB 1 f a b = x := ⟨_, rfl⟩
 obtain ⟨y, ey⟩ : ∃ y, dOf f a b = y := ⟨_, rfl⟩
 have hqy := hqf a b
 rw [ex] at hx hle hst
 rw [ey] at hle hqy
 have hqx := hx.2
 have hsm := fun w' V (h : IsQ w' w'.heap.size V x) => hand_same x w'.heap.size V w' h (Nat.le_refl _) (hqx.mono (by omega))
 have hc1 := fun w => frac_cmp x y w (hqx.mono (by omega)) (hqy.mono (by omega))
 have hlt := cmp_gt y x
 generalize cmpQ x y = cv at *
 have q9 : decide (cv ≤ 0) = true := decide_eq_true (by
  rcases Int.lt_or_le 0 cv with h | h
  ·exact absurd (hlt.1 h) (Rat.not_lt.2 hle)
  ·exact h)
 unfold qV at hsm hc1
 have HP := Lib.hid hpa
 have HPB := Lib.hid hpb
 have HT := Lib.hid hT
 have HM := Lib.hid hm
 have HNJ := Lib.hid hnj
 have HJ := Lib.hid hlj
 have HST := Lib.hid hst
 have HSM := Lib.hid hsm
 have HC1 := Lib.hid hc1
 have HEX := Lib.hid ex
 have HEY := Lib.hid ey
 have p0 : (a : Int) < (m : Int) := by omega
 have p1 : (b : Int) < (m : Int) := by omega
 clear hdr h1 hn hz hF hT h4 h5 hpa hpb hm hnj hlj hst hsm hc1 ex ey hfs hx hle hqf hrl hqx hqy hlt
 go_enter Tryz.func7, Tryz.ntmps7
 go_wp2_with fail
 refine (HDR.out _ HT.out (Below.refl _ _)).mono ?_
 rintro e w1 ⟨vf, vj, rfl, hof, hoj, -, hb1⟩
 obtain ⟨A3, c3, rfl⟩ := OwnS.form hof
 obtain ⟨A4, c4, hv, -⟩ := OwnW.form hoj
 subst hv
 rw [HNJ.out] at hoj
 rw [HM.out] at hof
 rw [HM.out, HNJ.out]
 obtain ⟨gf, rfl⟩ := OwnS.addr hof (by rw [HM.out]; omega)
 have hT1 := HT.out.next hb1
 have hX := lj_walk HJ.out hoj hT1 HM.out hm7 a b ha hb
 rw [HEX.out] at hX
 unfold qV at hX
 have HX := Lib.hid hX
 have HKN : Hid (∀ w', Below w1.heap.size w1 w' → Calls Tryz.prog 18 #[] w' (Ret (.bool true) w')) := Lib.hid fun w' hb => law_known w' (hT1.next hb)
 have HB1 := Lib.hid hb1
 obtain ⟨gr, cr, b2, b1⟩ := far_at (a := a) (b := b) hof HJ.out.sym (by rw [HM.out]; exact ha) (by rw [HM.out]; exact hb)
 rw [HM.out] at b2
 rw [HEY.out] at b1
 have HOF := Lib.hid hof
 clear hof hoj hb1 hT1 hX HDR HEX HEY HJ
 have HREFL := Lib.hid (Below.refl w1.heap.size w1)
 go_wp2_with fail
 refine (HP.out _).mono ?_
 rintro e w2 ⟨rfl, rfl⟩
 go_wp2_with fail
 refine (HPB.out _).mono ?_
 rintro e w2 ⟨rfl, rfl⟩
 clear HP HPB
 go_upto_region 5 with fail
 go_cut [14, 15] (fun p e wc => e = .int .i64 0 ∧ ∃ g0, p = .pointer (some ⟨g0, 0, none⟩) ∧ Blk wc g0 56 #[.bool (decide (x.num < 0)), .int .u64 (lo x.num.natAbs : Int), .string (mo x.num.natAbs), .int .u64 (lo ((qden x)) : Int), .string (mo ((qden x)))] ∧ Below w1.heap.size w1 wc)
 case first =>
  go_wp2_with fail
  refine (HX.out _ HREFL.out).mono ?_
  rintro e wd ⟨rfl, hw⟩
  have HN := Lib.hid (bthen (bthen HREFL.out hw) (balloc1 wd (.cells #[.bool (decide (x.num < 0)), .int .u64 (lo x.num.natAbs : Int), .string (mo x.num.natAbs), .int .u64 (lo ((qden x)) : Int), .string (mo ((qden x)))] 56)))
  clear hw
  go_wp2
  go_meet
  exact ⟨rfl, wd.heap.size, rfl, Blk.new wd 56 #[.bool (decide (x.num < 0)), .int .u64 (lo x.num.natAbs : Int), .string (mo x.num.natAbs), .int .u64 (lo ((qden x)) : Int), .string (mo ((qden x)))], HN.out⟩
 case rest =>
 obtain ⟨rfl, g0, rfl, b0, hn0⟩ := hcut
 rename World => v0
 have HN0 := Lib.hid hn0
 have b1 := b1.below hn0 b1.lt
 have b2 := b2.below hn0 b2.lt
 have HKN : Hid (∀ w', Below v0.heap.size v0 w' → Calls Tryz.prog 18 #[] w' (Ret (.bool true) w')) := Lib.hid fun w' hb => HKN.out w' (HN0.out.trans (hb.mono HN0.out.size))
 have HOR2 : Hid (∀ w', Below v0.heap.size v0 w' → Calls Tryz.prog 34 #[.slice (some ⟨gf, 0, none⟩) m c3] w' fun e w'' => ∃ v, e = .returned v ∧ (∃ A c, v = .slice A m c) ∧ OwnRR w'' v f ∧ Below w'.heap.size w' w'') := Lib.hid fun w' hb => HOR.out w' c3 gf (OwnS.next Tryz.kindQQ HOF.out (HN0.out.trans (hb.mono HN0.out.size)))
 clear hn0 HX HREFL HOR
 go_upto_region 6 with fail
 go_cut [10] (fun v wc => v = .bool true ∧ Below v0.heap.size v0 wc)
 case first =>
  obtain ⟨b0q0, b0q1, b0q2, b0q3, b0q4⟩ := b0.c5; have c0 := b0.drew; have c0l := c0.lt; obtain ⟨b1q0, b1q1, b1q2, b1q3, b1q4⟩ := b1.c5; have c1 := b1.drew; have c1l := c1.lt; obtain ⟨b2q0, b2q1⟩ := b2.c2; have c2 := b2.drew; have c2l := c2.lt; have hc := bdrew0 v0; go_region_held3 (fun w' => w'.cell? ⟨g0, 0, none⟩ = some (.bool (decide (x.num < 0))) ∧ w'.cell? ⟨g0, 1, none⟩ = some (.int .u64 (lo x.num.natAbs : Int)) ∧ w'.cell? ⟨g0, 2, none⟩ = some (.string (mo x.num.natAbs)) ∧ w'.cell? ⟨g0, 3, none⟩ = some (.int .u64 (lo ((qden x)) : Int)) ∧ w'.cell? ⟨g0, 4, none⟩ = some (.string (mo ((qden x)))) ∧ w'.cell? ⟨gr, b * 5, none⟩ = some (.bool (decide (y.num < 0))) ∧ w'.cell? ⟨gr, b * 5 + 1, none⟩ = some (.int .u64 (lo y.num.natAbs : Int)) ∧ w'.cell? ⟨gr, b * 5 + 2, none⟩ = some (.string (mo y.num.natAbs)) ∧ w'.cell? ⟨gr, b * 5 + 3, none⟩ = some (.int .u64 (lo ((qden y)) : Int)) ∧ w'.cell? ⟨gr, b * 5 + 4, none⟩ = some (.string (mo ((qden y)))) ∧ w'.cell? ⟨gf, a, none⟩ = some (.slice (some ⟨gr, 0, none⟩) m cr)) (go_keep) (first | (go_at_call 18; (with_reducible refine (HKN.out _ hc).mono ?_); rintro e w1 ⟨rfl, hw1⟩; have c0 := c0.below hw1 c0.lt; (try clear c0q0 c0q1 c0q2 c0q3 c0q4); obtain ⟨c0q0, c0q1, c0q2, c0q3, c0q4⟩ := c0.c5; (try clear c0l); have c0l := c0.lt; have c1 := c1.below hw1 c1.lt; (try clear c1q0 c1q1 c1q2 c1q3 c1q4); obtain ⟨c1q0, c1q1, c1q2, c1q3, c1q4⟩ := c1.c5; (try clear c1l); have c1l := c1.lt; have c2 := c2.below hw1 c2.lt; (try clear c2q0 c2q1); obtain ⟨c2q0, c2q1⟩ := c2.c2; (try clear c2l); have c2l := c2.lt; have hc := bthen hc hw1) | (go_at_call 34; (with_reducible refine (HOR2.out _ hc).mono ?_); rintro e w2 ⟨v2, rfl, ⟨A2, c2c, hv2⟩, hR2, hw2⟩; subst hv2; have c0 := c0.below hw2 c0.lt; (try clear c0q0 c0q1 c0q2 c0q3 c0q4); obtain ⟨c0q0, c0q1, c0q2, c0q3, c0q4⟩ := c0.c5; (try clear c0l); have c0l := c0.lt; have c1 := c1.below hw2 c1.lt; (try clear c1q0 c1q1 c1q2 c1q3 c1q4); obtain ⟨c1q0, c1q1, c1q2, c1q3, c1q4⟩ := c1.c5; (try clear c1l); have c1l := c1.lt; have c2 := c2.below hw2 c2.lt; (try clear c2q0 c2q1); obtain ⟨c2q0, c2q1⟩ := c2.c2; (try clear c2l); have c2l := c2.lt; have hc := bthen hc hw2) | (go_at_call 33; (with_reducible refine (HST.out _ _ _ hR2).mono ?_); rintro e w3 ⟨v3, rfl, hR3, hw3⟩; obtain ⟨g3, A3, l3, c3c, A3', l3', c3c', hv3⟩ := hR3.shape; subst hv3; have c0 := c0.below hw3 c0.lt; (try clear c0q0 c0q1 c0q2 c0q3 c0q4); obtain ⟨c0q0, c0q1, c0q2, c0q3, c0q4⟩ := c0.c5; (try clear c0l); have c0l := c0.lt; have c1 := c1.below hw3 c1.lt; (try clear c1q0 c1q1 c1q2 c1q3 c1q4); obtain ⟨c1q0, c1q1, c1q2, c1q3, c1q4⟩ := c1.c5; (try clear c1l); have c1l := c1.lt; have c2 := c2.below hw3 c2.lt; (try clear c2q0 c2q1); obtain ⟨c2q0, c2q1⟩ := c2.c2; (try clear c2l); have c2l := c2.lt; have hc := bthen hc hw3) | (go_at_call 32; (with_reducible refine (HSM.out _ _ hR3).mono ?_); rintro e w4 ⟨rfl, hw4⟩; have c0 := c0.below hw4 c0.lt; (try clear c0q0 c0q1 c0q2 c0q3 c0q4); obtain ⟨c0q0, c0q1, c0q2, c0q3, c0q4⟩ := c0.c5; (try clear c0l); have c0l := c0.lt; have c1 := c1.below hw4 c1.lt; (try clear c1q0 c1q1 c1q2 c1q3 c1q4); obtain ⟨c1q0, c1q1, c1q2, c1q3, c1q4⟩ := c1.c5; (try clear c1l); have c1l := c1.lt; have c2 := c2.below hw4 c2.lt; (try clear c2q0 c2q1); obtain ⟨c2q0, c2q1⟩ := c2.c2; (try clear c2l); have c2l := c2.lt; have hR3 := (hR3.next (Nat.le_refl _) hw4).more hw4.size; have hc := bthen hc hw4) | (go_at_call 29; (with_reducible refine (HC1.out _).mono ?_); rintro e w5 ⟨rfl, hw5⟩; have c0 := c0.below hw5 c0.lt; (try clear c0q0 c0q1 c0q2 c0q3 c0q4); obtain ⟨c0q0, c0q1, c0q2, c0q3, c0q4⟩ := c0.c5; (try clear c0l); have c0l := c0.lt; have c1 := c1.below hw5 c1.lt; (try clear c1q0 c1q1 c1q2 c1q3 c1q4); obtain ⟨c1q0, c1q1, c1q2, c1q3, c1q4⟩ := c1.c5; (try clear c1l); have c1l := c1.lt; have c2 := c2.below hw5 c2.lt; (try clear c2q0 c2q1); obtain ⟨c2q0, c2q1⟩ := c2.c2; (try clear c2l); have c2l := c2.lt; have hR3 := (hR3.next (Nat.le_refl _) hw5).more hw5.size; have hc := bthen hc hw5))
  all_goals
   go_wp2
   go_meet
   exact ⟨rfl, hc⟩
 case rest =>
 obtain ⟨rfl, hbd⟩ := hcut
 have HBD := Lib.hid (HB1.out.trans ((HN0.out.trans (hbd.mono HN0.out.size)).mono HB1.out.size))
 clear hbd
 go_wp2
 go_returns
 exact ⟨rfl, HBD.out⟩
end Go.Proofs.YtecnjlcfoobepaaGreatDoor
