import Derived.Test.YtecnjlcfoobepaaGreatDoorHandOut
import Derived.Test.YtecnjlcfoobepaaGreatDoorRefRow
import Derived.Test.YtecnjlcfoobepaaGreatDoorRows3
namespace Go.Proofs.YtecnjlcfoobepaaGreatDoor
set_option maxRecDepth 100000
set_option maxHeartbeats 2000000
open Go.RowKit
set_option linter.unusedSimpArgs false
set_option linter.unusedVariables false
theorem hand_is (q : Rat) (n d : Int) (w : World) (h0 : -9223372036854775808 <= n) (h1 : n <= 9223372036854775807) (h2 : -9223372036854775808 <= d) (h3 : d <= 9223372036854775807) (hd : d ≠ 0) (hq : q = Rat.divInt n d) (hs : QS 1099511627776 q) :
  Calls Tryz.prog 41 #[qV q, .int .i64 n, .int .i64 d] w (Ret (.bool true) w) := by
 have hov := fun w => ref_over n d w h0 h1 h2 h3 hd
 have hsm := fun w V (h : IsQ w w.heap.size V q) => hand_same q _ V w h zd hs
 rw [<- hq] at hov
 unfold qV at hsm ⊢
 have HOV := lh hov
 have HSM := lh hsm
 clear hov hsm hq hs h0 h1 h2 h3 hd
 have b0 := Blk.new w  56 #[.bool (decide (q.num < 0)), .int .u64 (lo q.num.natAbs : Int), .string (mo q.num.natAbs), .int .u64 (lo ((qden q)) : Int), .string (mo ((qden q)))]; have hB := balloc1 w (.cells #[.bool (decide (q.num < 0)), .int .u64 (lo q.num.natAbs : Int), .string (mo q.num.natAbs), .int .u64 (lo ((qden q)) : Int), .string (mo ((qden q)))] 56); have hZ := lh (show (w.alloc (.cells #[.bool (decide (q.num < 0)), .int .u64 (lo q.num.natAbs : Int), .string (mo q.num.natAbs), .int .u64 (lo ((qden q)) : Int), .string (mo ((qden q)))] 56)).heap.size = w.heap.size + 1 from by simp)
 go_enter Tryz.func41, Tryz.ntmps41
 go_upto_region 1 with fail
 generalize (w.alloc (.cells #[.bool (decide (q.num < 0)), .int .u64 (lo q.num.natAbs : Int), .string (mo q.num.natAbs), .int .u64 (lo ((qden q)) : Int), .string (mo ((qden q)))] 56)) = W at *
 obtain ⟨b0q0, b0q1, b0q2, b0q3, b0q4⟩ := b0.c5; have c0 := b0.drew; have c0l := c0.lt; have hc := bdrew0 W; go_region_held3 (fun w' => w'.cell? ⟨w.heap.size, 0, none⟩ = some (.bool (decide (q.num < 0))) /\ w'.cell? ⟨w.heap.size, 1, none⟩ = some (.int .u64 (lo q.num.natAbs : Int)) /\ w'.cell? ⟨w.heap.size, 2, none⟩ = some (.string (mo q.num.natAbs)) /\ w'.cell? ⟨w.heap.size, 3, none⟩ = some (.int .u64 (lo ((qden q)) : Int)) /\ w'.cell? ⟨w.heap.size, 4, none⟩ = some (.string (mo ((qden q))))) (go_keep) (first | (go_at_call 36; (with_reducible refine (HOV.out _).mono ?_); rintro e w1 ⟨v1, rfl, hR1, hw1⟩; obtain ⟨g1, A1, l1, c1c, A1', l1', c1c', hv1⟩ := hR1.shape; subst hv1; have c0 := c0.below hw1 c0.lt; (try clear c0q0 c0q1 c0q2 c0q3 c0q4); obtain ⟨c0q0, c0q1, c0q2, c0q3, c0q4⟩ := c0.c5; (try clear c0l); have c0l := c0.lt; have hc := bthen hc hw1) | (go_at_call 32; (with_reducible refine (HSM.out _ _ hR1).mono ?_); rintro e w2 ⟨rfl, hw2⟩; have c0 := c0.below hw2 c0.lt; (try clear c0q0 c0q1 c0q2 c0q3 c0q4); obtain ⟨c0q0, c0q1, c0q2, c0q3, c0q4⟩ := c0.c5; (try clear c0l); have c0l := c0.lt; have hR1 := (hR1.next zd hw2).more hw2.size; have hc := bthen hc hw2))
 all_goals
  go_wp2
  go_ret
  exact ⟨rfl, bthen hB hc⟩
theorem Tryz.kindRR : Kind 97 OwnR := kindR (by decide) (by decide)
theorem Tryz.kindQQ : Kind 73 OwnQ := kindQ (by decide)
theorem Tryz.eltRR : Elt Tryz.prog 23 97 (.slice none 0 0) 24 := ⟨Tryz.underlying23, by kernel_rfl, by kernel_rfl⟩
theorem Tryz.eltQQ : Elt Tryz.prog 27 73 (.slice none 0 0) 24 := ⟨Tryz.underlying27, by kernel_rfl, by kernel_rfl⟩
abbrev OwnRR (w : World) (v : Value) (xl : List (List Rat)) : Prop := OwnS 97 OwnR w v xl
abbrev OwnQQ (w : World) (v : Value) (xl : List (List Rat)) : Prop := OwnS 73 OwnQ w v xl
theorem plainAdd {w : World} {ad : Addr} {k : Nat} {v : Value} (h : w.cell? (ad.add k) = some v) : ∃ g o, ad.add k = ⟨g, o, none⟩ /\ g = ad.block := by
 have e0 := spot_none h
 have hb := block_of_add ad k
 cases hP : ad.add k with
 | mk g o sp =>
  rw [hP] at e0 hb
  obtain rfl : sp = none := e0
  exact ⟨g, o, rfl, hb⟩
theorem hand_inRows (A : Option Addr) (n c B : Nat) (xl : List (List Rat)) (w : World) (h : ReadsRR w B A n xl) (hBB : B <= w.heap.size) (hn : n <= 1000) (hl : ∀ l ∈ xl, l.length <= 1000000 /\ ∀ x ∈ l, QS 549755813888 x) (hT : Tab w) :
  Calls Tryz.prog 16 #[.slice A n c] w fun e w' => ∃ v, e = .returned v /\ OwnQQ w' v xl /\ (∀ b, v.ownBlock = some b -> w.heap.size <= b) /\ Below w.heap.size w w' := by
 have hxn : xl.length = n := h.len
 have H := lh h
 have HL := lh hl
 have HT := lh hT
 have HXN := lh hxn
 clear h hl hT hxn
 go_enter Tryz.func16, Tryz.ntmps16
 go_wp2_with fail
 go_loopw [3, 4] (fun v i wr => ∃ k : Nat, k <= n /\ i = .int .i64 (k : Int) /\ OwnQQ wr v (xl.take k) /\ (∀ b, v.ownBlock = some b -> w.heap.size <= b) /\ Below w.heap.size w wr) (fun _ i _ => n - (intOf i).toNat)
 case atStart => exact ⟨0, by omega, rfl, OwnS.nil _ _ _, (fun b h => by cases h), Below.refl _ _⟩
 case round =>
  obtain ⟨k, hk, rfl, hown, hfr, hbel⟩ := hrel
  rename World => wr
  by_cases hkn : k < n
  ·have k1 : (k : Int) < (n : Int) := by omega
   obtain ⟨row, hx⟩ : ∃ row, xl[k]? = some row := ⟨_, List.getElem?_eq_getElem (by have := HXN.out; omega)⟩
   obtain ⟨ad, Ar, m, cr, rfl, hadb, hcell, hrow⟩ := (H.out.below rkindR (hbel.mono hBB)).at_ hx
   have hm : m = row.length := hrow.len.symm
   obtain ⟨hlen, hsz⟩ := HL.out row (List.mem_of_getElem? hx)
   have hsc : xl.take (k + 1) = xl.take k ++ [row] := by rw [List.take_add_one, hx]; rfl
   have hrd := hrow
   have HIN := lh (hand_inRow Ar m cr B row wr hrd (nt hBB hbel.size) (by omega) hsz (HT.out.next hbel))
   have HSC := lh hsc
   have HO := lh hown
   have HFR := lh hfr
   have HBL := lh hbel
   have HMR := lh hm
   have HLK := lh (show (xl.take k).length <= 1000000 from by rw [List.length_take]; omega)
   clear hx hrow hm hlen hsz hsc hrd hown hfr hbel
   go_wp2_with fail
   refine HIN.out.mono ?_
   rintro e w1 ⟨v1, rfl, ho1, hf1, hb1⟩
   rw [List.take_of_length_le (by have := HMR.out; omega)] at ho1
   obtain ⟨A1, d1, rfl, _, _⟩ := OwnW.form ho1
   have hown1 := OwnS.next Tryz.kindQQ HO.out hb1
   have hbel1 := HBL.out.trans (hb1.mono HBL.out.size)
   clear HIN hcell hf1 hb1
   go_wp2_with (at_builtin; refine appS Tryz.kindQQ Tryz.eltQQ rfl (.tmp 11) (.tmp 17) rfl w1 _ (xl.take k) A1 _ d1 row rfl hown1 ho1 rfl HLK.out ?_; intro v' w2 hown2 hgr)
   have hbel2 := hbel1.trans (hgr.below hbel1.size HFR.out)
   have hfr2 := hgr.fresh hbel1.size HFR.out
   rw [<- HSC.out] at hown2
   exact ⟨⟨k + 1, by omega, by go_num, hown2, hfr2, hbel2⟩, by simp [intOf]; omega⟩
  obtain rfl : k = n := by omega
  have k1 : ¬ (k : Int) < (k : Int) := by omega
  rw [List.take_of_length_le (by have := HXN.out; omega)] at hown
  have HO := lh hown
  have HFR := lh hfr
  have HBL := lh hbel
  clear hown hfr hbel
  go_wp2
  go_ret
  exact ⟨_, rfl, HO.out, HFR.out, HBL.out⟩
def rowsOf (zs : List Int) (m n : Nat) : List (List Rat) := (List.range n).map fun i => rowOf (zs.drop (i * m)) m
theorem rowsOf_succ (zs : List Int) (m n : Nat) : rowsOf zs m (n + 1) = rowsOf zs m n ++ [rowOf (zs.drop (n * m)) m] := by
 unfold rowsOf
 rw [List.range_succ, List.map_append]
 rfl
theorem rowsOf_len (zs : List Int) (m n : Nat) : (rowsOf zs m n).length = n := by simp [rowsOf]
theorem ReadsZ.cut {w : World} {B n : Nat} {A : Option Addr} {zs : List Int} (h : ReadsZ w B A n zs) {u c : Nat} (hu : u <= n) (hc : n <= c) : ReadsZ w B (cutA A c u 1) (n - u) (zs.drop u) := by
 refine ⟨?_, fun z hz => h.2 z (List.mem_of_mem_drop hz)⟩
 have := Reads.cut h.1 hu hc
 rw [Nat.mul_one, <- List.map_drop] at this
 unfold cutA
 rw [Nat.mul_one]
 exact this
theorem Tryz.eltIntR : Elt Tryz.prog 22 3 (.int .i64 0) 8 := ⟨Tryz.underlying22, by kernel_rfl, by kernel_rfl⟩
theorem hand_rows (A : Option Addr) (n c B : Nat) (zs : List Int) (k0 m : Nat) (w : World) (h : ReadsZ w B A n zs) (hB : B <= w.heap.size) (hn : n <= c) (hc : c <= 9223372036854775807) (hk : k0 <= 1000) (hm : m <= 1000) :
  Calls Tryz.prog 13 #[.slice A n c, .int .i64 (k0 : Int), .int .i64 (m : Int)] w fun e w' => ∃ v, e = .returned v /\ OwnRR w' v (rowsOf zs m k0) /\ (∀ b, v.ownBlock = some b -> w.heap.size <= b) /\ Below w.heap.size w w' := by
 have H := lh h
 have HLN := lh h.len
 clear h
 go_enter Tryz.func13, Tryz.ntmps13
 go_wp2_with fail
 go_loopw [7, 8] (fun v i wr => ∃ k : Nat, k <= k0 /\ i = .int .i64 (k : Int) /\ OwnRR wr v (rowsOf zs m k) /\ (∀ b, v.ownBlock = some b -> w.heap.size <= b) /\ Below w.heap.size w wr) (fun _ i _ => k0 - (intOf i).toNat)
 case atStart => exact ⟨0, by omega, rfl, OwnS.nil _ _ _, (fun b h => by cases h), Below.refl _ _⟩
 case round =>
  obtain ⟨k, hk1, rfl, hown, hfr, hbel⟩ := hrel
  rename World => wr
  by_cases hkn : k < k0
  ·have k1 : (k : Int) < (k0 : Int) := by omega
   obtain ⟨km, hkm⟩ : ∃ km, k * m = km := ⟨_, rfl⟩
   have hkb : km <= 1000000 := by rw [<- hkm]; exact nt (Nat.mul_le_mul (show k <= 1000 by omega) hm) (by omega)
   obtain ⟨u, hu⟩ : ∃ u, min n km = u := ⟨_, rfl⟩
   have hun : u <= n := by rw [<- hu]; exact Nat.min_le_left _ _
   have e1 : (k : Int) * (m : Int) = (km : Int) := by rw [<- hkm, Int.natCast_mul]
   have e2 : IntKind.i64.wrap (km : Int) = (km : Int) := IntWalk.i64_in _ (by omega)
   have e3 : min (n : Int) (km : Int) = (u : Int) := by rw [<- hu]; omega
   have hs : ∀ w, (Instr.slice 22 (.slice A n c) (some (.int .i64 (u : Int))) none none).run Tryz.prog w = .ok (.slice (cutA A c u 1) (n - u) (c - u)) w := fun w => by
    have := run_cut (P := Tryz.prog) Tryz.underlying22 (Tryz.eltIntR).info A n c .i64 (u : Int) (by omega) (by omega) w
    rw [this]
    rfl
   have hdrop : zs.drop u = zs.drop km := by
    rw [<- hu]
    rcases Nat.le_total n km with h | h
    ·rw [Nat.min_eq_left h, List.drop_of_length_le (by have := HLN.out; omega), List.drop_of_length_le (by have := HLN.out; omega)]
    rw [Nat.min_eq_right h]
   have hsc := rowsOf_succ zs m k
   rw [hkm, <- hdrop] at hsc
   have HRW := lh (hand_row (cutA A c u 1) (n - u) (c - u) B (zs.drop u) m wr (((H.out.below (hbel.mono hB)).cut hun hn)) (nt hB hbel.size) (by omega) (by omega))
   have HSC := lh hsc
   have HO := lh hown
   have HFR := lh hfr
   have HBL := lh hbel
   have HLK := lh (show (rowsOf zs m k).length <= 1000000 from by rw [rowsOf_len]; omega)
   clear hsc hown hfr hbel hdrop hkm hu
   go_wp2_with fail
   refine HRW.out.mono ?_
   rintro e w1 ⟨v1, rfl, ho1, hf1, hb1⟩
   obtain ⟨A1, d1, rfl, _, _⟩ := OwnR.form ho1
   have hown1 := OwnS.next Tryz.kindRR HO.out hb1
   have hbel1 := HBL.out.trans (hb1.mono HBL.out.size)
   clear HRW hf1 hb1
   go_wp2_with (at_builtin; refine appS Tryz.kindRR Tryz.eltRR rfl (.tmp 14) (.tmp 25) rfl w1 _ (rowsOf zs m k) A1 _ d1 (rowOf (zs.drop u) m) rfl hown1 ho1 rfl HLK.out ?_; intro v' w2 hown2 hgr)
   have hbel2 := hbel1.trans (hgr.below hbel1.size HFR.out)
   have hfr2 := hgr.fresh hbel1.size HFR.out
   rw [<- HSC.out] at hown2
   exact ⟨⟨k + 1, by omega, by go_num, hown2, hfr2, hbel2⟩, by simp [intOf]; omega⟩
  obtain rfl : k = k0 := by omega
  have k1 : ¬ (k : Int) < (k : Int) := by omega
  have HO := lh hown
  have HFR := lh hfr
  have HBL := lh hbel
  clear hown hfr hbel
  go_wp2
  go_ret
  exact ⟨_, rfl, HO.out, HFR.out, HBL.out⟩
end Go.Proofs.YtecnjlcfoobepaaGreatDoor
