import Derived.Test.YtacbcaebaomglaaGreatDoorHandOut
import Derived.Test.YtacbcaebaomglaaGreatDoorRows3
namespace Go.Proofs.YtacbcaebaomglaaGreatDoor
set_option maxRecDepth 100000
set_option maxHeartbeats 2000000
open Go.RowKit
set_option linter.all false
theorem Ve (q : Rat) (n d : Int) (w : World) (h0 : -9223372036854775808 <= n) (h1 : n <= 9223372036854775807) (h2 : -9223372036854775808 <= d) (h3 : d <= 9223372036854775807) (hd : d ≠ 0) (hq : q = Rat.divInt n d) (hs : QS 1099511627776 q) :
  Calls Tryz.prog 40 #[qV q, .int .i64 n, .int .i64 d] w (Ret (.bool true) w) := by
 have p9 := fun w => Je4 n d w h0 h1 h2 h3 hd
 have hsm := fun w V (h : IsQ w w.heap.size V q) => Jh0 q _ V w h zd hs
 rw [<- hq] at p9
 unfold qV at hsm ⊢
 have HOV := lh p9
 have HSM := lh hsm
 clear p9 hsm hq hs h0 h1 h2 h3 hd
 obtain ⟨b0, hB, hZ⟩ := bx1 w 65 #[.bool (decide (q.num < 0)), .int .u64 (lo q.num.natAbs : Int), .string (mo q.num.natAbs), .int .u64 (lo ((qden q)) : Int), .string (mo ((qden q)))]
 go_enter Tryz.func40, Tryz.ntmps40
 go_upto_region 1 with fail
 generalize (w.alloc (.cells #[.bool (decide (q.num < 0)), .int .u64 (lo q.num.natAbs : Int), .string (mo q.num.natAbs), .int .u64 (lo ((qden q)) : Int), .string (mo ((qden q)))] 65)) = W at *
 obtain ⟨y9, aA, aB, aC, aD⟩ := b0.c5; have c0 := b0.drew; have o9 := c0.lt; have hc := Jl W; go_region_held3 (fun w' => w'.cell? ⟨w.heap.size, 0, none⟩ = some (.bool (decide (q.num < 0))) /\ w'.cell? ⟨w.heap.size, 1, none⟩ = some (.int .u64 (lo q.num.natAbs : Int)) /\ w'.cell? ⟨w.heap.size, 2, none⟩ = some (.string (mo q.num.natAbs)) /\ w'.cell? ⟨w.heap.size, 3, none⟩ = some (.int .u64 (lo ((qden q)) : Int)) /\ w'.cell? ⟨w.heap.size, 4, none⟩ = some (.string (mo ((qden q))))) (go_keep) (first | (go_at_call 27; (with_reducible refine (HOV.out _).mono ?_); rintro e w1 ⟨v1, rfl, p0, t8⟩; obtain ⟨g1, A1, l1, c1c, A1', l1', c1c', aE⟩ := p0.shape; subst aE; (try clear j7 j8 j9 l5 l7); obtain ⟨c0, j7, j8, j9, l5, l7⟩ := c0.zc5 t8; (try clear o9); have o9 := c0.lt; have hc := Ja hc t8) | (go_at_call 42; (with_reducible refine (HSM.out _ _ p0).mono ?_); rintro e w2 ⟨rfl, p7⟩; (try clear j7 j8 j9 l5 l7); obtain ⟨c0, j7, j8, j9, l5, l7⟩ := c0.zc5 p7; (try clear o9); have o9 := c0.lt; have p0 := (p0.next zd p7).more p7.size; have hc := Ja hc p7))
 all_goals
  go_wp2
  go_ret
  exact ⟨rfl, Ja hB hc⟩
theorem Tryz.kindRR : Kind 42 OwnR := Jl7 (by decide) (by decide)
theorem Tryz.kindQQ : Kind 31 OwnQ := Jky (by decide)
theorem Tryz.eltQQ : Elt Tryz.prog 28 31 (.slice none 0 0) 24 := ⟨Tryz.underlying28, by kernel_rfl, by kernel_rfl⟩
abbrev Jap (w : World) (v : Value) (xl : List (List Rat)) : Prop := OwnS 42 OwnR w v xl
abbrev OwnQQ (w : World) (v : Value) (xl : List (List Rat)) : Prop := OwnS 31 OwnQ w v xl
theorem Jbl {w : World} {ad : Addr} {k : Nat} {v : Value} (h : w.cell? (ad.add k) = some v) : ∃ g o, ad.add k = ⟨g, o, none⟩ /\ g = ad.block := by
 have e0 := Jar h
 have hb := Jz ad k
 cases hP : ad.add k with
 | mk g o sp =>
  rw [hP] at e0 hb
  obtain rfl : sp = none := e0
  exact ⟨g, o, rfl, hb⟩
theorem Uq (A : Option Addr) (n c B : Nat) (xl : List (List Rat)) (w : World) (h : Jhc w B A n xl) (u4 : B <= w.heap.size) (hn : n <= 1000) (hl : ∀ l ∈ xl, l.length <= 1000000 /\ ∀ x ∈ l, QS 549755813888 x) (hT : Tab w) :
  Calls Tryz.prog 16 #[.slice A n c] w fun e w' => ∃ v, e = .returned v /\ OwnQQ w' v xl /\ (∀ b, v.ownBlock = some b -> w.heap.size <= b) /\ Below w.heap.size w w' := by
 have u5 : xl.length = n := h.len
 have H := lh h
 have HL := lh hl
 have HT := lh hT
 have HXN := lh u5
 clear h hl hT u5
 go_enter Tryz.func16, Tryz.ntmps16
 go_wp2_with fail
 go_loopw [3, 4] (fun v i wr => ∃ k : Nat, k <= n /\ i = .int .i64 (k : Int) /\ OwnQQ wr v (xl.take k) /\ (∀ b, v.ownBlock = some b -> w.heap.size <= b) /\ Below w.heap.size w wr) (fun _ i _ => n - (intOf i).toNat)
 case atStart => exact ⟨0, by omega, rfl, OwnS.nil _ _ _, (fun b h => by cases h), Below.refl _ _⟩
 case round =>
  obtain ⟨k, hk, rfl, e9, p8, e8⟩ := hrel
  rename World => wr
  by_cases aH : k < n
  ·have k1 : (k : Int) < (n : Int) := by omega
   obtain ⟨row, hx⟩ : ∃ row, xl[k]? = some row := ⟨_, List.getElem?_eq_getElem (by have := HXN.out; omega)⟩
   obtain ⟨ad, Ar, m, cr, rfl, aF, o6, o0⟩ := (H.out.below Jiw (e8.mono u4)).at_ hx
   have hm : m = row.length := o0.len.symm
   obtain ⟨q8, x7⟩ := HL.out row (List.mem_of_getElem? hx)
   have x8 : xl.take (k + 1) = xl.take k ++ [row] := by rw [List.take_add_one, hx]; rfl
   have x9 := o0
   have HIN := lh (Jgd Ar m cr B row wr x9 (nt u4 e8.size) (by omega) x7 (HT.out.next e8))
   have HSC := lh x8
   have HO := lh e9
   have HFR := lh p8
   have HBL := lh e8
   have HMR := lh hm
   have HLK := lh (show (xl.take k).length <= 1000000 from by rw [List.length_take]; omega)
   clear hx o0 hm q8 x7 x8 x9 e9 p8 e8
   go_wp2_with fail
   refine HIN.out.mono ?_
   rintro e w1 ⟨v1, rfl, q9, aG, s9⟩
   rw [List.take_of_length_le (by have := HMR.out; omega)] at q9
   obtain ⟨A1, d1, rfl, _, _⟩ := OwnW.form q9
   have o7 := OwnS.next Tryz.kindQQ HO.out s9
   have j0 := HBL.out.trans (s9.mono HBL.out.size)
   clear HIN o6 aG s9
   go_wp2_with (at_builtin; refine Jmc Tryz.kindQQ Tryz.eltQQ rfl (.tmp 11) (.tmp 17) rfl w1 _ (xl.take k) A1 _ d1 row rfl o7 q9 rfl HLK.out ?_; intro v' w2 j6 y8)
   have o8 := j0.trans (y8.below j0.size HFR.out)
   have t7 := y8.fresh j0.size HFR.out
   rw [<- HSC.out] at j6
   exact ⟨⟨k + 1, by omega, by go_num, j6, t7, o8⟩, by simp [intOf]; omega⟩
  obtain rfl : k = n := by omega
  have k1 : ¬ (k : Int) < (k : Int) := by omega
  rw [List.take_of_length_le (by have := HXN.out; omega)] at e9
  have HO := lh e9
  have HFR := lh p8
  have HBL := lh e8
  clear e9 p8 e8
  go_wp2
  go_ret
  exact ⟨_, rfl, HO.out, HFR.out, HBL.out⟩
theorem ReadsZ.cut {w : World} {B n : Nat} {A : Option Addr} {zs : List Int} (h : ReadsZ w B A n zs) {u c : Nat} (hu : u <= n) (hc : n <= c) : ReadsZ w B (Jcx A c u 1) (n - u) (zs.drop u) := by
 refine ⟨?_, fun z hz => h.2 z (List.mem_of_mem_drop hz)⟩
 have := Reads.cut h.1 hu hc
 rw [Nat.mul_one, <- List.map_drop] at this
 unfold Jcx
 rw [Nat.mul_one]
 exact this
theorem Tryz.eltIntR : Elt Tryz.prog 22 3 (.int .i64 0) 8 := ⟨Tryz.underlying22, by kernel_rfl, by kernel_rfl⟩
