import Derived.Test.YtecnjlcfoobepaaGreatDoorHandOut
import Derived.Test.YtecnjlcfoobepaaGreatDoorRows3
namespace Go.Proofs.YtecnjlcfoobepaaGreatDoor
set_option maxRecDepth 100000
set_option maxHeartbeats 2000000
open Go.RowKit
set_option linter.all false
theorem Jmg (q : Rat) (n d : Int) (w : World) (h0 : -9223372036854775808 <= n) (h1 : n <= 9223372036854775807) (h2 : -9223372036854775808 <= d) (h3 : d <= 9223372036854775807) (hd : d ≠ 0) (hq : q = Rat.divInt n d) (hs : QS 1099511627776 q) :
  Calls Tryz.prog 41 #[qV q, .int .i64 n, .int .i64 d] w (Ret (.bool true) w) := by
 have aE := fun w => Jir n d w h0 h1 h2 h3 hd
 have aF := fun w V (h : IsQ w w.heap.size V q) => Jc4 q _ V w h zd hs
 rw [<- hq] at aE
 unfold qV at aF ⊢
 have HOV := lh aE
 have HSM := lh aF
 clear aE aF hq hs h0 h1 h2 h3 hd
 obtain ⟨b0, hB, hZ⟩ := bx1 w 56 #[.bool (decide (q.num < 0)), .int .u64 (lo q.num.natAbs : Int), .string (mo q.num.natAbs), .int .u64 (lo ((qden q)) : Int), .string (mo ((qden q)))]
 go_enter Tryz.func41, Tryz.ntmps41
 go_upto_region 1 with fail
 generalize (w.alloc (.cells #[.bool (decide (q.num < 0)), .int .u64 (lo q.num.natAbs : Int), .string (mo q.num.natAbs), .int .u64 (lo ((qden q)) : Int), .string (mo ((qden q)))] 56)) = W at *
 obtain ⟨aM, aN, aO, aP, aQ⟩ := b0.c5; have c0 := b0.drew; have y9 := c0.lt; have hc := Jf W; go_region_held3 (fun w' => w'.cell? ⟨w.heap.size, 0, none⟩ = some (.bool (decide (q.num < 0))) /\ w'.cell? ⟨w.heap.size, 1, none⟩ = some (.int .u64 (lo q.num.natAbs : Int)) /\ w'.cell? ⟨w.heap.size, 2, none⟩ = some (.string (mo q.num.natAbs)) /\ w'.cell? ⟨w.heap.size, 3, none⟩ = some (.int .u64 (lo ((qden q)) : Int)) /\ w'.cell? ⟨w.heap.size, 4, none⟩ = some (.string (mo ((qden q))))) (go_keep) (first | (go_at_call 36; (with_reducible refine (HOV.out _).mono ?_); rintro e w1 ⟨v1, rfl, aA, aJ⟩; obtain ⟨g1, A1, l1, c1c, A1', l1', c1c', aR⟩ := aA.shape; subst aR; (try clear o5 s9 t7 t8 x8); obtain ⟨c0, o5, s9, t7, t8, x8⟩ := c0.zc5 aJ; (try clear y9); have y9 := c0.lt; have hc := Ja hc aJ) | (go_at_call 32; (with_reducible refine (HSM.out _ _ aA).mono ?_); rintro e w2 ⟨rfl, aB⟩; (try clear o5 s9 t7 t8 x8); obtain ⟨c0, o5, s9, t7, t8, x8⟩ := c0.zc5 aB; (try clear y9); have y9 := c0.lt; have aA := (aA.next zd aB).more aB.size; have hc := Ja hc aB))
 all_goals
  go_wp2
  go_ret
  exact ⟨rfl, Ja hB hc⟩
theorem Tryz.kindRR : Kind 97 OwnR := Jtd (by decide) (by decide)
theorem Tryz.kindQQ : Kind 73 OwnQ := Jrz (by decide)
theorem Tryz.eltRR : Elt Tryz.prog 23 97 (.slice none 0 0) 24 := ⟨Tryz.underlying23, by kernel_rfl, by kernel_rfl⟩
theorem Tryz.eltQQ : Elt Tryz.prog 27 73 (.slice none 0 0) 24 := ⟨Tryz.underlying27, by kernel_rfl, by kernel_rfl⟩
abbrev OwnRR (w : World) (v : Value) (xl : List (List Rat)) : Prop := OwnS 97 OwnR w v xl
abbrev OwnQQ (w : World) (v : Value) (xl : List (List Rat)) : Prop := OwnS 73 OwnQ w v xl
theorem Kd {w : World} {ad : Addr} {k : Nat} {v : Value} (h : w.cell? (ad.add k) = some v) : ∃ g o, ad.add k = ⟨g, o, none⟩ /\ g = ad.block := by
 have e0 := Uy h
 have hb := Jw ad k
 cases hP : ad.add k with
 | mk g o sp =>
  rw [hP] at e0 hb
  obtain rfl : sp = none := e0
  exact ⟨g, o, rfl, hb⟩
def Zv (zs : List Int) (m n : Nat) : List (List Rat) := (List.range n).map fun i => Vb (zs.drop (i * m)) m
theorem Jiq (zs : List Int) (m n : Nat) : Zv zs m (n + 1) = Zv zs m n ++ [Vb (zs.drop (n * m)) m] := by
 unfold Zv
 rw [List.range_succ, List.map_append]
 rfl
theorem Yr (zs : List Int) (m n : Nat) : (Zv zs m n).length = n := by simp [Zv]
theorem ReadsZ.cut {w : World} {B n : Nat} {A : Option Addr} {zs : List Int} (h : ReadsZ w B A n zs) {u c : Nat} (hu : u <= n) (hc : n <= c) : ReadsZ w B (Us A c u 1) (n - u) (zs.drop u) := by
 refine ⟨?_, fun z hz => h.2 z (List.mem_of_mem_drop hz)⟩
 have := Reads.cut h.1 hu hc
 rw [Nat.mul_one, <- List.map_drop] at this
 unfold Us
 rw [Nat.mul_one]
 exact this
theorem Tryz.eltIntR : Elt Tryz.prog 22 3 (.int .i64 0) 8 := ⟨Tryz.underlying22, by kernel_rfl, by kernel_rfl⟩
theorem Jnx (A : Option Addr) (n c B : Nat) (zs : List Int) (k0 m : Nat) (w : World) (h : ReadsZ w B A n zs) (hB : B <= w.heap.size) (hn : n <= c) (hc : c <= 9223372036854775807) (hk : k0 <= 1000) (hm : m <= 1000) :
  Calls Tryz.prog 13 #[.slice A n c, .int .i64 (k0 : Int), .int .i64 (m : Int)] w fun e w' => ∃ v, e = .returned v /\ OwnRR w' v (Zv zs m k0) /\ (∀ b, v.ownBlock = some b -> w.heap.size <= b) /\ Below w.heap.size w w' := by
 have H := lh h
 have HLN := lh h.len
 clear h
 go_enter Tryz.func13, Tryz.ntmps13
 go_wp2_with fail
 go_loopw [7, 8] (fun v i wr => ∃ k : Nat, k <= k0 /\ i = .int .i64 (k : Int) /\ OwnRR wr v (Zv zs m k) /\ (∀ b, v.ownBlock = some b -> w.heap.size <= b) /\ Below w.heap.size w wr) (fun _ i _ => k0 - (intOf i).toNat)
 case atStart => exact ⟨0, by omega, rfl, OwnS.nil _ _ _, (fun b h => by cases h), Below.refl _ _⟩
 case round =>
  obtain ⟨k, aU, rfl, j8, aC, j6⟩ := hrel
  rename World => wr
  by_cases aV : k < k0
  ·have k1 : (k : Int) < (k0 : Int) := by omega
   obtain ⟨km, aD⟩ : ∃ km, k * m = km := ⟨_, rfl⟩
   have aW : km <= 1000000 := by rw [<- aD]; exact nt (Nat.mul_le_mul (show k <= 1000 by omega) hm) (by omega)
   obtain ⟨u, hu⟩ : ∃ u, min n km = u := ⟨_, rfl⟩
   have aS : u <= n := by rw [<- hu]; exact Nat.min_le_left _ _
   have e1 : (k : Int) * (m : Int) = (km : Int) := by rw [<- aD, Int.natCast_mul]
   have e2 : IntKind.i64.wrap (km : Int) = (km : Int) := IntWalk.i64_in _ (by omega)
   have e3 : min (n : Int) (km : Int) = (u : Int) := by rw [<- hu]; omega
   have hs : ∀ w, (Instr.slice 22 (.slice A n c) (some (.int .i64 (u : Int))) none none).run Tryz.prog w = .ok (.slice (Us A c u 1) (n - u) (c - u)) w := fun w => by
    have := Jdv (P := Tryz.prog) Tryz.underlying22 (Tryz.eltIntR).info A n c .i64 (u : Int) (by omega) (by omega) w
    rw [this]
    rfl
   have j9 : zs.drop u = zs.drop km := by
    rw [<- hu]
    rcases Nat.le_total n km with h | h
    ·rw [Nat.min_eq_left h, List.drop_of_length_le (by have := HLN.out; omega), List.drop_of_length_le (by have := HLN.out; omega)]
    rw [Nat.min_eq_right h]
   have aG := Jiq zs m k
   rw [aD, <- j9] at aG
   have HRW := lh (Jpv (Us A c u 1) (n - u) (c - u) B (zs.drop u) m wr (((H.out.below (j6.mono hB)).cut aS hn)) (nt hB j6.size) (by omega) (by omega))
   have HSC := lh aG
   have HO := lh j8
   have HFR := lh aC
   have HBL := lh j6
   have HLK := lh (show (Zv zs m k).length <= 1000000 from by rw [Yr]; omega)
   clear aG j8 aC j6 j9 aD hu
   go_wp2_with fail
   refine HRW.out.mono ?_
   rintro e w1 ⟨v1, rfl, aK, aT, aH⟩
   obtain ⟨A1, d1, rfl, _, _⟩ := OwnR.form aK
   have x9 := OwnS.next Tryz.kindRR HO.out aH
   have j7 := HBL.out.trans (aH.mono HBL.out.size)
   clear HRW aT aH
   go_wp2_with (at_builtin; refine Jti Tryz.kindRR Tryz.eltRR rfl (.tmp 14) (.tmp 25) rfl w1 _ (Zv zs m k) A1 _ d1 (Vb (zs.drop u) m) rfl x9 aK rfl HLK.out ?_; intro v' w2 o0 aL)
   have y8 := j7.trans (aL.below j7.size HFR.out)
   have aI := aL.fresh j7.size HFR.out
   rw [<- HSC.out] at o0
   exact ⟨⟨k + 1, by omega, by go_num, o0, aI, y8⟩, by simp [intOf]; omega⟩
  obtain rfl : k = k0 := by omega
  have k1 : ¬ (k : Int) < (k : Int) := by omega
  have HO := lh j8
  have HFR := lh aC
  have HBL := lh j6
  clear j8 aC j6
  go_wp2
  go_ret
  exact ⟨_, rfl, HO.out, HFR.out, HBL.out⟩
