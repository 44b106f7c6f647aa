import Derived.Test.YtacbcaebaomglaaGreatDoorHandOut
import Derived.Test.YtacbcaebaomglaaGreatDoorRows3
namespace Go.Proofs.YtacbcaebaomglaaGreatDoor
set_option maxRecDepth 100000
set_option maxHeartbeats 2000000
open Go.RowKit
set_option linter.all false
theorem Jhk (A A' : Option Addr) (n c c' B B' : Nat) (l : List Rat) (w : World) (h : ReadsQ w B A n l) (h' : ReadsR w B' A' n l) (hB : B <= w.heap.size) (x9 : B' <= w.heap.size) (hn : n <= 1000000) (hq : ∀ x ∈ l, QS 1099511627776 x) :
  Calls Tryz.prog 23 #[.slice A n c, .slice A' n c'] w (Ret (.bool true) w) := by
 have H := lh h
 have H' := lh h'
 have HQ := lh hq
 have HLN := lh h.len
 clear h h' hq
 go_enter Tryz.func23, Tryz.ntmps23
 go_wp2_with fail
 go_loopw [5] (fun i wr => ∃ k : Nat, k <= n /\ i = .int .i64 (k : Int) /\ Below w.heap.size w wr) (fun i _ => n - (intOf i).toNat)
 case atStart => exact ⟨0, Nat.zero_le _, rfl, Below.refl _ _⟩
 case round =>
  obtain ⟨k, hk, rfl, e8⟩ := hrel
  rename World => wr
  by_cases aH : k < n
  ·have k1 : (k : Int) < (n : Int) := by omega
   obtain ⟨x, hx⟩ : ∃ x, l[k]? = some x := ⟨_, List.getElem?_eq_getElem (by have := HLN.out; omega)⟩
   obtain ⟨ad, g, o, rfl, hP, bX, b1⟩ := ReadsQ.at_ (H.out.below (e8.mono hB)) hx
   obtain ⟨ad', gg, oo, r, rfl, bY, bE, b2, bA⟩ := (H'.out.below (e8.mono x9)).at_ hx aH
   have hsm : ∀ w', Below wr.heap.size wr w' -> Calls Tryz.prog 42 #[qV x, r.v] w' (Ret (.bool true) w') := fun w' hb => Jaz x _ _ w' (bA.next (nt x9 e8.size) hb) (nt (nt x9 e8.size) hb.size) (HQ.out x (List.mem_of_getElem? hx))
   unfold qV at hsm
   obtain ⟨rg, rA, rl, rc, rA', rl', rc'⟩ := r
   unfold RC.v at hsm
   simp only [] at hsm
   have HSM := lh hsm
   have HBL := lh e8
   clear hsm hx bA e8
   go_upto_region 6 with fail
   obtain ⟨aO, aP, bF, bG, bH⟩ := b1.c5; have c1 := b1.drew; have aA := c1.lt; obtain ⟨aQ, aR, bI⟩ := b2.c3; have c2 := b2.drew; have aB := c2.lt; have hc := Ji wr; go_region_held3 (fun w' => w'.cell? ⟨g, o, none⟩ = some (.bool (decide (x.num < 0))) /\ w'.cell? ⟨g, o + 1, none⟩ = some (.int .u64 (lo x.num.natAbs : Int)) /\ w'.cell? ⟨g, o + 2, none⟩ = some (.string (mo x.num.natAbs)) /\ w'.cell? ⟨g, o + 3, none⟩ = some (.int .u64 (lo ((qden x)) : Int)) /\ w'.cell? ⟨g, o + 4, none⟩ = some (.string (mo ((qden x)))) /\ w'.cell? ⟨gg, oo, none⟩ = some (.bool rg) /\ w'.cell? ⟨gg, oo + 1, none⟩ = some (.slice rA rl rc) /\ w'.cell? ⟨gg, oo + 2, none⟩ = some (.slice rA' rl' rc')) (go_keep) (first | (go_at_call 42; (with_reducible refine (HSM.out _ hc).mono ?_); rintro e w1 ⟨rfl, j9⟩; (try clear o8 o9 aS aT aU); obtain ⟨c1, o8, o9, aS, aT, aU⟩ := c1.zc5 j9; (try clear aA); have aA := c1.lt; (try clear p7 p8 aV); obtain ⟨c2, p7, p8, aV⟩ := c2.zc3 j9; (try clear aB); have aB := c2.lt; have hc := Ja hc j9))
   all_goals
    go_wp2
    exact ⟨⟨k + 1, by omega, by go_num, HBL.out.trans (hc.mono HBL.out.size)⟩, by simp [intOf]; omega⟩
  obtain rfl : k = n := by omega
  have k1 : ¬ (k : Int) < (k : Int) := by omega
  have HB := lh e8
  clear e8
  go_wp2
  go_ret
  exact ⟨rfl, HB.out⟩
theorem Jdd (q : Rat) (n d : Int) (w : World) (h0 : -9223372036854775808 <= n) (h1 : n <= 9223372036854775807) (h2 : -9223372036854775808 <= d) (h3 : d <= 9223372036854775807) (hd : d ≠ 0) (hq : q = Rat.divInt n d) (hs : QS 1099511627776 q) :
  Calls Tryz.prog 40 #[qV q, .int .i64 n, .int .i64 d] w (Ret (.bool true) w) := by
 have aW := fun w => Jhp n d w h0 h1 h2 h3 hd
 have hsm := fun w V (h : IsQ w w.heap.size V q) => Jaz q _ V w h zd hs
 rw [<- hq] at aW
 unfold qV at hsm ⊢
 have HOV := lh aW
 have HSM := lh hsm
 clear aW hsm hq hs h0 h1 h2 h3 hd
 obtain ⟨b0, hB, hZ⟩ := bx1 w 65 #[.bool (decide (q.num < 0)), .int .u64 (lo q.num.natAbs : Int), .string (mo q.num.natAbs), .int .u64 (lo ((qden q)) : Int), .string (mo ((qden q)))]
 go_enter Tryz.func40, Tryz.ntmps40
 go_upto_region 1 with fail
 generalize (w.alloc (.cells #[.bool (decide (q.num < 0)), .int .u64 (lo q.num.natAbs : Int), .string (mo q.num.natAbs), .int .u64 (lo ((qden q)) : Int), .string (mo ((qden q)))] 65)) = W at *
 obtain ⟨bJ, bK, bL, bM, bN⟩ := b0.c5; have c0 := b0.drew; have aI := c0.lt; have hc := Ji W; go_region_held3 (fun w' => w'.cell? ⟨w.heap.size, 0, none⟩ = some (.bool (decide (q.num < 0))) /\ w'.cell? ⟨w.heap.size, 1, none⟩ = some (.int .u64 (lo q.num.natAbs : Int)) /\ w'.cell? ⟨w.heap.size, 2, none⟩ = some (.string (mo q.num.natAbs)) /\ w'.cell? ⟨w.heap.size, 3, none⟩ = some (.int .u64 (lo ((qden q)) : Int)) /\ w'.cell? ⟨w.heap.size, 4, none⟩ = some (.string (mo ((qden q))))) (go_keep) (first | (go_at_call 27; (with_reducible refine (HOV.out _).mono ?_); rintro e w1 ⟨v1, rfl, aJ, j9⟩; obtain ⟨g1, A1, l1, c1c, A1', l1', c1c', bO⟩ := aJ.shape; subst bO; (try clear p9 q8 s9 t7 t8); obtain ⟨c0, p9, q8, s9, t7, t8⟩ := c0.zc5 j9; (try clear aI); have aI := c0.lt; have hc := Ja hc j9) | (go_at_call 42; (with_reducible refine (HSM.out _ _ aJ).mono ?_); rintro e w2 ⟨rfl, aK⟩; (try clear p9 q8 s9 t7 t8); obtain ⟨c0, p9, q8, s9, t7, t8⟩ := c0.zc5 aK; (try clear aI); have aI := c0.lt; have aJ := (aJ.next zd aK).more aK.size; have hc := Ja hc aK))
 all_goals
  go_wp2
  go_ret
  exact ⟨rfl, Ja hB hc⟩
theorem Tryz.kindRR : Kind 42 OwnR := Jo5 (by decide) (by decide)
theorem Tryz.kindQQ : Kind 31 OwnQ := Jny (by decide)
theorem Tryz.eltRR : Elt Tryz.prog 23 42 (.slice none 0 0) 24 := ⟨Tryz.underlying23, by kernel_rfl, by kernel_rfl⟩
theorem Tryz.eltQQ : Elt Tryz.prog 28 31 (.slice none 0 0) 24 := ⟨Tryz.underlying28, by kernel_rfl, by kernel_rfl⟩
abbrev Zs (w : World) (v : Value) (xl : List (List Rat)) : Prop := OwnS 42 OwnR w v xl
abbrev OwnQQ (w : World) (v : Value) (xl : List (List Rat)) : Prop := OwnS 31 OwnQ w v xl
theorem Xy {w : World} {ad : Addr} {k : Nat} {v : Value} (h : w.cell? (ad.add k) = some v) : ∃ g o, ad.add k = ⟨g, o, none⟩ /\ g = ad.block := by
 have e0 := Jar h
 have hb := Jt ad k
 cases hP : ad.add k with
 | mk g o sp =>
  rw [hP] at e0 hb
  obtain rfl : sp = none := e0
  exact ⟨g, o, rfl, hb⟩
theorem Jaf (A : Option Addr) (n c B : Nat) (xl : List (List Rat)) (w : World) (h : Zx w B A n xl) (bB : B <= w.heap.size) (hn : n <= 1000) (hl : ∀ l ∈ xl, l.length <= 1000000 /\ ∀ x ∈ l, QS 549755813888 x) (hT : Tab w) :
  Calls Tryz.prog 16 #[.slice A n c] w fun e w' => ∃ v, e = .returned v /\ OwnQQ w' v xl /\ (∀ b, v.ownBlock = some b -> w.heap.size <= b) /\ Below w.heap.size w w' := by
 have aC : xl.length = n := h.len
 have H := lh h
 have HL := lh hl
 have HT := lh hT
 have HXN := lh aC
 clear h hl hT aC
 go_enter Tryz.func16, Tryz.ntmps16
 go_wp2_with fail
 go_loopw [3, 4] (fun v i wr => ∃ k : Nat, k <= n /\ i = .int .i64 (k : Int) /\ OwnQQ wr v (xl.take k) /\ (∀ b, v.ownBlock = some b -> w.heap.size <= b) /\ Below w.heap.size w wr) (fun _ i _ => n - (intOf i).toNat)
 case atStart => exact ⟨0, by omega, rfl, OwnS.nil _ _ _, (fun b h => by cases h), Below.refl _ _⟩
 case round =>
  obtain ⟨k, hk, rfl, j0, o0, e8⟩ := hrel
  rename World => wr
  by_cases aH : k < n
  ·have k1 : (k : Int) < (n : Int) := by omega
   obtain ⟨row, hx⟩ : ∃ row, xl[k]? = some row := ⟨_, List.getElem?_eq_getElem (by have := HXN.out; omega)⟩
   obtain ⟨ad, Ar, m, cr, rfl, bP, aD, u4⟩ := (H.out.below Xf (e8.mono bB)).at_ hx
   have hm : m = row.length := u4.len.symm
   obtain ⟨o6, aE⟩ := HL.out row (List.mem_of_getElem? hx)
   have y8 : xl.take (k + 1) = xl.take k ++ [row] := by rw [List.take_add_one, hx]; rfl
   have bC := u4
   have HIN := lh (Jd5 Ar m cr B row wr bC (nt bB e8.size) (by omega) aE (HT.out.next e8))
   have HSC := lh y8
   have HO := lh j0
   have HFR := lh o0
   have HBL := lh e8
   have HMR := lh hm
   have HLK := lh (show (xl.take k).length <= 1000000 from by rw [List.length_take]; omega)
   clear hx u4 hm o6 aE y8 bC j0 o0 e8
   go_wp2_with fail
   refine HIN.out.mono ?_
   rintro e w1 ⟨v1, rfl, y9, aX, x7⟩
   rw [List.take_of_length_le (by have := HMR.out; omega)] at y9
   obtain ⟨A1, d1, rfl, _, _⟩ := OwnW.form y9
   have j7 := OwnS.next Tryz.kindQQ HO.out x7
   have e9 := HBL.out.trans (x7.mono HBL.out.size)
   clear HIN aD aX x7
   go_wp2_with (at_builtin; refine Jns Tryz.kindQQ Tryz.eltQQ rfl (.tmp 11) (.tmp 17) rfl w1 _ (xl.take k) A1 _ d1 row rfl j7 y9 rfl HLK.out ?_; intro v' w2 j6 aF)
   have j8 := e9.trans (aF.below e9.size HFR.out)
   have x8 := aF.fresh e9.size HFR.out
   rw [<- HSC.out] at j6
   exact ⟨⟨k + 1, by omega, by go_num, j6, x8, j8⟩, by simp [intOf]; omega⟩
  obtain rfl : k = n := by omega
  have k1 : ¬ (k : Int) < (k : Int) := by omega
  rw [List.take_of_length_le (by have := HXN.out; omega)] at j0
  have HO := lh j0
  have HFR := lh o0
  have HBL := lh e8
  clear j0 o0 e8
  go_wp2
  go_ret
  exact ⟨_, rfl, HO.out, HFR.out, HBL.out⟩
def Qp (zs : List Int) (m n : Nat) : List (List Rat) := (List.range n).map fun i => Ud (zs.drop (i * m)) m
theorem Jhl (zs : List Int) (m n : Nat) : Qp zs m (n + 1) = Qp zs m n ++ [Ud (zs.drop (n * m)) m] := by
 unfold Qp
 rw [List.range_succ, List.map_append]
 rfl
theorem Xp (zs : List Int) (m n : Nat) : (Qp zs m n).length = n := by simp [Qp]
theorem ReadsZ.cut {w : World} {B n : Nat} {A : Option Addr} {zs : List Int} (h : ReadsZ w B A n zs) {u c : Nat} (hu : u <= n) (hc : n <= c) : ReadsZ w B (Jb3 A c u 1) (n - u) (zs.drop u) := by
 refine ⟨?_, fun z hz => h.2 z (List.mem_of_mem_drop hz)⟩
 have := Reads.cut h.1 hu hc
 rw [Nat.mul_one, <- List.map_drop] at this
 unfold Jb3
 rw [Nat.mul_one]
 exact this
theorem Tryz.eltIntR : Elt Tryz.prog 22 3 (.int .i64 0) 8 := ⟨Tryz.underlying22, by kernel_rfl, by kernel_rfl⟩
theorem Jcm (A : Option Addr) (n c B : Nat) (zs : List Int) (k0 m : Nat) (w : World) (h : ReadsZ w B A n zs) (hB : B <= w.heap.size) (hn : n <= c) (hc : c <= 9223372036854775807) (hk : k0 <= 1000) (hm : m <= 1000) :
  Calls Tryz.prog 36 #[.slice A n c, .int .i64 (k0 : Int), .int .i64 (m : Int)] w fun e w' => ∃ v, e = .returned v /\ Zs w' v (Qp zs m k0) /\ (∀ b, v.ownBlock = some b -> w.heap.size <= b) /\ Below w.heap.size w w' := by
 have H := lh h
 have HLN := lh h.len
 clear h
 go_enter Tryz.func36, Tryz.ntmps36
 go_wp2_with fail
 go_loopw [7, 8] (fun v i wr => ∃ k : Nat, k <= k0 /\ i = .int .i64 (k : Int) /\ Zs wr v (Qp zs m k) /\ (∀ b, v.ownBlock = some b -> w.heap.size <= b) /\ Below w.heap.size w wr) (fun _ i _ => k0 - (intOf i).toNat)
 case atStart => exact ⟨0, by omega, rfl, OwnS.nil _ _ _, (fun b h => by cases h), Below.refl _ _⟩
 case round =>
  obtain ⟨k, bZ, rfl, j0, o0, e8⟩ := hrel
  rename World => wr
  by_cases aH : k < k0
  ·have k1 : (k : Int) < (k0 : Int) := by omega
   obtain ⟨km, aL⟩ : ∃ km, k * m = km := ⟨_, rfl⟩
   have cA : km <= 1000000 := by rw [<- aL]; exact nt (Nat.mul_le_mul (show k <= 1000 by omega) hm) (by omega)
   obtain ⟨u, hu⟩ : ∃ u, min n km = u := ⟨_, rfl⟩
   have bQ : u <= n := by rw [<- hu]; exact Nat.min_le_left _ _
   have e1 : (k : Int) * (m : Int) = (km : Int) := by rw [<- aL, Int.natCast_mul]
   have e2 : IntKind.i64.wrap (km : Int) = (km : Int) := IntWalk.i64_in _ (by omega)
   have e3 : min (n : Int) (km : Int) = (u : Int) := by rw [<- hu]; omega
   have hs : ∀ w, (Instr.slice 22 (.slice A n c) (some (.int .i64 (u : Int))) none none).run Tryz.prog w = .ok (.slice (Jb3 A c u 1) (n - u) (c - u)) w := fun w => by
    have := Jc9 (P := Tryz.prog) Tryz.underlying22 (Tryz.eltIntR).info A n c .i64 (u : Int) (by omega) (by omega) w
    rw [this]
    rfl
   have o7 : zs.drop u = zs.drop km := by
    rw [<- hu]
    rcases Nat.le_total n km with h | h
    ·rw [Nat.min_eq_left h, List.drop_of_length_le (by have := HLN.out; omega), List.drop_of_length_le (by have := HLN.out; omega)]
    rw [Nat.min_eq_right h]
   have y8 := Jhl zs m k
   rw [aL, <- o7] at y8
   have HRW := lh (Jh8 (Jb3 A c u 1) (n - u) (c - u) B (zs.drop u) m wr (((H.out.below (e8.mono hB)).cut bQ hn)) (nt hB e8.size) (by omega) (by omega))
   have HSC := lh y8
   have HO := lh j0
   have HFR := lh o0
   have HBL := lh e8
   have HLK := lh (show (Qp zs m k).length <= 1000000 from by rw [Xp]; omega)
   clear y8 j0 o0 e8 o7 aL hu
   go_wp2_with fail
   refine HRW.out.mono ?_
   rintro e w1 ⟨v1, rfl, y9, aX, x7⟩
   obtain ⟨A1, d1, rfl, _, _⟩ := OwnR.form y9
   have j7 := OwnS.next Tryz.kindRR HO.out x7
   have e9 := HBL.out.trans (x7.mono HBL.out.size)
   clear HRW aX x7
   go_wp2_with (at_builtin; refine Jns Tryz.kindRR Tryz.eltRR rfl (.tmp 14) (.tmp 25) rfl w1 _ (Qp zs m k) A1 _ d1 (Ud (zs.drop u) m) rfl j7 y9 rfl HLK.out ?_; intro v' w2 j6 aF)
   have j8 := e9.trans (aF.below e9.size HFR.out)
   have x8 := aF.fresh e9.size HFR.out
   rw [<- HSC.out] at j6
   exact ⟨⟨k + 1, by omega, by go_num, j6, x8, j8⟩, by simp [intOf]; omega⟩
  obtain rfl : k = k0 := by omega
  have k1 : ¬ (k : Int) < (k : Int) := by omega
  have HO := lh j0
  have HFR := lh o0
  have HBL := lh e8
  clear j0 o0 e8
  go_wp2
  go_ret
  exact ⟨_, rfl, HO.out, HFR.out, HBL.out⟩
theorem Jfb (A A' : Option Addr) (n c c' B B' : Nat) (xl : List (List Rat)) (w : World) (h : Xa w B A n xl) (h' : Zx w B' A' n xl) (hB : B <= w.heap.size) (x9 : B' <= w.heap.size) (hn : n <= 1000) (hl : ∀ l ∈ xl, l.length <= 1000000 /\ ∀ x ∈ l, QS 1099511627776 x) :
  Calls Tryz.prog 22 #[.slice A n c, .slice A' n c'] w (Ret (.bool true) w) := by
 have aC : xl.length = n := h.len
 have H := lh h
 have H' := lh h'
 have HL := lh hl
 have HXN := lh aC
 clear h h' hl aC
 go_enter Tryz.func22, Tryz.ntmps22
 go_wp2_with fail
 go_loopw [5] (fun i wr => ∃ k : Nat, k <= n /\ i = .int .i64 (k : Int) /\ Below w.heap.size w wr) (fun i _ => n - (intOf i).toNat)
 case atStart => exact ⟨0, Nat.zero_le _, rfl, Below.refl _ _⟩
 case round =>
  obtain ⟨k, hk, rfl, e8⟩ := hrel
  rename World => wr
  by_cases aH : k < n
  ·have k1 : (k : Int) < (n : Int) := by omega
   obtain ⟨row, hx⟩ : ∃ row, xl[k]? = some row := ⟨_, List.getElem?_eq_getElem (by have := HXN.out; omega)⟩
   obtain ⟨ad1, A1, m1, d1, rfl, bR, aM, aY⟩ := (H.out.below Xh (e8.mono hB)).at_ hx
   obtain ⟨ad2, A2, m2, d2, rfl, bS, aN, aZ⟩ := (H'.out.below Xf (e8.mono x9)).at_ hx
   obtain ⟨g1, o1, bT, bU⟩ := Xy aM
   obtain ⟨g2, o2, bV, bW⟩ := Xy aN
   clear bU bW
   rw [bT] at aM
   rw [bV] at aN
   obtain rfl : row.length = m1 := aY.len
   obtain rfl : row.length = m2 := aZ.len
   obtain ⟨o6, aE⟩ := HL.out row (List.mem_of_getElem? hx)
   have q1 := aY
   have q2 := aZ
   have bD := nt hB e8.size
   have aG := nt x9 e8.size
   have b1 := At1.mk' aM
   have b2 := At1.mk' aN
   have hsm : ∀ w', Below wr.heap.size wr w' -> Calls Tryz.prog 23 #[.slice A1 row.length d1, .slice A2 row.length d2] w' (Ret (.bool true) w') := fun w' hb => Jhk A1 A2 row.length d1 d2 B B' row w' (q1.below (hb.mono bD)) (q2.below (hb.mono aG)) (nt bD hb.size) (nt aG hb.size) o6 aE
   obtain ⟨m, hm⟩ : ∃ m, row.length = m := ⟨_, rfl⟩
   rw [hm] at hsm b1 b2
   have HSM := lh hsm
   have HBL := lh e8
   clear hsm hx aY aZ aM aN o6 aE q1 q2 e8 hm
   go_upto_region 6 with fail
   obtain ⟨aO, aP⟩ := b1.c2; have c1 := b1.drew; have aA := c1.lt; obtain ⟨aQ, aR⟩ := b2.c2; have c2 := b2.drew; have aB := c2.lt; have hc := Ji wr; go_region_held3 (fun w' => w'.cell? ⟨g1, o1, none⟩ = some (.slice A1 m d1) /\ w'.cell? ⟨g2, o2, none⟩ = some (.slice A2 m d2)) (go_keep) (first | (go_at_call 23; (with_reducible refine (HSM.out _ hc).mono ?_); rintro e w1 ⟨rfl, j9⟩; (try clear o8 o9); obtain ⟨c1, o8, o9⟩ := c1.zc2 j9; (try clear aA); have aA := c1.lt; (try clear p7 p8); obtain ⟨c2, p7, p8⟩ := c2.zc2 j9; (try clear aB); have aB := c2.lt; have hc := Ja hc j9))
   all_goals
    go_wp2
    exact ⟨⟨k + 1, by omega, by go_num, HBL.out.trans (hc.mono HBL.out.size)⟩, by simp [intOf]; omega⟩
  obtain rfl : k = n := by omega
  have k1 : ¬ (k : Int) < (k : Int) := by omega
  have HB := lh e8
  clear e8
  go_wp2
  go_ret
  exact ⟨rfl, HB.out⟩
