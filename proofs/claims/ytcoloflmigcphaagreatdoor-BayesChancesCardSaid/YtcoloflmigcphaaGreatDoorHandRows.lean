import Derived.Test.YtcoloflmigcphaaGreatDoorHandOut
import Derived.Test.YtcoloflmigcphaaGreatDoorRows3
namespace Go.Proofs.YtcoloflmigcphaaGreatDoor
set_option maxRecDepth 100000
set_option maxHeartbeats 1000000
open Go.RowKit
set_option linter.all false
theorem Jvr (A A' : Option Addr) (n c c' B B' : Nat) (l : List Rat) (w : World) (h : ReadsQ w B A n l) (h' : ReadsR w B' A' n l) (hB : B <= w.heap.size) (aC : B' <= w.heap.size) (hn : n <= 1000000) (hq : ∀ x ∈ l, QS 1099511627776 x) :
  Calls Tryz.prog 39 #[.slice A n c, .slice A' n c'] w (Ret (.bool true) w) := by
 have H := lh h
 have H' := lh h'
 have HQ := lh hq
 have HLN := lh h.len
 clear h h' hq
 go_enter Tryz.func39, Tryz.ntmps39
 go_wp2_with fail
 go_loopw [5] (fun i wr => ∃ k : Nat, k <= n /\ i = .int .i64 (k : Int) /\ Below w.heap.size w wr) (fun i _ => n - (intOf i).toNat)
 case atStart => exact ⟨0, Nat.zero_le _, rfl, Below.refl _ _⟩
 case round =>
  obtain ⟨k, hk, rfl, y9⟩ := hrel
  rename World => wr
  by_cases aQ : k < n
  ·have k1 : (k : Int) < (n : Int) := by omega
   obtain ⟨x, hx⟩ : ∃ x, l[k]? = some x := ⟨_, List.getElem?_eq_getElem (by have := HLN.out; omega)⟩
   obtain ⟨ad, g, o, rfl, hP, bE, b1⟩ := ReadsQ.at_ (H.out.below (y9.mono hB)) hx
   obtain ⟨ad', gg, oo, r, rfl, bF, aR, b2, aM⟩ := (H'.out.below (y9.mono aC)).at_ hx aQ
   have o9 : ∀ w', Below wr.heap.size wr w' -> Calls Tryz.prog 66 #[qV x, r.v] w' (Ret (.bool true) w') := fun w' hb => Jj7 x _ _ w' (aM.next (nt aC y9.size) hb) (nt (nt aC y9.size) hb.size) (HQ.out x (List.mem_of_getElem? hx))
   unfold qV at o9
   obtain ⟨rg, rA, rl, rc, rA', rl', rc'⟩ := r
   unfold RC.v at o9
   simp only [] at o9
   have HSM := lh o9
   have HBL := lh y9
   clear o9 hx aM y9
   go_upto_region 6 with fail
   obtain ⟨aS, aT, aU, aV, aW⟩ := b1.c5; have c1 := b1.drew; have aN := c1.lt; obtain ⟨aX, aY, aZ⟩ := b2.c3; have c2 := b2.drew; have aO := c2.lt; have hc := Jt wr; go_region_held3 (fun w' => w'.cell? ⟨g, o, none⟩ = some (.bool (decide (x.num < 0))) /\ w'.cell? ⟨g, o + 1, none⟩ = some (.int .u64 (lo x.num.natAbs : Int)) /\ w'.cell? ⟨g, o + 2, none⟩ = some (.string (mo x.num.natAbs)) /\ w'.cell? ⟨g, o + 3, none⟩ = some (.int .u64 (lo ((qden x)) : Int)) /\ w'.cell? ⟨g, o + 4, none⟩ = some (.string (mo ((qden x)))) /\ w'.cell? ⟨gg, oo, none⟩ = some (.bool rg) /\ w'.cell? ⟨gg, oo + 1, none⟩ = some (.slice rA rl rc) /\ w'.cell? ⟨gg, oo + 2, none⟩ = some (.slice rA' rl' rc')) (go_keep) (first | (go_at_call 66; (with_reducible refine (HSM.out _ hc).mono ?_); rintro e w1 ⟨rfl, aD⟩; (try clear aE aF aG aH aI); obtain ⟨c1, aE, aF, aG, aH, aI⟩ := c1.zc5 aD; (try clear aN); have aN := c1.lt; (try clear aJ aK aL); obtain ⟨c2, aJ, aK, aL⟩ := c2.zc3 aD; (try clear aO); have aO := c2.lt; have hc := Ja hc aD))
   all_goals
    go_wp2
    exact ⟨⟨k + 1, by omega, by go_num, HBL.out.trans (hc.mono HBL.out.size)⟩, by simp [intOf]; omega⟩
  obtain rfl : k = n := by omega
  have k1 : ¬ (k : Int) < (k : Int) := by omega
  have HB := lh y9
  clear y9
  go_wp2
  go_ret
  exact ⟨rfl, HB.out⟩
theorem Ji4 (q : Rat) (n d : Int) (w : World) (h0 : -9223372036854775808 <= n) (h1 : n <= 9223372036854775807) (h2 : -9223372036854775808 <= d) (h3 : d <= 9223372036854775807) (hd : d ≠ 0) (hq : q = Rat.divInt n d) (hs : QS 1099511627776 q) :
  Calls Tryz.prog 27 #[qV q, .int .i64 n, .int .i64 d] w (Ret (.bool true) w) := by
 have o0 := fun w => Jk0 n d w h0 h1 h2 h3 hd
 have o9 := fun w V (h : IsQ w w.heap.size V q) => Jj7 q _ V w h zd hs
 rw [<- hq] at o0
 unfold qV at o9 ⊢
 have HOV := lh o0
 have HSM := lh o9
 clear o0 o9 hq hs h0 h1 h2 h3 hd
 obtain ⟨b0, hB, hZ⟩ := bx1 w 41 #[.bool (decide (q.num < 0)), .int .u64 (lo q.num.natAbs : Int), .string (mo q.num.natAbs), .int .u64 (lo ((qden q)) : Int), .string (mo ((qden q)))]
 go_enter Tryz.func27, Tryz.ntmps27
 go_upto_region 1 with fail
 generalize (w.alloc (.cells #[.bool (decide (q.num < 0)), .int .u64 (lo q.num.natAbs : Int), .string (mo q.num.natAbs), .int .u64 (lo ((qden q)) : Int), .string (mo ((qden q)))] 41)) = W at *
 obtain ⟨p9, bA, s9, bB, bC⟩ := b0.c5; have c0 := b0.drew; have aP := c0.lt; have hc := Jt W; go_region_held3 (fun w' => w'.cell? ⟨w.heap.size, 0, none⟩ = some (.bool (decide (q.num < 0))) /\ w'.cell? ⟨w.heap.size, 1, none⟩ = some (.int .u64 (lo q.num.natAbs : Int)) /\ w'.cell? ⟨w.heap.size, 2, none⟩ = some (.string (mo q.num.natAbs)) /\ w'.cell? ⟨w.heap.size, 3, none⟩ = some (.int .u64 (lo ((qden q)) : Int)) /\ w'.cell? ⟨w.heap.size, 4, none⟩ = some (.string (mo ((qden q))))) (go_keep) (first | ((first | (go_at_call 47; (with_reducible refine (HOV.out _).mono ?_); rintro e w1 ⟨v1, rfl, aB, aA⟩; obtain ⟨g1, A1, l1, c1c, A1', l1', c1c', bD⟩ := aB.shape; subst bD) | (go_at_call 66; (with_reducible refine (HSM.out _ _ aB).mono ?_); rintro e w2 ⟨rfl, aA⟩; have aB := (aB.next zd aA).more aA.size)); (try clear j0 j6 j7 j8 j9); obtain ⟨c0, j0, j6, j7, j8, j9⟩ := c0.zc5 aA; (try clear aP); have aP := c0.lt; have hc := Ja hc aA))
 all_goals
  go_wp2
  go_ret
  exact ⟨rfl, Ja hB hc⟩
