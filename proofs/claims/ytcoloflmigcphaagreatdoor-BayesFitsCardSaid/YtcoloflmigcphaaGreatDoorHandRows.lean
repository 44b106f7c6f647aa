import Derived.Test.YtcoloflmigcphaaGreatDoorHandOut
import Derived.Test.YtcoloflmigcphaaGreatDoorRows3
namespace Go.Proofs.YtcoloflmigcphaaGreatDoor
set_option maxRecDepth 100000
set_option maxHeartbeats 1000000
open Go.RowKit
set_option linter.all false
theorem Ji4 (q : Rat) (n d : Int) (w : World) (h0 : -9223372036854775808 <= n) (h1 : n <= 9223372036854775807) (h2 : -9223372036854775808 <= d) (h3 : d <= 9223372036854775807) (hd : d ≠ 0) (hq : q = Rat.divInt n d) (hs : QS 1099511627776 q) :
  Calls Tryz.prog 27 #[qV q, .int .i64 n, .int .i64 d] w (Ret (.bool true) w) := by
 have o0 := fun w => Jk0 n d w h0 h1 h2 h3 hd
 have o9 := fun w V (h : IsQ w w.heap.size V q) => Jj7 q _ V w h zd hs
 rw [<- hq] at o0
 unfold qV at o9 ⊢
 have HOV := lh o0
 have HSM := lh o9
 clear o0 o9 hq hs h0 h1 h2 h3 hd
 obtain ⟨b0, hB, hZ⟩ := bx1 w 41 #[.bool (decide (q.num < 0)), .int .u64 (lo q.num.natAbs : Int), .string (mo q.num.natAbs), .int .u64 (lo ((qden q)) : Int), .string (mo ((qden q)))]
 go_enter Tryz.func27, Tryz.ntmps27
 go_upto_region 1 with fail
 generalize (w.alloc (.cells #[.bool (decide (q.num < 0)), .int .u64 (lo q.num.natAbs : Int), .string (mo q.num.natAbs), .int .u64 (lo ((qden q)) : Int), .string (mo ((qden q)))] 41)) = W at *
 obtain ⟨p9, bA, s9, bB, bC⟩ := b0.c5; have c0 := b0.drew; have aP := c0.lt; have hc := Jt W; go_region_held3 (fun w' => w'.cell? ⟨w.heap.size, 0, none⟩ = some (.bool (decide (q.num < 0))) /\ w'.cell? ⟨w.heap.size, 1, none⟩ = some (.int .u64 (lo q.num.natAbs : Int)) /\ w'.cell? ⟨w.heap.size, 2, none⟩ = some (.string (mo q.num.natAbs)) /\ w'.cell? ⟨w.heap.size, 3, none⟩ = some (.int .u64 (lo ((qden q)) : Int)) /\ w'.cell? ⟨w.heap.size, 4, none⟩ = some (.string (mo ((qden q))))) (go_keep) (first | ((first | (go_at_call 47; (with_reducible refine (HOV.out _).mono ?_); rintro e w1 ⟨v1, rfl, aB, aA⟩; obtain ⟨g1, A1, l1, c1c, A1', l1', c1c', bD⟩ := aB.shape; subst bD) | (go_at_call 66; (with_reducible refine (HSM.out _ _ aB).mono ?_); rintro e w2 ⟨rfl, aA⟩; have aB := (aB.next zd aA).more aA.size)); (try clear j0 j6 j7 j8 j9); obtain ⟨c0, j0, j6, j7, j8, j9⟩ := c0.zc5 aA; (try clear aP); have aP := c0.lt; have hc := Ja hc aA))
 all_goals
  go_wp2
  go_ret
  exact ⟨rfl, Ja hB hc⟩
