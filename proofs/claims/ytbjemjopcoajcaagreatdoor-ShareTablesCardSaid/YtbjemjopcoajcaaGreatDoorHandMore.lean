/-
  hand.Is, hand.SameRow, hand.Sum.
-/
import Derived.Test.YtbjemjopcoajcaaGreatDoorHandOut
import Derived.Test.YtbjemjopcoajcaaGreatDoorRefRow
import Derived.Test.YtbjemjopcoajcaaGreatDoorShareP
namespace Go.Proofs.YtbjemjopcoajcaaGreatDoor
open Go.RowKit
set_option linter.unusedSimpArgs false
set_option linter.unusedVariables false

/-- three cells of a row of the document's fractions -/
structure AtR (w : World) (g o : Nat) (r : RC) : Prop where
  c3 : w.cell? ⟨g, o, none⟩ = some (.bool r.g) ∧ w.cell? ⟨g, o + 1, none⟩ = some (.slice r.A r.l r.c) ∧ w.cell? ⟨g, o + 2, none⟩ = some (.slice r.A' r.l' r.c')
theorem AtR.lt {w : World} {g o : Nat} {r : RC} (h : AtR w g o r) : g < w.heap.size := cell_lt h.c3.1
theorem AtR.below {w w' : World} {g o B : Nat} {r : RC} (h : AtR w g o r) (hb : Below B w w') (hg : g < B) : AtR w' g o r := by
  obtain ⟨h0, h1, h2⟩ := h.c3
  refine ⟨?_⟩
  rw [hb.cell (p := ⟨g, o, none⟩) hg, hb.cell (p := ⟨g, o + 1, none⟩) hg, hb.cell (p := ⟨g, o + 2, none⟩) hg]
  exact ⟨h0, h1, h2⟩
theorem AtR.drew {w : World} {g o : Nat} {r : RC} (h : AtR w g o r) : AtR w.drew g o r := h.below (bdrew0 w) h.lt
theorem AtR.alloc {w : World} {g o : Nat} {r : RC} (h : AtR w g o r) (b : Obj) : AtR (w.alloc b) g o r := h.below (balloc1 w b) h.lt
theorem ReadsR.at_ {w : World} {B : Nat} {A : Option Addr} {n : Nat} {l : List Rat} (h : ReadsR w B A n l) {k : Nat} {x : Rat} (hx : l[k]? = some x) (hk : k < n) : ∃ ad g o r, A = some ad ∧ ad.add (k * 3) = ⟨g, o, none⟩ ∧ g < B ∧ AtR w g o r ∧ IsQ w B r.v x := by
  obtain ⟨ad, g, o, r, y, h1, h2, h3, h4, x0, x1, x2, hq⟩ := h.cells hk
  obtain rfl := Option.some.inj (hx.symm.trans h4)
  exact ⟨ad, g, o, r, h1, h2, h3, ⟨x0, x1, x2⟩, hq⟩
set_option maxRecDepth 100000 in
set_option maxHeartbeats 1000000 in
theorem same_row (A A' : Option Addr) (n c c' B B' : Nat) (l : List Rat) (w : World) (h : ReadsQ w B A n l) (h' : ReadsR w B' A' n l) (hB : B ≤ w.heap.size) (hB' : B' ≤ w.heap.size) (hn : n ≤ 1000000) (hq : ∀ x ∈ l, QS 1099511627776 x) :
    Calls Tryz.prog 14 #[.slice A n c, .slice A' n c'] w (Ret (.bool true) w) := by
  have H := Lib.hid h
  have H' := Lib.hid h'
  have HQ := Lib.hid hq
  have HLN := Lib.hid h.len
  clear h h' hq
  go_enter Tryz.func14, Tryz.ntmps14
  go_wp2_with fail
  go_loopw [5] (fun i wr => ∃ k : Nat, k ≤ n ∧ i = .int .i64 (k : Int) ∧ Below w.heap.size w wr) (fun i _ => n - (intOf i).toNat)
  case atStart => exact ⟨0, Nat.zero_le _, rfl, Below.refl _ _⟩
  case round =>
    obtain ⟨k, hk, rfl, hbel⟩ := hrel
    rename World => wr
    by_cases hkn : k < n
    · have k1 : (k : Int) < (n : Int) := by omega
      obtain ⟨x, hx⟩ : ∃ x, l[k]? = some x := ⟨_, List.getElem?_eq_getElem (by have := HLN.out; omega)⟩
      obtain ⟨ad, g, o, rfl, hP, hgB, b1⟩ := ReadsQ.at_ (H.out.below (hbel.mono hB)) hx
      obtain ⟨ad', gg, oo, r, rfl, hP', hgB', b2, hiq⟩ := (H'.out.below (hbel.mono hB')).at_ hx hkn
      have hsm : ∀ w', Below wr.heap.size wr w' → Calls Tryz.prog 24 #[qV x, r.v] w' (Ret (.bool true) w') := fun w' hb => hand_same x _ _ w' (hiq.next (Nat.le_trans hB' hbel.size) hb) (Nat.le_trans (Nat.le_trans hB' hbel.size) hb.size) (HQ.out x (List.mem_of_getElem? hx))
      unfold qV at hsm
      obtain ⟨rg, rA, rl, rc, rA', rl', rc'⟩ := r
      unfold RC.v at hsm
      simp only [] at hsm
      have HSM := Lib.hid hsm
      have HBL := Lib.hid hbel
      clear hsm hx hiq hbel
      go_upto_region 6 with fail
      obtain ⟨b1q0, b1q1, b1q2, b1q3, b1q4⟩ := b1.c5; have c1 := b1.drew; have c1l := c1.lt; obtain ⟨b2q0, b2q1, b2q2⟩ := b2.c3; have c2 := b2.drew; have c2l := c2.lt; have hc := bdrew0 wr; go_region_held3 (fun w' => w'.cell? ⟨g, o, none⟩ = some (.bool (decide (x.num < 0))) ∧ w'.cell? ⟨g, o + 1, none⟩ = some (.int .u64 (lo x.num.natAbs : Int)) ∧ w'.cell? ⟨g, o + 2, none⟩ = some (.string (mo x.num.natAbs)) ∧ w'.cell? ⟨g, o + 3, none⟩ = some (.int .u64 (lo ((qden x)) : Int)) ∧ w'.cell? ⟨g, o + 4, none⟩ = some (.string (mo ((qden x)))) ∧ w'.cell? ⟨gg, oo, none⟩ = some (.bool rg) ∧ w'.cell? ⟨gg, oo + 1, none⟩ = some (.slice rA rl rc) ∧ w'.cell? ⟨gg, oo + 2, none⟩ = some (.slice rA' rl' rc')) (go_keep) (first | (go_at_call 24; (with_reducible refine (HSM.out _ hc).mono ?_); rintro e w1 ⟨rfl, hw1⟩; have c1 := c1.below hw1 c1.lt; (try clear c1q0 c1q1 c1q2 c1q3 c1q4); obtain ⟨c1q0, c1q1, c1q2, c1q3, c1q4⟩ := c1.c5; (try clear c1l); have c1l := c1.lt; have c2 := c2.below hw1 c2.lt; (try clear c2q0 c2q1 c2q2); obtain ⟨c2q0, c2q1, c2q2⟩ := c2.c3; (try clear c2l); have c2l := c2.lt; have hc := bthen hc hw1))
      all_goals
        go_wp2
        exact ⟨⟨k + 1, by omega, by go_num, HBL.out.trans (hc.mono HBL.out.size)⟩, by simp [intOf]; omega⟩
    · obtain rfl : k = n := by omega
      have k1 : ¬ (k : Int) < (k : Int) := by omega
      have HB := Lib.hid hbel
      clear hbel
      go_wp2
      go_ret
      exact ⟨rfl, HB.out⟩
set_option maxRecDepth 100000 in
set_option maxHeartbeats 1000000 in
theorem hand_is (q : Rat) (n d : Int) (w : World) (h0 : -9223372036854775808 ≤ n) (h1 : n ≤ 9223372036854775807) (h2 : -9223372036854775808 ≤ d) (h3 : d ≤ 9223372036854775807) (hd : d ≠ 0) (hq : q = Rat.divInt n d) (hs : QS 1099511627776 q) :
    Calls Tryz.prog 34 #[qV q, .int .i64 n, .int .i64 d] w (Ret (.bool true) w) := by
  have hov := fun w => ref_over n d w h0 h1 h2 h3 hd
  have hsm := fun w V (h : IsQ w w.heap.size V q) => hand_same q _ V w h (Nat.le_refl _) hs
  rw [← hq] at hov
  unfold qV at hsm ⊢
  have HOV := Lib.hid hov
  have HSM := Lib.hid hsm
  clear hov hsm hq hs h0 h1 h2 h3 hd
  have b0 := Blk.new w  52 #[.bool (decide (q.num < 0)), .int .u64 (lo q.num.natAbs : Int), .string (mo q.num.natAbs), .int .u64 (lo ((qden q)) : Int), .string (mo ((qden q)))]; have hB := balloc1 w (.cells #[.bool (decide (q.num < 0)), .int .u64 (lo q.num.natAbs : Int), .string (mo q.num.natAbs), .int .u64 (lo ((qden q)) : Int), .string (mo ((qden q)))] 52); have hZ := Lib.hid (show (w.alloc (.cells #[.bool (decide (q.num < 0)), .int .u64 (lo q.num.natAbs : Int), .string (mo q.num.natAbs), .int .u64 (lo ((qden q)) : Int), .string (mo ((qden q)))] 52)).heap.size = w.heap.size + 1 from by simp)
  go_enter Tryz.func34, Tryz.ntmps34
  go_upto_region 1 with fail
  generalize (w.alloc (.cells #[.bool (decide (q.num < 0)), .int .u64 (lo q.num.natAbs : Int), .string (mo q.num.natAbs), .int .u64 (lo ((qden q)) : Int), .string (mo ((qden q)))] 52)) = W at *
  obtain ⟨b0q0, b0q1, b0q2, b0q3, b0q4⟩ := b0.c5; have c0 := b0.drew; have c0l := c0.lt; have hc := bdrew0 W; go_region_held3 (fun w' => w'.cell? ⟨w.heap.size, 0, none⟩ = some (.bool (decide (q.num < 0))) ∧ w'.cell? ⟨w.heap.size, 1, none⟩ = some (.int .u64 (lo q.num.natAbs : Int)) ∧ w'.cell? ⟨w.heap.size, 2, none⟩ = some (.string (mo q.num.natAbs)) ∧ w'.cell? ⟨w.heap.size, 3, none⟩ = some (.int .u64 (lo ((qden q)) : Int)) ∧ w'.cell? ⟨w.heap.size, 4, none⟩ = some (.string (mo ((qden q))))) (go_keep) (first | (go_at_call 71; (with_reducible refine (HOV.out _).mono ?_); rintro e w1 ⟨v1, rfl, hR1, hw1⟩; obtain ⟨g1, A1, l1, c1c, A1', l1', c1c', hv1⟩ := hR1.shape; subst hv1; have c0 := c0.below hw1 c0.lt; (try clear c0q0 c0q1 c0q2 c0q3 c0q4); obtain ⟨c0q0, c0q1, c0q2, c0q3, c0q4⟩ := c0.c5; (try clear c0l); have c0l := c0.lt; have hc := bthen hc hw1) | (go_at_call 24; (with_reducible refine (HSM.out _ _ hR1).mono ?_); rintro e w2 ⟨rfl, hw2⟩; have c0 := c0.below hw2 c0.lt; (try clear c0q0 c0q1 c0q2 c0q3 c0q4); obtain ⟨c0q0, c0q1, c0q2, c0q3, c0q4⟩ := c0.c5; (try clear c0l); have c0l := c0.lt; have hR1 := (hR1.next (Nat.le_refl _) hw2).more hw2.size; have hc := bthen hc hw2))
  all_goals
    go_wp2
    go_ret
    exact ⟨rfl, bthen hB hc⟩
end Go.Proofs.YtbjemjopcoajcaaGreatDoor
