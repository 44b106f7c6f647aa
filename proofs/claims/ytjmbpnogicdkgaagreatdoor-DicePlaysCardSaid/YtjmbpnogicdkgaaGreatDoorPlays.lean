/-
  An argument that is a list of steps of chapter 5: what it reads as.
  The calls of chapter 5 on both sides, each in one form: what is returned, the state behind it, and that nothing else that was there has changed.
-/
import Derived.Test.YtjmbpnogicdkgaaGreatDoorRefRow
import Derived.Deep.Slices
import Derived.ChangeSlices
import Derived.ChangeArms
import Derived.Test.YtjmbpnogicdkgaaGreatDoorRefPick
import Derived.Test.YtjmbpnogicdkgaaGreatDoorDiceMore
import Derived.Test.YtjmbpnogicdkgaaGreatDoorOrder
/-! An argument that is a list of steps of chapter 5: what it reads as. -/
namespace Go.Proofs.YtjmbpnogicdkgaaGreatDoor
open Go.RowKit Go.ChangeShapes Go.WideShapes Go.Deep
set_option linter.unusedSimpArgs false
set_option linter.unusedVariables false

/-- one step, raw: its five cells, and the numbers that its slice holds -/
structure PlayD where
  what : Int
  n : Int
  k : Int
  A : Option Addr
  na : Nat
  ca : Nat
  s : ByteArray
  zs : List Int
instance : Inhabited PlayD := ⟨⟨0, 0, 0, none, 0, 0, ⟨#[]⟩, []⟩⟩
def playC (x : PlayD) : List Value := [.int .i64 x.what, .int .i64 x.n, .int .i64 x.k, .slice x.A x.na x.ca, .string x.s]
theorem playC_len (x : PlayD) : (playC x).length = 5 := rfl
structure PlayOK (w : World) (B : Nat) (x : PlayD) : Prop where
  w0 : -9223372036854775808 ≤ x.what
  w1 : x.what ≤ 9223372036854775807
  n0 : -9223372036854775808 ≤ x.n
  n1 : x.n ≤ 9223372036854775807
  k0 : -9223372036854775808 ≤ x.k
  k1 : x.k ≤ 9223372036854775807
  hr : ReadsZ w B x.A x.na x.zs
  na : x.na ≤ 9223372036854775807
  hs : x.s.size ≤ 9223372036854775807
theorem PlayOK.below {w w' : World} {B : Nat} {x : PlayD} (h : PlayOK w B x) (hb : Below B w w') : PlayOK w' B x :=
  ⟨h.w0, h.w1, h.n0, h.n1, h.k0, h.k1, h.hr.below hb, h.na, h.hs⟩
theorem PlayS.cells {w : World} {B : Nat} {A : Option Addr} {n : Nat} {l : List PlayD} (h : ReadsW w B 5 playC A n l) {k : Nat} (hk : k < n) :
    ∃ ad g o x, A = some ad ∧ ad.add (k * 5) = ⟨g, o, none⟩ ∧ g < B ∧ l[k]? = some x ∧ w.cell? ⟨g, o, none⟩ = some (.int .i64 (PlayD.what x)) ∧ w.cell? ⟨g, o + 1, none⟩ = some (.int .i64 x.n) ∧
      w.cell? ⟨g, o + 2, none⟩ = some (.int .i64 x.k) ∧ w.cell? ⟨g, o + 3, none⟩ = some (.slice x.A x.na x.ca) ∧ w.cell? ⟨g, o + 4, none⟩ = some (.string x.s) := by
  obtain ⟨ad, x, h1, h2, h3, h4⟩ := h.at_ playC_len hk
  have c0 := h4 0 _ rfl
  have e0 := spot_none c0
  rw [Nat.add_zero] at c0 e0
  have hb := block_of_add ad (k * 5)
  have hc : ∀ j u, (playC x)[j + 1]? = some u → w.cell? ((ad.add (k * 5)).add (j + 1)) = some u := fun j u hu => by rw [add_of_add]; exact h4 (j + 1) u hu
  cases hP : ad.add (k * 5) with
  | mk g o sp =>
    rw [hP] at c0 e0 hb hc
    obtain rfl : sp = none := e0
    exact ⟨ad, g, o, x, h1, hP, by have : g = ad.block := hb; omega, h3, c0, hc 0 _ rfl, hc 1 _ rfl, hc 2 _ rfl, hc 3 _ rfl⟩
theorem flatW_inv' {α : Type} {k : Nat} {f : α → List Value} (hf : ∀ a, (f a).length = k) (hk : 0 < k) (l : List α) (j : Nat) (u : Value) (h : (l.flatMap f)[j]? = some u) : ∃ i r x, j = i * k + r ∧ r < k ∧ l[i]? = some x ∧ (f x)[r]? = some u := by
  have hj : j < l.length * k := by
    have := (List.getElem?_eq_some_iff.1 h).1
    rwa [flatW_len hf] at this
  have hi : j / k < l.length := by rw [Nat.div_lt_iff_lt_mul hk]; exact hj
  have hr : j % k < k := Nat.mod_lt _ hk
  have hx : l[j / k]? = some l[j / k] := List.getElem?_eq_getElem hi
  have e : j = j / k * k + j % k := by rw [Nat.mul_comm]; exact (Nat.div_add_mod j k).symm
  refine ⟨j / k, j % k, l[j / k], e, hr, hx, ?_⟩
  rw [← flatW_at hf l (j / k) (j % k) _ hx hr, ← e]
  exact h
theorem row_zs {w : World} {a : Option Addr} {len cap : Nat} {zs : List Int} (h : IsRow .i64 w a len cap zs) : ∃ l, ReadsZ w w.heap.size a len l ∧ len ≤ 9223372036854775807 := by
  rcases h with ⟨rfl, rfl, rfl, rfl⟩ | ⟨x, rfl, hl, hm, hz, hc, hw⟩
  · exact ⟨[], ⟨Reads.none_, fun z hz => by cases hz⟩, by omega⟩
  · refine ⟨zs.take len, ⟨⟨by simp [hz]; omega, fun hn => ⟨x, rfl, ?_, fun j u hu => ?_⟩⟩, fun z hz => bounds_i64 (hw z (List.mem_of_mem_take hz))⟩, by unfold maxLen at hm; omega⟩
    · have := cell_lt (hc 0 (by omega))
      rw [block_of_add] at this
      exact this
    · have hj : j < len := by
        have := (List.getElem?_eq_some_iff.1 hu).1
        simp at this
        omega
      rw [hc j (by omega)]
      rw [List.getElem?_map, List.getElem?_take, if_pos hj] at hu
      rw [List.getD_eq_getElem?_getD]
      cases hzj : zs[j]? with
      | none => rw [hzj] at hu; cases hu
      | some z =>
        rw [hzj] at hu
        simpa [zv] using hu
section
variable {H : Type} {enc : TypeId × Value → H}
theorem open_nums {W : World} {base n : Nat} {v : Value} {y : DataW H × List MemPlace} (h : DataW.trod enc Tryz.prog W base (fun _ => true) true n 43 [v] = some y) :
    ∃ A m c l, v = .slice A m c ∧ ReadsZ W W.heap.size A m l ∧ m ≤ 9223372036854775807 := by
  rcases open_ints Tryz.underlying43 Tryz.underlying3 (by kernel_rfl) h with ⟨hcs, _⟩ | ⟨x, l, c, zs, hcs, _, hl, hm, hz, _, hcell, hwz⟩
  · obtain rfl : v = .slice none 0 0 := by simpa using hcs
    exact ⟨none, 0, 0, [], rfl, ⟨Reads.none_, fun z hz => by cases hz⟩, by omega⟩
  · obtain rfl : v = .slice (some x) l c := by simpa using hcs
    have hr : IsRow .i64 W (some x) l c zs := .inr ⟨_, rfl, hl, hm, by simpa using hz, hcell, hwz⟩
    obtain ⟨bs, h1, h2⟩ := row_zs hr
    exact ⟨_, _, _, bs, rfl, h1, h2⟩
theorem cellsPlay : Tryz.prog.cellsOf 90 = 5 := by kernel_rfl
set_option maxRecDepth 100000 in
theorem open_play {W : World} {base n : Nat} {cs : List Value} {y : DataW H × List MemPlace} (h : DataW.trod enc Tryz.prog W base (fun _ => true) true n 90 cs = some y) :
    ∃ x : PlayD, cs = playC x ∧ PlayOK W W.heap.size x := by
  obtain ⟨xs, m, _, _, hl, hlen, hf⟩ := DataW.trod_struct Tryz.underlying90 h
  rw [cellsPlay] at hl
  have e0 : Tryz.prog.cellsOf 3 = 1 := by kernel_rfl
  have e1 : Tryz.prog.cellsOf 43 = 1 := by kernel_rfl
  have e3 : Tryz.prog.cellsOf 9 = 1 := by kernel_rfl
  have hlen5 : xs.length = 5 := hlen
  clear hlen
  match cs, hl with
  | [c0, c1, c2, c3, c4], _ =>
    match xs, hlen5 with
    | [y0, y1, y2, y3, y4], _ =>
      have h0 : DataW.trod enc Tryz.prog W base (fun _ => true) true m 3 (([c0, c1, c2, c3, c4].drop 0).take (Tryz.prog.cellsOf 3)) = some y0 := hf 0 _ rfl
      have h1 : DataW.trod enc Tryz.prog W base (fun _ => true) true m 3 (([c0, c1, c2, c3, c4].drop 1).take (Tryz.prog.cellsOf 3)) = some y1 := hf 1 _ rfl
      have h2 : DataW.trod enc Tryz.prog W base (fun _ => true) true m 3 (([c0, c1, c2, c3, c4].drop 2).take (Tryz.prog.cellsOf 3)) = some y2 := hf 2 _ rfl
      have h3 : DataW.trod enc Tryz.prog W base (fun _ => true) true m 43 (([c0, c1, c2, c3, c4].drop 3).take (Tryz.prog.cellsOf 43)) = some y3 := hf 3 _ rfl
      have h4 : DataW.trod enc Tryz.prog W base (fun _ => true) true m 9 (([c0, c1, c2, c3, c4].drop 4).take (Tryz.prog.cellsOf 9)) = some y4 := hf 4 _ rfl
      simp only [e0, e1, e3, List.getElem?_cons_zero, List.getElem?_cons_succ, List.drop_zero, List.drop_succ_cons, List.take_succ_cons, List.take_zero] at h0 h1 h2 h3 h4
      obtain ⟨z0, g0, _, k0⟩ := DataW.trod_int Tryz.underlying3 h0
      obtain ⟨z1, g1, _, k1⟩ := DataW.trod_int Tryz.underlying3 h1
      obtain ⟨z2, g2, _, k2⟩ := DataW.trod_int Tryz.underlying3 h2
      obtain ⟨A3, n3, m3, l3, g3, b3, d3⟩ := open_nums h3
      obtain ⟨z4, g4, _, k4⟩ := DataW.trod_string Tryz.underlying9 h4
      simp only [List.cons.injEq, and_true] at g0 g1 g2 g4
      subst g0; subst g1; subst g2; subst g3; subst g4
      have q0 := bounds_i64 k0
      have q1 := bounds_i64 k1
      have q2 := bounds_i64 k2
      have q4 : z4.size ≤ 9223372036854775807 := by unfold maxLen at k4; omega
      exact ⟨⟨z0, z1, z2, A3, n3, m3, z4, l3⟩, rfl, ⟨q0.1, q0.2, q1.1, q1.2, q2.1, q2.2, b3, d3, q4⟩⟩
theorem open_plays {W : World} {A : Option Addr} {n c : Nat} {d : DataW H} {p : List MemPlace} (h : DataW.Trod enc Tryz.prog W 0 (fun _ => true) true 85 (.slice A n c) d p) :
    ∃ l : List PlayD, ReadsW W W.heap.size 5 playC A n l ∧ (∀ x ∈ l, PlayOK W W.heap.size x) ∧ n ≤ 9223372036854775807 := by
  obtain ⟨fuel, hf⟩ := h
  rcases open_slice Tryz.underlying85 hf with ⟨hcs, _⟩ | ⟨a, len, cap, m, k, D, Pl, hcs, hb, hl, hm, hmm, hx, hi⟩
  · simp [Value.cells] at hcs
    obtain ⟨rfl, rfl, rfl⟩ := hcs
    exact ⟨[], ReadsW.nil, (fun x hx => by cases hx), by omega⟩
  · simp [Value.cells] at hcs
    obtain ⟨rfl, rfl, rfl⟩ := hcs
    simp only [if_true] at hmm
    subst hmm
    rw [cellsPlay] at hi
    obtain ⟨F, hF⟩ := choose_lt (α := PlayD) (p := fun i x => (∀ j u, (playC x)[j]? = some u → W.cell? (a.add (i * 5 + j)) = some u) ∧ PlayOK W W.heap.size x) (n := n) (fun i hin => by
      obtain ⟨cs', h1, h2⟩ := hi i (by omega)
      obtain ⟨x, rfl, hok⟩ := open_play h2
      refine ⟨x, fun j u hu => ?_, hok⟩
      obtain ⟨_, hcl, hat⟩ := World.cells?_some h1
      have hj : j < 5 := (List.getElem?_eq_some_iff.1 hu).1
      have := hat j hj
      rw [Go.Deep.add_add] at this
      rw [this]
      simpa using hu)
    refine ⟨(List.range n).map F, ⟨by simp, ?_⟩, fun x hx => ?_, by unfold maxLen at hm; omega⟩
    · refine ⟨by rw [flatW_len playC_len]; simp, fun hn => ⟨a, rfl, ?_, fun j u hu => ?_⟩⟩
      · have h0 := (hF 0 hn).1 0 _ rfl
        have := cell_lt h0
        rwa [block_of_add] at this
      · obtain ⟨i, r, x, rfl, hr, hx, hu⟩ := flatW_inv' playC_len (by omega) _ j u hu
        have hin : i < n := by
          have := (List.getElem?_eq_some_iff.1 hx).1
          simpa using this
        rw [List.getElem?_map, List.getElem?_range hin] at hx
        simp only [Option.map_some, Option.some.injEq] at hx
        subst hx
        exact (hF i hin).1 r u hu
    · obtain ⟨i, hi2, rfl⟩ := List.mem_map.1 hx
      exact (hF i (by simpa using hi2)).2
end
end Go.Proofs.YtjmbpnogicdkgaaGreatDoor

/-! The calls of chapter 5 on both sides, each in one form: what is returned, the state behind it, and that nothing else that was there has changed. -/
namespace Go.Proofs.YtjmbpnogicdkgaaGreatDoor
open Go.RowKit
set_option linter.unusedSimpArgs false
set_option linter.unusedVariables false

theorem exc_of_set {b : Nat} {w w' : World} {v : Value} (h : Below w.heap.size (w.setCell ⟨b, 0, none⟩ v) w') : Exc b w w' :=
  ⟨h.os, h.tape, h.output, by have := h.size; rwa [World.size_setCell] at this, fun k hk hb => (h.block k hk).trans (Below.heap_setCell w _ _ k hb)⟩
/-- the call on the die at block b (of type t, its state s) returns v and leaves it in the state s' -/
def Plays (t : TypeId) (b : Nat) (v : Value) (s' : Nat) (w : World) (e : Ending) (w' : World) : Prop := e = .returned v ∧ Blk w' b t #[.int .u64 (s' : Int)] ∧ Exc b w w'
/-- the same, for calls that return numbers in memory -/
def PlaysL (t : TypeId) (b : Nat) (l : List Nat) (s' : Nat) (w : World) (e : Ending) (w' : World) : Prop := ∃ A c, e = .returned (.slice A l.length c) ∧ Reads w' w'.heap.size 1 A l.length (l.map iv) ∧ Blk w' b t #[.int .u64 (s' : Int)] ∧ Exc b w w'
noncomputable def belowZ (z : Int) (s : Nat) : Nat × Nat := if z < 1 then (0, s) else Dice.below z.toNat s
noncomputable def orderZ (z : Int) (s : Nat) : List Nat × Nat := if z < 1 then ([], s) else Dice.order z.toNat s
noncomputable def drawZ (z y : Int) (s : Nat) : List Nat × Nat := if z < 1 ∨ y < 1 then ([], s) else Dice.draws z.toNat y.toNat s
theorem belowZ_state (z : Int) (s : Nat) (hs : s < 18446744073709551616) : (belowZ z s).2 < 18446744073709551616 := by
  unfold belowZ
  split
  · exact hs
  · exact Dice.below_state _ _ hs
theorem orderZ_state (z : Int) (s : Nat) (hs : s < 18446744073709551616) : (orderZ z s).2 < 18446744073709551616 := by
  unfold orderZ
  split
  · exact hs
  · exact Dice.order_state _ _ hs
theorem drawZ_state (z y : Int) (s : Nat) (hs : s < 18446744073709551616) : (drawZ z y s).2 < 18446744073709551616 := by
  unfold drawZ
  split
  · exact hs
  · exact Dice.draws_state _ _ _ hs
theorem shuffle_len (i : Nat) : ∀ (l : List Nat) (s : Nat), (Dice.shuffle i l s).1.length = l.length := by
  induction i with
  | zero => intro l s; rw [Dice.shuffle_zero]
  | succ i ih => intro l s; rw [Dice.shuffle_succ, ih, Dice.swapL_len]
theorem order_len (n s : Nat) : (Dice.order n s).1.length = n := by
  unfold Dice.order
  rw [shuffle_len, List.length_range]
section
variable {b s : Nat} {w : World}
theorem play_next (hs : s < 18446744073709551616) (hd : Blk w b 125 #[.int .u64 (s : Int)]) : Calls Tryz.prog 44 #[.pointer (some ⟨b, 0, none⟩)] w (Plays 125 b (.int .u64 ((Dice.next s : Nat) : Int)) (Dice.step s) w) :=
  (dice_next b s w hs (hd.cell 0) (hd.frozen 0)).mono fun e w' ⟨h1, h2⟩ => ⟨h1, by rw [← h2]; simpa using hd.set_ 0 (.int .u64 ((Dice.step s : Nat) : Int)), by rw [← h2]; exact (Exc.refl b w).set_ 0 _⟩
theorem rplay_next (hs : s < 18446744073709551616) (hd : Blk w b 88 #[.int .u64 (s : Int)]) : Calls Tryz.prog 45 #[.pointer (some ⟨b, 0, none⟩)] w (Plays 88 b (.int .u64 ((Dice.next s : Nat) : Int)) (Dice.step s) w) :=
  (rd_next b s w hs (hd.cell 0) (hd.frozen 0)).mono fun e w' ⟨h1, h2⟩ => ⟨h1, by rw [← h2]; simpa using hd.set_ 0 (.int .u64 ((Dice.step s : Nat) : Int)), by rw [← h2]; exact (Exc.refl b w).set_ 0 _⟩
theorem play_below (z : Int) (hs : s < 18446744073709551616) (hz : z ≤ 9223372036854775807) (hd : Blk w b 125 #[.int .u64 (s : Int)]) : Calls Tryz.prog 46 #[.pointer (some ⟨b, 0, none⟩), .int .i64 z] w (Plays 125 b (.int .i64 (((belowZ z s).1 : Nat) : Int)) (belowZ z s).2 w) := by
  unfold belowZ
  by_cases h : z < 1
  · rw [if_pos h]
    exact (dice_below_none b z w h).mono fun e w' ⟨h1, h2⟩ => ⟨h1, by rw [← h2]; exact hd, by rw [← h2]; exact Exc.refl b w⟩
  · rw [if_neg h]
    obtain ⟨n, rfl⟩ := Int.eq_ofNat_of_zero_le (show 0 ≤ z by omega)
    rw [Int.toNat_natCast]
    exact (dice_below b s n w hs (by omega) (by omega) hd).mono fun e w' ⟨h1, h2⟩ => ⟨h1, by rw [← h2]; simpa using hd.set_ 0 (.int .u64 (((Dice.below n s).2 : Nat) : Int)), by rw [← h2]; exact (Exc.refl b w).set_ 0 _⟩
theorem rplay_below (z : Int) (hs : s < 18446744073709551616) (hz : z ≤ 9223372036854775807) (hd : Blk w b 88 #[.int .u64 (s : Int)]) : Calls Tryz.prog 47 #[.pointer (some ⟨b, 0, none⟩), .int .i64 z] w (Plays 88 b (.int .i64 (((belowZ z s).1 : Nat) : Int)) (belowZ z s).2 w) := by
  unfold belowZ
  by_cases h : z < 1
  · rw [if_pos h]
    exact (rd_below_none b z w h).mono fun e w' ⟨h1, h2⟩ => ⟨h1, by rw [← h2]; exact hd, by rw [← h2]; exact Exc.refl b w⟩
  · rw [if_neg h]
    obtain ⟨n, rfl⟩ := Int.eq_ofNat_of_zero_le (show 0 ≤ z by omega)
    rw [Int.toNat_natCast]
    exact (rd_below b s n w hs (by omega) (by omega) hd).mono fun e w' ⟨h1, h2⟩ => ⟨h1, by rw [← h2]; simpa using hd.set_ 0 (.int .u64 (((Dice.below n s).2 : Nat) : Int)), by rw [← h2]; exact (Exc.refl b w).set_ 0 _⟩
theorem play_order (z : Int) (hs : s < 18446744073709551616) (hz : z ≤ 65536) (hd : Blk w b 125 #[.int .u64 (s : Int)]) : Calls Tryz.prog 49 #[.pointer (some ⟨b, 0, none⟩), .int .i64 z] w (PlaysL 125 b (orderZ z s).1 (orderZ z s).2 w) := by
  unfold orderZ
  by_cases h : z < 1
  · rw [if_pos h]
    exact (dice_order_none b z w h).mono fun e w' ⟨h1, h2⟩ => ⟨none, 0, h1, Reads.none_, by rw [← h2]; exact hd, by rw [← h2]; exact Exc.refl b w⟩
  · rw [if_neg h]
    obtain ⟨n, rfl⟩ := Int.eq_ofNat_of_zero_le (show 0 ≤ z by omega)
    rw [Int.toNat_natCast]
    refine (dice_order b s n w hs (by omega) (by omega) hd).mono fun e w' ⟨h1, h2, h3, h4⟩ => ⟨_, n, by rw [order_len]; exact h1, h2.reads.more h2.lt, h3, exc_of_set h4⟩
theorem rplay_order (z : Int) (hs : s < 18446744073709551616) (hz : z ≤ 65536) (hd : Blk w b 88 #[.int .u64 (s : Int)]) : Calls Tryz.prog 50 #[.pointer (some ⟨b, 0, none⟩), .int .i64 z] w (PlaysL 88 b (orderZ z s).1 (orderZ z s).2 w) := by
  unfold orderZ
  by_cases h : z < 1
  · rw [if_pos h]
    exact (rd_order_none b z w h).mono fun e w' ⟨h1, h2⟩ => ⟨none, 0, h1, Reads.none_, by rw [← h2]; exact hd, by rw [← h2]; exact Exc.refl b w⟩
  · rw [if_neg h]
    obtain ⟨n, rfl⟩ := Int.eq_ofNat_of_zero_le (show 0 ≤ z by omega)
    rw [Int.toNat_natCast]
    refine (rd_order b s n w hs (by omega) (by omega) hd).mono fun e w' ⟨h1, h2, h3, h4⟩ => ⟨_, n, by rw [order_len]; exact h1, h2.reads.more h2.lt, h3, exc_of_set h4⟩
theorem play_draw_none (z y : Int) (h : z < 1 ∨ y < 1) :
    Calls Tryz.prog 51 #[.pointer (some ⟨b, 0, none⟩), .int .i64 z, .int .i64 y] w fun e w' => e = .returned (.slice none 0 0) ∧ w = w' := by
  by_cases hz : z < 1
  · go_enter Tryz.func51, Tryz.ntmps51
    go_wp2
    go_ret
    exact ⟨rfl, rfl⟩
  · have hy : y < 1 := h.resolve_left hz
    have hz1 : decide (z < 1) = false := decide_eq_false hz
    have hy1 : decide (y < 1) = true := decide_eq_true hy
    go_enter Tryz.func51, Tryz.ntmps51
    go_wp2
    go_ret
    exact ⟨rfl, rfl⟩
theorem rplay_draw_none (z y : Int) (h : z < 1 ∨ y < 1) :
    Calls Tryz.prog 52 #[.pointer (some ⟨b, 0, none⟩), .int .i64 z, .int .i64 y] w fun e w' => e = .returned (.slice none 0 0) ∧ w = w' := by
  by_cases hz : z < 1
  · exact rd_draw_none b z y w hz
  · have hy : y < 1 := h.resolve_left hz
    have hz1 : decide (z < 1) = false := decide_eq_false hz
    have hy1 : decide (65536 < y) = false := decide_eq_false (by omega)
    have hy2 : ¬ (0 : Int) < y := by omega
    go_enter Tryz.func52, Tryz.ntmps52
    go_wp2
    go_loopw [7, 8] (fun v i wr => v = .slice none 0 0 ∧ i = .int .i64 0 ∧ wr = w) (fun _ i _ => 0)
    case atStart => exact ⟨rfl, rfl, rfl⟩
    case round =>
      obtain ⟨rfl, rfl, rfl⟩ := hrel
      go_wp2
      go_ret
      exact ⟨rfl, rfl⟩
theorem play_draw (z y : Int) (hs : s < 18446744073709551616) (hz : z ≤ 9223372036854775807) (hy : y ≤ 65536) (hd : Blk w b 125 #[.int .u64 (s : Int)]) : Calls Tryz.prog 51 #[.pointer (some ⟨b, 0, none⟩), .int .i64 z, .int .i64 y] w (PlaysL 125 b (drawZ z y s).1 (drawZ z y s).2 w) := by
  unfold drawZ
  by_cases h : z < 1 ∨ y < 1
  · rw [if_pos h]
    exact (play_draw_none z y h).mono fun e w' ⟨h1, h2⟩ => ⟨none, 0, h1, Reads.none_, by rw [← h2]; exact hd, by rw [← h2]; exact Exc.refl b w⟩
  · rw [if_neg h]
    obtain ⟨n, rfl⟩ := Int.eq_ofNat_of_zero_le (show 0 ≤ z by omega)
    obtain ⟨k, rfl⟩ := Int.eq_ofNat_of_zero_le (show 0 ≤ y by omega)
    rw [Int.toNat_natCast, Int.toNat_natCast]
    refine (dice_draw b s n k w hs (by omega) (by omega) (by omega) (by omega) hd).mono fun e w' ⟨h1, h2, h3, h4⟩ => ⟨_, k, by rw [Dice.draws_len]; exact h1, h2.reads.more h2.lt, h3, exc_of_set h4⟩
theorem rplay_draw (z y : Int) (hs : s < 18446744073709551616) (hz : z ≤ 9223372036854775807) (hy : y ≤ 65536) (hd : Blk w b 88 #[.int .u64 (s : Int)]) : Calls Tryz.prog 52 #[.pointer (some ⟨b, 0, none⟩), .int .i64 z, .int .i64 y] w (PlaysL 88 b (drawZ z y s).1 (drawZ z y s).2 w) := by
  unfold drawZ
  by_cases h : z < 1 ∨ y < 1
  · rw [if_pos h]
    exact (rplay_draw_none z y h).mono fun e w' ⟨h1, h2⟩ => ⟨none, 0, h1, Reads.none_, by rw [← h2]; exact hd, by rw [← h2]; exact Exc.refl b w⟩
  · rw [if_neg h]
    obtain ⟨n, rfl⟩ := Int.eq_ofNat_of_zero_le (show 0 ≤ z by omega)
    obtain ⟨k, rfl⟩ := Int.eq_ofNat_of_zero_le (show 0 ≤ y by omega)
    rw [Int.toNat_natCast, Int.toNat_natCast]
    refine (rd_draw b s n k w hs (by omega) (by omega) (by omega) hd).mono fun e w' ⟨v, h1, h2, _, h3, h4⟩ => ?_
    obtain ⟨A, c, hv, _, _⟩ := h2.form
    subst hv
    exact ⟨A, c, h1, Own.reads h2, h3, exc_of_set h4⟩
end
theorem pickRes_same {l : List Rat} {u i i' : Nat} {o o' : Bool} (h : PickRes l u i o) (h' : PickRes l u i' o') : i = i' ∧ o = o' := by
  rcases h with ⟨a1, a2, a3, a4⟩ | ⟨a1, a2, a3⟩
  · rcases h' with ⟨b1, b2, b3, b4⟩ | ⟨b1, b2, b3⟩
    · refine ⟨?_, by rw [a1, b1]⟩
      rcases Nat.lt_trichotomy i i' with h | h | h
      · exact absurd a3 (b4 i h)
      · exact h
      · exact absurd b3 (a4 i' h)
    · exact absurd a3 (b3 i a2)
  · rcases h' with ⟨b1, b2, b3, b4⟩ | ⟨b1, b2, b3⟩
    · exact absurd b3 (a3 i' b2)
    · exact ⟨by rw [a2, b2], by rw [a1, b1]⟩
/-- both picks answer the same -/
theorem picks_alike {b r s : Nat} {l : List Rat} {w w1 w2 w3 : World} {e e' : Ending} (h : PickPost b s l w e w1) (h' : RPickPost r s l w2 e' w3) (hd : Blk w b 125 #[.int .u64 (s : Int)]) (hr : Blk w2 r 88 #[.int .u64 (s : Int)]) (hs : s < 18446744073709551616) :
    ∃ (i : Nat) (ok : Bool) (s' : Nat), s' < 18446744073709551616 ∧ Plays 125 b (.tuple #[.int .i64 (i : Int), .bool ok]) s' w e w1 ∧ Plays 88 r (.tuple #[.int .i64 (i : Int), .bool ok]) s' w2 e' w3 := by
  rcases h with ⟨hbad, h1, h2⟩ | ⟨hn, hz, i, ok, h1, h2, h3, h4⟩
  · rcases h' with ⟨_, k1, k2⟩ | ⟨kn, kz, _⟩
    · exact ⟨0, false, s, hs, ⟨h1, hd.below h2 hd.lt, Exc.of h2⟩, k1, hr.below k2 hr.lt, Exc.of k2⟩
    · exfalso
      rcases hbad with ⟨x, hx, hx0⟩ | h0
      · have := kn x hx
        omega
      · exact kz h0
  · rcases h' with ⟨hbad, k1, k2⟩ | ⟨_, _, j, ok', k1, k2, k3, k4⟩
    · exfalso
      rcases hbad with ⟨x, hx, hx0⟩ | h0
      · have := hn x hx
        omega
      · exact hz h0
    · obtain ⟨rfl, rfl⟩ := pickRes_same h1 k1
      exact ⟨i, ok, _, Dice.step_lt s, ⟨h2, h4, h3.exc⟩, k2, k4, k3⟩
end Go.Proofs.YtjmbpnogicdkgaaGreatDoor
