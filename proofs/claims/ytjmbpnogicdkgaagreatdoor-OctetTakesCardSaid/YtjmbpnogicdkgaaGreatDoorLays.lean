/-
  An argument that is a list of steps of chapter 4: what it reads as.
  Lists of steps of chapter 4: the bytes that they lay; one step's cells.
-/
import Derived.Test.YtjmbpnogicdkgaaGreatDoorOctet
import Derived.Deep.Slices
import Derived.ChangeSlices
import Derived.ChangeArms
import Derived.Test.YtjmbpnogicdkgaaGreatDoorLay
/-! An argument that is a list of steps of chapter 4: what it reads as. -/
namespace Go.Proofs.YtjmbpnogicdkgaaGreatDoor
open Go.RowKit Go.ChangeShapes Go.WideShapes Go.Deep
set_option linter.unusedSimpArgs false
set_option linter.unusedVariables false

/-- one step, raw: its six cells, and what its two slices of bytes hold -/
structure StepD where
  what : Int
  n : Int
  A1 : Option Addr
  na : Nat
  ca : Nat
  A2 : Option Addr
  nb : Nat
  cb : Nat
  neg : Bool
  s : ByteArray
  al : List UInt8
  bl : List UInt8
instance : Inhabited StepD := ⟨⟨0, 0, none, 0, 0, none, 0, 0, false, ⟨#[]⟩, [], []⟩⟩
def stepC (x : StepD) : List Value := [.int .i64 x.what, .int .i64 x.n, .slice x.A1 x.na x.ca, .slice x.A2 x.nb x.cb, .bool x.neg, .string x.s]
theorem stepC_len (x : StepD) : (stepC x).length = 6 := rfl
structure StepOK (w : World) (B : Nat) (x : StepD) : Prop where
  w0 : -9223372036854775808 ≤ x.what
  w1 : x.what ≤ 9223372036854775807
  n0 : -9223372036854775808 ≤ x.n
  n1 : x.n ≤ 9223372036854775807
  ha : Bytes w B x.A1 x.na x.al
  hb : Bytes w B x.A2 x.nb x.bl
  ca : x.na ≤ x.ca
  ca2 : x.ca ≤ 9223372036854775807
  cb : x.nb ≤ x.cb
  cb2 : x.cb ≤ 9223372036854775807
  hs : x.s.size ≤ 9223372036854775807
theorem StepOK.below {w w' : World} {B : Nat} {x : StepD} (h : StepOK w B x) (hb : Below B w w') : StepOK w' B x :=
  ⟨h.w0, h.w1, h.n0, h.n1, Reads.below h.ha hb, Reads.below h.hb hb, h.ca, h.ca2, h.cb, h.cb2, h.hs⟩
theorem flatW_inv {α : Type} {k : Nat} {f : α → List Value} (hf : ∀ a, (f a).length = k) (hk : 0 < k) (l : List α) (j : Nat) (u : Value) (h : (l.flatMap f)[j]? = some u) : ∃ i r x, j = i * k + r ∧ r < k ∧ l[i]? = some x ∧ (f x)[r]? = some u := by
  have hj : j < l.length * k := by
    have := (List.getElem?_eq_some_iff.1 h).1
    rwa [flatW_len hf] at this
  have hi : j / k < l.length := by rw [Nat.div_lt_iff_lt_mul hk]; exact hj
  have hr : j % k < k := Nat.mod_lt _ hk
  have hx : l[j / k]? = some l[j / k] := List.getElem?_eq_getElem hi
  have e : j = j / k * k + j % k := by rw [Nat.mul_comm]; exact (Nat.div_add_mod j k).symm
  refine ⟨j / k, j % k, l[j / k], e, hr, hx, ?_⟩
  rw [← flatW_at hf l (j / k) (j % k) _ hx hr, ← e]
  exact h
section
variable {H : Type} {enc : TypeId × Value → H}
theorem open_bytes {W : World} {base n : Nat} {v : Value} {y : DataW H × List MemPlace} (h : DataW.trod enc Tryz.prog W base (fun _ => true) true n 22 [v] = some y) :
    ∃ A m c l, v = .slice A m c ∧ Bytes W W.heap.size A m l ∧ m ≤ c ∧ c ≤ 9223372036854775807 := by
  rcases open_ints Tryz.underlying22 Tryz.underlying5 (by kernel_rfl) h with ⟨hcs, _⟩ | ⟨x, l, c, zs, hcs, _, hl, hm, hz, _, hcell, hwz⟩
  · obtain rfl : v = .slice none 0 0 := by simpa using hcs
    exact ⟨none, 0, 0, [], rfl, Reads.none_, Nat.le_refl _, by omega⟩
  · obtain rfl : v = .slice (some x) l c := by simpa using hcs
    have hr : IsRow .u8 W (some x) l c zs := .inr ⟨_, rfl, hl, hm, by simpa using hz, hcell, hwz⟩
    obtain ⟨bs, h1, h2, h3⟩ := hr.bytes
    exact ⟨_, _, _, bs, rfl, h1, h2, h3⟩
theorem cellsStep : Tryz.prog.cellsOf 24 = 6 := by kernel_rfl
set_option maxRecDepth 100000 in
theorem open_step {W : World} {base n : Nat} {cs : List Value} {y : DataW H × List MemPlace} (h : DataW.trod enc Tryz.prog W base (fun _ => true) true n 24 cs = some y) :
    ∃ x : StepD, cs = stepC x ∧ StepOK W W.heap.size x := by
  obtain ⟨xs, m, _, _, hl, hlen, hf⟩ := DataW.trod_struct Tryz.underlying24 h
  rw [cellsStep] at hl
  have e0 : Tryz.prog.cellsOf 3 = 1 := by kernel_rfl
  have e1 : Tryz.prog.cellsOf 22 = 1 := by kernel_rfl
  have e2 : Tryz.prog.cellsOf 4 = 1 := by kernel_rfl
  have e3 : Tryz.prog.cellsOf 9 = 1 := by kernel_rfl
  have hlen6 : xs.length = 6 := hlen
  clear hlen
  match cs, hl with
  | [c0, c1, c2, c3, c4, c5], _ =>
    match xs, hlen6 with
    | [y0, y1, y2, y3, y4, y5], _ =>
      have h0 : DataW.trod enc Tryz.prog W base (fun _ => true) true m 3 (([c0, c1, c2, c3, c4, c5].drop 0).take (Tryz.prog.cellsOf 3)) = some y0 := hf 0 _ rfl
      have h1 : DataW.trod enc Tryz.prog W base (fun _ => true) true m 3 (([c0, c1, c2, c3, c4, c5].drop 1).take (Tryz.prog.cellsOf 3)) = some y1 := hf 1 _ rfl
      have h2 : DataW.trod enc Tryz.prog W base (fun _ => true) true m 22 (([c0, c1, c2, c3, c4, c5].drop 2).take (Tryz.prog.cellsOf 22)) = some y2 := hf 2 _ rfl
      have h3 : DataW.trod enc Tryz.prog W base (fun _ => true) true m 22 (([c0, c1, c2, c3, c4, c5].drop 3).take (Tryz.prog.cellsOf 22)) = some y3 := hf 3 _ rfl
      have h4 : DataW.trod enc Tryz.prog W base (fun _ => true) true m 4 (([c0, c1, c2, c3, c4, c5].drop 4).take (Tryz.prog.cellsOf 4)) = some y4 := hf 4 _ rfl
      have h5 : DataW.trod enc Tryz.prog W base (fun _ => true) true m 9 (([c0, c1, c2, c3, c4, c5].drop 5).take (Tryz.prog.cellsOf 9)) = some y5 := hf 5 _ rfl
      simp only [e0, e1, e2, e3, List.getElem?_cons_zero, List.getElem?_cons_succ, List.drop_zero, List.drop_succ_cons, List.take_succ_cons, List.take_zero] at h0 h1 h2 h3 h4 h5
      obtain ⟨z0, g0, _, k0⟩ := DataW.trod_int Tryz.underlying3 h0
      obtain ⟨z1, g1, _, k1⟩ := DataW.trod_int Tryz.underlying3 h1
      obtain ⟨A2, n2, m2, l2, g2, b2, d2, d2'⟩ := open_bytes h2
      obtain ⟨A3, n3, m3, l3, g3, b3, d3, d3'⟩ := open_bytes h3
      obtain ⟨z4, g4, _⟩ := DataW.trod_bool Tryz.underlying4 h4
      obtain ⟨z5, g5, _, k5⟩ := DataW.trod_string Tryz.underlying9 h5
      simp only [List.cons.injEq, and_true] at g0 g1 g4 g5
      subst g0; subst g1; subst g2; subst g3; subst g4; subst g5
      have q0 := bounds_i64 k0
      have q1 := bounds_i64 k1
      have q5 : z5.size ≤ 9223372036854775807 := by unfold maxLen at k5; omega
      exact ⟨⟨z0, z1, A2, n2, m2, A3, n3, m3, z4, z5, l2, l3⟩, rfl, ⟨q0.1, q0.2, q1.1, q1.2, b2, b3, d2, d2', d3, d3', q5⟩⟩
set_option maxRecDepth 100000 in
theorem open_stepV {W : World} {base : Nat} {v : Value} {d : DataW H} {p : List MemPlace} (hv : Value.okWide Tryz.prog W .any base 24 v) (h : DataW.Trod enc Tryz.prog W 0 (fun _ => true) true 24 v d p) :
    ∃ x : StepD, v = .agg (stepC x).toArray ∧ StepOK W W.heap.size x := by
  obtain ⟨cs, rfl, _⟩ := okWide_struct Tryz.underlying24 hv
  obtain ⟨fuel, hf⟩ := h
  obtain ⟨x, hx, hok⟩ := open_step hf
  refine ⟨x, ?_, hok⟩
  have e : cs.toList = stepC x := by simpa [Value.cells] using hx
  rw [← e]
theorem open_steps {W : World} {A : Option Addr} {n c : Nat} {d : DataW H} {p : List MemPlace} (h : DataW.Trod enc Tryz.prog W 0 (fun _ => true) true 42 (.slice A n c) d p) :
    ∃ l : List StepD, ReadsW W W.heap.size 6 stepC A n l ∧ (∀ x ∈ l, StepOK W W.heap.size x) ∧ n ≤ c ∧ c ≤ 9223372036854775807 := by
  obtain ⟨fuel, hf⟩ := h
  rcases open_slice Tryz.underlying42 hf with ⟨hcs, _⟩ | ⟨a, len, cap, m, k, D, Pl, hcs, hb, hl, hm, hmm, hx, hi⟩
  · simp [Value.cells] at hcs
    obtain ⟨rfl, rfl, rfl⟩ := hcs
    exact ⟨[], ReadsW.nil, (fun x hx => by cases hx), Nat.le_refl _, by omega⟩
  · simp [Value.cells] at hcs
    obtain ⟨rfl, rfl, rfl⟩ := hcs
    simp only [if_true] at hmm
    subst hmm
    rw [cellsStep] at hi
    obtain ⟨F, hF⟩ := choose_lt (α := StepD) (p := fun i x => (∀ j u, (stepC x)[j]? = some u → W.cell? (a.add (i * 6 + j)) = some u) ∧ StepOK W W.heap.size x) (n := n) (fun i hin => by
      obtain ⟨cs', h1, h2⟩ := hi i (by omega)
      obtain ⟨x, rfl, hok⟩ := open_step h2
      refine ⟨x, fun j u hu => ?_, hok⟩
      obtain ⟨_, hcl, hat⟩ := World.cells?_some h1
      have hj : j < 6 := (List.getElem?_eq_some_iff.1 hu).1
      have := hat j hj
      rw [Go.Deep.add_add] at this
      rw [this]
      simpa using hu)
    refine ⟨(List.range n).map F, ⟨by simp, ?_⟩, fun x hx => ?_, hl, by unfold maxLen at hm; omega⟩
    · refine ⟨by rw [flatW_len stepC_len]; simp, fun hn => ⟨a, rfl, ?_, fun j u hu => ?_⟩⟩
      · have h0 := (hF 0 hn).1 0 _ rfl
        have := cell_lt h0
        rwa [block_of_add] at this
      · obtain ⟨i, r, x, rfl, hr, hx, hu⟩ := flatW_inv stepC_len (by omega) _ j u hu
        have hin : i < n := by
          have := (List.getElem?_eq_some_iff.1 hx).1
          simpa using this
        rw [List.getElem?_map, List.getElem?_range hin] at hx
        simp only [Option.map_some, Option.some.injEq] at hx
        subst hx
        exact (hF i hin).1 r u hu
    · obtain ⟨i, hi2, rfl⟩ := List.mem_map.1 hx
      exact (hF i (by simpa using hi2)).2
end
end Go.Proofs.YtjmbpnogicdkgaaGreatDoor

/-! Lists of steps of chapter 4: the bytes that they lay; one step's cells. -/
namespace Go.Proofs.YtjmbpnogicdkgaaGreatDoor
open Go.RowKit
set_option linter.unusedSimpArgs false
set_option linter.unusedVariables false

def stepL (x : StepD) : List UInt8 := stepB (x.what % 5).toNat x.n x.al x.bl x.neg x.s
/-- the bytes of all the steps -/
def allB (l : List StepD) : List UInt8 := l.flatMap stepL
theorem allB_take (l : List StepD) (k : Nat) (x : StepD) (h : l[k]? = some x) : allB (l.take (k + 1)) = allB (l.take k) ++ stepL x := by
  unfold allB
  rw [List.take_add_one, h, List.flatMap_append]
  simp
theorem allB_len (l : List StepD) : (allB l).length ≤ 210 * l.length := by
  induction l with
  | nil => simp [allB]
  | cons x l ih =>
    have := stepB_len (x.what % 5).toNat x.n x.al x.bl x.neg x.s
    have e : allB (x :: l) = stepL x ++ allB l := rfl
    rw [e, List.length_append, List.length_cons]
    unfold stepL
    omega
theorem cell_spot {w : World} {a : Addr} {v : Value} (h : w.cell? a = some v) : a.spot = none := by
  unfold World.cell? at h
  split at h
  · split at h
    · cases h
    · rename_i h1
      simpa using h1
  · cases h
theorem ReadsS.cells {w : World} {B : Nat} {A : Option Addr} {n : Nat} {l : List StepD} (h : ReadsW w B 6 stepC A n l) {k : Nat} (hk : k < n) :
    ∃ ad g o x, A = some ad ∧ ad.add (k * 6) = ⟨g, o, none⟩ ∧ g < B ∧ l[k]? = some x ∧ w.cell? ⟨g, o, none⟩ = some (.int .i64 x.what) ∧ w.cell? ⟨g, o + 1, none⟩ = some (.int .i64 x.n) ∧
      w.cell? ⟨g, o + 2, none⟩ = some (.slice x.A1 x.na x.ca) ∧ w.cell? ⟨g, o + 3, none⟩ = some (.slice x.A2 x.nb x.cb) ∧ w.cell? ⟨g, o + 4, none⟩ = some (.bool x.neg) ∧ w.cell? ⟨g, o + 5, none⟩ = some (.string x.s) := by
  obtain ⟨ad, x, h1, h2, h3, h4⟩ := h.at_ stepC_len hk
  have c0 := h4 0 _ rfl
  have e0 := cell_spot c0
  rw [Nat.add_zero] at c0 e0
  have hb := block_of_add ad (k * 6)
  have hc : ∀ j u, (stepC x)[j + 1]? = some u → w.cell? ((ad.add (k * 6)).add (j + 1)) = some u := fun j u hu => by rw [add_of_add]; exact h4 (j + 1) u hu
  cases hP : ad.add (k * 6) with
  | mk g o sp =>
    rw [hP] at c0 e0 hb hc
    obtain rfl : sp = none := e0
    exact ⟨ad, g, o, x, h1, hP, by have : g = ad.block := hb; omega, h3, c0, hc 0 _ rfl, hc 1 _ rfl, hc 2 _ rfl, hc 3 _ rfl, hc 4 _ rfl⟩
/-- so many steps are laid -/
def LaysRel (W : World) (B b : Nat) (l : List StepD) (k : Nat) (u : Value) (wr : World) : Prop := ∃ v, Pair wr B b v u (allB (l.take k)) (allB (l.take k)) ∧ Below B W wr
theorem Pair.start {w w' : World} {B b : Nat} (h : IsW w b (.slice none 0 0) []) (hB : B ≤ w.heap.size) (hb : B ≤ b) : Pair w B b (.slice none 0 0) (.slice none 0 0) [] [] :=
  ⟨h, Own.nil_ _ _ _, hB, hb, (fun k hk => by cases hk), (fun k hk => by cases hk), (fun e => by cases e), (fun k hk => by cases hk)⟩
/-- a row of bytes does not lie in a Writer's block -/
theorem Own.notW {w : World} {v x : Value} {l : List UInt8} {g : Nat} (h : Own w 5 u8v v l) (hb : Blk w g 99 #[x]) : v.ownBlock ≠ some g := by
  rcases h.2 with ⟨rfl, _⟩ | ⟨b, cap, cur, rfl, _, hh, _⟩
  · simp [Value.ownBlock]
  · intro he
    have e : b = g := by simpa [Value.ownBlock] using he
    subst e
    unfold Blk at hb
    rw [hb] at hh
    injection hh with hh
    injection hh with _ ht
    exact absurd ht (by decide)
theorem IsW.lframe {w w' : World} {a b : Nat} {v x : Value} {l : List UInt8} (h : IsW w a v l) (hf : LFrame w w' b (.slice none 0 0) (.slice none 0 0)) (hne : a ≠ b) (hb : Blk w b 99 #[x]) : IsW w' a v l := by
  refine ⟨(hf a h.1.lt hne (by simp [Value.ownBlock]) (by simp [Value.ownBlock])).trans h.1, h.2.1, ?_⟩
  rcases h.2.2 with h1 | ⟨g, cap, cur, h1, h2, h3, h4⟩
  · exact .inl h1
  · subst h1
    have hlt : g < w.heap.size := by
      rcases Nat.lt_or_ge g w.heap.size with hlt | hge
      · exact hlt
      · rw [Array.getElem?_eq_none hge] at h3; cases h3
    have hg : g ≠ b := fun e => h.2.notW hb (by rw [← e]; rfl)
    exact .inr ⟨g, cap, cur, rfl, h2, (hf g hlt hg (by simp [Value.ownBlock]) (by simp [Value.ownBlock])).trans h3, h4⟩
theorem Blk.lframe {w w' : World} {a b : Nat} {t : TypeId} {cs : Array Value} (h : Blk w a t cs) (hf : LFrame w w' b (.slice none 0 0) (.slice none 0 0)) (hne : a ≠ b) : Blk w' a t cs :=
  (hf a h.lt hne (by simp [Value.ownBlock]) (by simp [Value.ownBlock])).trans h
end Go.Proofs.YtjmbpnogicdkgaaGreatDoor
