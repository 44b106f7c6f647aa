/-
  The document's Pick.
-/
import Derived.Test.YtjmbpnogicdkgaaGreatDoorRefDice
import Derived.Test.YtjmbpnogicdkgaaGreatDoorRefRow
import Derived.Test.YtjmbpnogicdkgaaGreatDoorPicksMath
import Derived.Deep.DeepCutAuto
import Derived.Deep.CutBlock
namespace Go.Proofs.YtjmbpnogicdkgaaGreatDoor
open Go.RowKit
set_option linter.unusedSimpArgs false
set_option linter.unusedVariables false

def RPickPost (b s : Nat) (l : List Rat) (w : World) (e : Ending) (w' : World) : Prop :=
  (((∃ x ∈ l, x.num.sign < 0) ∨ sumQ l = 0) ∧ e = .returned (.tuple #[.int .i64 0, .bool false]) ∧ Below w.heap.size w w') ∨
  ((∀ x ∈ l, 0 ≤ x.num.sign) ∧ sumQ l ≠ 0 ∧ ∃ i ok, PickRes l (Dice.next s) i ok ∧ e = .returned (.tuple #[.int .i64 (i : Int), .bool ok]) ∧ Exc b w w' ∧ Blk w' b 88 #[.int .u64 ((Dice.step s : Nat) : Int)])
theorem rdice_nou32 (s : Nat) : ∀ i x : Nat, (#[.int .u64 (s : Int)] : Array Value)[i]? ≠ some (u32v x) := by
  intro i x e
  rcases i with _ | i
  · simp at e
    cases e
  · simp at e
theorem rd_nextB (b s : Nat) (w : World) (hs : s < 18446744073709551616) (hd : Blk w b 88 #[.int .u64 (s : Int)]) :
    Calls Tryz.prog 45 #[.pointer (some ⟨b, 0, none⟩)] w fun e w' => e = .returned (.int .u64 ((Dice.next s : Nat) : Int)) ∧ Blk w' b 88 #[.int .u64 ((Dice.step s : Nat) : Int)] ∧ Exc b w w' :=
  (rd_next b s w hs (hd.cell 0) (hd.frozen 0)).mono fun e w' ⟨h1, h2⟩ => ⟨h1, by rw [← h2]; simpa using hd.set_ 0 (.int .u64 ((Dice.step s : Nat) : Int)), by rw [← h2]; exact (Exc.refl b w).set_ 0 _⟩
theorem Exc.away {b g : Nat} {w w' : World} (h : Exc b w w') (hg : w.heap.size ≤ g) (i : Nat) (u : Value) : Exc b w (w'.setCell ⟨g, i, none⟩ u) :=
  ⟨h.os, h.tape, h.output, by rw [World.size_setCell]; exact h.size, fun k hk hb => (Below.heap_setCell w' _ _ k (by show k ≠ g; omega)).trans (h.block k hk hb)⟩
/-- as BornQ, where block b may have changed too -/
def BornX (b : Nat) (W : World) (q : Rat) (v : Value) (wc : World) : Prop :=
  ∃ g ng A l c A' l' c', v = .pointer (some ⟨g, 0, none⟩) ∧ W.heap.size ≤ g ∧ Blk wc g 36 #[.bool ng, .slice A l c, .slice A' l' c'] ∧ IsQ wc wc.heap.size (.agg #[.bool ng, .slice A l c, .slice A' l' c']) q ∧ Exc b W wc
theorem bornX_new {b : Nat} {W wn : World} {q : Rat} {l c l' c' : Nat} {ng : Bool} {A A' : Option Addr} (hc : Exc b W wn) (hQ : IsQ wn wn.heap.size (.agg #[.bool ng, .slice A l c, .slice A' l' c']) q) :
    BornX b W q (.pointer (some ⟨wn.heap.size, 0, none⟩)) (wn.alloc (.cells #[.bool ng, .slice A l c, .slice A' l' c'] 36)) :=
  ⟨_, _, _, _, _, _, _, _, rfl, hc.size, Blk.new _ _ _, (hQ.next (Nat.le_refl _) (balloc1 _ _)).more (balloc1 _ _).size, hc.alloc _⟩
theorem bornX_set {b : Nat} {W wn : World} {q : Rat} {g l c l' c' : Nat} {ng : Bool} {A A' : Option Addr} (hc : Exc b W wn) (hQ : IsQ wn wn.heap.size (.agg #[.bool ng, .slice A l c, .slice A' l' c']) q)
    (ca : Blk wn g 36 #[.bool false, .slice none 0 0, .slice none 0 0]) (hg : W.heap.size ≤ g) :
    BornX b W q (.pointer (some ⟨g, 0, none⟩)) (((wn.setCell ⟨g, 0, none⟩ (.bool ng)).setCell ⟨g, 1, none⟩ (.slice A l c)).setCell ⟨g, 2, none⟩ (.slice A' l' c')) := by
  refine ⟨_, _, _, _, _, _, _, _, rfl, hg, by simpa using ((ca.set_ 0 (.bool ng)).set_ 1 (.slice A l c)).set_ 2 (.slice A' l' c'), ?_, ((hc.away hg 0 _).away hg 1 _).away hg 2 _⟩
  rw [World.size_setCell, World.size_setCell, World.size_setCell]
  exact hQ.set3 ca ng A A' l c l' c'
theorem bornX_set' {b : Nat} {W wn : World} {q : Rat} {l c l' c' : Nat} {ng : Bool} {A A' : Option Addr} (hc : Exc b W wn) (hQ : IsQ wn wn.heap.size (.agg #[.bool ng, .slice A l c, .slice A' l' c']) q) :
    BornX b W q (.pointer (some ⟨wn.heap.size, 0, none⟩)) ((((wn.alloc (.cells #[.bool false, .slice none 0 0, .slice none 0 0] 36)).setCell ⟨wn.heap.size, 0, none⟩ (.bool ng)).setCell ⟨wn.heap.size, 1, none⟩ (.slice A l c)).setCell ⟨wn.heap.size, 2, none⟩ (.slice A' l' c')) :=
  bornX_set (hc.alloc _) ((hQ.next (Nat.le_refl _) (balloc1 _ _)).more (balloc1 _ _).size) (Blk.new _ _ _) hc.size
section
variable {b : Nat} {W wn : World} {q : Rat} {l c l' c' : Nat} {ng : Bool} {A A' : Option Addr} {t : TypeId} {cs : Array Value}
theorem bornXD_new (hc : Exc b W wn) (hQ : IsQ wn wn.heap.size (.agg #[.bool ng, .slice A l c, .slice A' l' c']) q) (dd : Blk wn b t cs) :
    BornX b W q (.pointer (some ⟨wn.heap.size, 0, none⟩)) (wn.alloc (.cells #[.bool ng, .slice A l c, .slice A' l' c'] 36)) ∧ Blk (wn.alloc (.cells #[.bool ng, .slice A l c, .slice A' l' c'] 36)) b t cs := ⟨bornX_new hc hQ, dd.alloc _⟩
theorem bornXD_set {g : Nat} (hc : Exc b W wn) (hQ : IsQ wn wn.heap.size (.agg #[.bool ng, .slice A l c, .slice A' l' c']) q)
    (ca : Blk wn g 36 #[.bool false, .slice none 0 0, .slice none 0 0]) (hg : W.heap.size ≤ g) (dd : Blk wn b t cs) (hb : b < W.heap.size) :
    BornX b W q (.pointer (some ⟨g, 0, none⟩)) (((wn.setCell ⟨g, 0, none⟩ (.bool ng)).setCell ⟨g, 1, none⟩ (.slice A l c)).setCell ⟨g, 2, none⟩ (.slice A' l' c')) ∧ Blk (((wn.setCell ⟨g, 0, none⟩ (.bool ng)).setCell ⟨g, 1, none⟩ (.slice A l c)).setCell ⟨g, 2, none⟩ (.slice A' l' c')) b t cs := by
  have hne : b ≠ g := by omega
  exact ⟨bornX_set hc hQ ca hg, ((dd.far (p := ⟨g, 0, none⟩) hne _).far (p := ⟨g, 1, none⟩) hne _).far (p := ⟨g, 2, none⟩) hne _⟩
theorem bornXD_set' (hc : Exc b W wn) (hQ : IsQ wn wn.heap.size (.agg #[.bool ng, .slice A l c, .slice A' l' c']) q) (dd : Blk wn b t cs) (hb : b < W.heap.size) :
    BornX b W q (.pointer (some ⟨wn.heap.size, 0, none⟩)) ((((wn.alloc (.cells #[.bool false, .slice none 0 0, .slice none 0 0] 36)).setCell ⟨wn.heap.size, 0, none⟩ (.bool ng)).setCell ⟨wn.heap.size, 1, none⟩ (.slice A l c)).setCell ⟨wn.heap.size, 2, none⟩ (.slice A' l' c')) ∧
      Blk ((((wn.alloc (.cells #[.bool false, .slice none 0 0, .slice none 0 0] 36)).setCell ⟨wn.heap.size, 0, none⟩ (.bool ng)).setCell ⟨wn.heap.size, 1, none⟩ (.slice A l c)).setCell ⟨wn.heap.size, 2, none⟩ (.slice A' l' c')) b t cs :=
  bornXD_set (hc.alloc _) ((hQ.next (Nat.le_refl _) (balloc1 _ _)).more (balloc1 _ _).size) (Blk.new _ _ _) hc.size (dd.alloc _) hb
end
theorem IsN.excC {w w' : World} {B b n : Nat} {v : Value} {t : TypeId} {cs : Array Value} (h : IsN w B v n) (hB : B ≤ w.heap.size) (hb : Blk w b t cs) (hcs : ∀ i x : Nat, cs[i]? ≠ some (u32v x)) (he : Exc b w w') : IsN w' B v n := by
  obtain ⟨A, c, h1, h2, h3, h4, h5⟩ := h
  rcases Nat.eq_zero_or_pos (limbs n).length with h0 | h0
  · exact ⟨A, c, h1, h2, h3, ⟨h4.1, fun hn => absurd hn (by omega)⟩, fun hn => absurd hn (by omega)⟩
  · have hne := fun ad hA => limbs_apart h4 h0 hb hcs ad hA
    refine ⟨A, c, h1, h2, h3, h4.exc he hB hne, fun hp ad hA => ?_⟩
    obtain ⟨cs', fr, h6⟩ := h5 hp ad hA
    obtain ⟨ad', e1, e2, _⟩ := h4.2 hp
    rw [hA] at e1
    obtain rfl := Option.some.inj e1
    exact ⟨cs', fr, (he.block _ (by omega) (hne ad hA)).trans h6⟩
theorem IsQ.excC {w w' : World} {B b : Nat} {V : Value} {q : Rat} {t : TypeId} {cs : Array Value} (h : IsQ w B V q) (hB : B ≤ w.heap.size) (hb : Blk w b t cs) (hcs : ∀ i x : Nat, cs[i]? ≠ some (u32v x)) (he : Exc b w w') : IsQ w' B V q := by
  obtain ⟨v, v', h1, h2, h3⟩ := h
  exact ⟨v, v', h1, h2.excC hB hb hcs he, h3.excC hB hb hcs he⟩
/-- a dice of the document changes -/
theorem ReadsR.excD {w w' : World} {B b s n : Nat} {A : Option Addr} {ql : List Rat} {t : TypeId} (h : ReadsR w B A n ql) (hB : B ≤ w.heap.size) (hd : Blk w b t #[.int .u64 (s : Int)]) (he : Exc b w w') : ReadsR w' B A n ql := by
  obtain ⟨rl, h1, h2⟩ := h
  refine ⟨rl, ?_, h2.mono fun V q hq => hq.excC hB hd (rdice_nou32 s) he⟩
  rcases Nat.eq_zero_or_pos n with h0 | h0
  · exact ⟨h1.1, h1.2.1, fun hn => absurd hn (by omega)⟩
  · refine ⟨h1.1, h1.2.exc he hB ?_⟩
    obtain ⟨ad, x, k1, k2, k3, k4⟩ := h1.at_ RC.len h0
    intro ad' e1 e2
    rw [k1] at e1
    obtain rfl := Option.some.inj e1
    have c0 := k4 0 _ rfl
    have e0 := spot_none c0
    rw [Nat.add_zero] at c0 e0
    have hb := block_of_add ad (0 * 3)
    cases hP : ad.add (0 * 3) with
    | mk g o sp =>
      rw [hP] at c0 e0 hb
      obtain rfl : sp = none := e0
      have e4 : g = b := by have : g = ad.block := hb; omega
      subst e4
      have h6 := hd.cell o
      rw [c0] at h6
      cases o with
      | zero => simp at h6
      | succ o => simp at h6
theorem rq_nou32 (g : Bool) (A A' : Option Addr) (l c l' c' : Nat) : ∀ i x : Nat, (#[.bool g, .slice A l c, .slice A' l' c'] : Array Value)[i]? ≠ some (u32v x) := by
  intro i x e
  rcases i with _ | _ | _ | i
  · simp at e; exact bool_ne _ x e
  · simp at e; exact slice_ne _ _ _ x e
  · simp at e; exact slice_ne _ _ _ x e
  · simp at e
theorem Exc.over {b g : Nat} {w z w' : World} (h : Exc b w z) (h' : Exc g z w') (hg : w.heap.size ≤ g) : Exc b w w' :=
  ⟨h'.os.trans h.os, h'.tape.trans h.tape, h'.output.trans h.output, Nat.le_trans h.size h'.size, fun k hk hb => (h'.block k (Nat.lt_of_lt_of_le hk h.size) (by omega)).trans (h.block k hk hb)⟩
/-- the sum's box in Pick's second loop -/
def SumX (z : World) (b9 : Nat) (s : Rat) (wr : World) : Prop :=
  ∃ g A l c A' l' c', Blk wr b9 36 #[.bool g, .slice A l c, .slice A' l' c'] ∧ IsQ wr wr.heap.size (.agg #[.bool g, .slice A l c, .slice A' l' c']) s ∧ Exc b9 z wr
theorem SumX.store {z wr : World} {b9 : Nat} {s : Rat} {g x : Bool} {A A' X X' : Option Addr} {l c l' c' m d m' d' : Nat} (h3 : Blk wr b9 36 #[.bool g, .slice A l c, .slice A' l' c'])
    (hq : IsQ wr wr.heap.size (.agg #[.bool x, .slice X m d, .slice X' m' d']) s) (hx : Exc b9 z wr) :
    SumX z b9 s (((wr.setCell ⟨b9, 0, none⟩ (.bool x)).setCell ⟨b9, 1, none⟩ (.slice X m d)).setCell ⟨b9, 2, none⟩ (.slice X' m' d')) := by
  refine ⟨x, X, m, d, X', m', d', by simpa using ((h3.set_ 0 (.bool x)).set_ 1 (.slice X m d)).set_ 2 (.slice X' m' d'), ?_, ((hx.set_ 0 _).set_ 1 _).set_ 2 _⟩
  rw [World.size_setCell, World.size_setCell, World.size_setCell]
  exact hq.set3 h3 x X X' m d m' d'
theorem isQ_whole {w : World} {v v' : Value} {g : Bool} {n : Nat} (h : IsI w w.heap.size (.agg #[.bool g, v]) (n : Int)) (h' : IsN w w.heap.size v' 1) : IsQ w w.heap.size (.agg #[.bool g, v, v']) (((n : Nat) : Int) : Rat) := IsQ.mk (q := ((n : Int) : Rat)) h h'
set_option maxRecDepth 100000 in
set_option maxHeartbeats 8000000 in
theorem rd_pick (b s : Nat) (A : Option Addr) (n c B m : Nat) (ql : List Rat) (w : World) (hs : s < 18446744073709551616) (hd : Blk w b 88 #[.int .u64 (s : Int)]) (h : ReadsR w B A n ql) (hB : B ≤ w.heap.size)
    (hn : n ≤ 1000) (hm : m ≤ 60000) (hl : ∀ x ∈ ql, QS m x) :
    Calls Tryz.prog 53 #[.pointer (some ⟨b, 0, none⟩), .slice A n c] w (RPickPost b s ql w) := by
  have HS := Lib.hid (QS.sum ql hl)
  have HL := Lib.hid hl
  have HR := Lib.hid h
  have HD := Lib.hid hd
  have HLN := Lib.hid h.len
  have htot := ref_total A n c B m ql w h hB (by omega) (by omega) hl
  have htq : QS 61000000 (sumQ ql) := by
    have h1 := QS.sum ql hl n
    rw [List.take_of_length_le (by have := h.len; omega)] at h1
    refine h1.mono ?_
    have := Nat.mul_le_mul hn (show m + 1 ≤ 60001 by omega)
    omega
  obtain ⟨t, ht⟩ : ∃ t, sumQ ql = t := ⟨_, rfl⟩
  rw [ht] at htot htq
  have HTOT := Lib.hid htot
  have HTT := Lib.hid ht
  have HTQ := Lib.hid htq
  have hblt := hd.lt
  clear hl h hd htot ht htq
  go_enter Tryz.func53, Tryz.ntmps53
  go_wp2_with fail
  refine HTOT.out.mono ?_
  rintro e x1w ⟨V1, rfl, hR1, hw1⟩
  obtain ⟨g1, A1, l1, c1c, A1', l1', c1c', rfl⟩ := hR1.shape
  have b6 := Blk.new x1w 36 #[.bool g1, .slice A1 l1 c1c, .slice A1' l1' c1c']
  have hal := balloc1 x1w (.cells #[.bool g1, .slice A1 l1 c1c, .slice A1' l1' c1c'] 36)
  have hR2 := (hR1.next (Nat.le_refl _) hal).more hal.size
  have hB2 := bthen hw1 hal
  have hz1 := hw1.size
  clear hR1 hw1 hal HTOT
  go_upto_block 0 with fail
  generalize x1w.alloc (.cells #[.bool g1, .slice A1 l1 c1c, .slice A1' l1' c1c'] 36) = x2w at *
  generalize x1w.heap.size = a6 at *
  have HR2 := Lib.hid hR2
  clear hR2
  go_wp2_with fail
  go_loopw [7] (fun p wr => ∃ k : Nat, k ≤ n ∧ p = .int .i64 (k : Int) ∧ Hid (∀ j, j < k → ∀ x, ql[j]? = some x → 0 ≤ x.num.sign) ∧ Below x2w.heap.size x2w wr) (fun p _ => n - (intOf p).toNat)
  case atStart => exact ⟨0, by omega, rfl, Lib.hid (fun j hj => absurd hj (by omega)), Below.refl _ _⟩
  case round =>
    obtain ⟨k, hk, rfl, hng, hb⟩ := hrel
    rename World => wr
    have hBr : Below w.heap.size w wr := bthen hB2 hb
    by_cases hkn : k < n
    · obtain ⟨ad, g, o, r, q, rfl, hP, hgB, hx, x0, x1, x2, hiq⟩ := (HR.out.below (hBr.mono hB)).cells hkn
      have hkl : (k : Int) < n := by omega
      have hsg := ref_sign q _ _ wr (hiq.more (Nat.le_trans hB hBr.size)) (Nat.le_refl _)
      obtain ⟨sg, hsgn⟩ : ∃ sg, q.num.sign = sg := ⟨_, rfl⟩
      rw [hsgn] at hsg
      obtain ⟨rg, rA, rl, rc, rA', rl', rc'⟩ := r
      unfold RC.v at hsg
      simp only [] at x0 x1 x2 hsg
      have HSN := Lib.hid hsgn
      have HSG := Lib.hid hsg
      have HX := Lib.hid hx
      clear hsg hsgn hx hiq
      go_wp2_with fail
      refine HSG.out.mono ?_
      rintro e x3 ⟨rfl, hw3⟩
      by_cases hx0 : sg < 0
      · go_wp2
        go_returns
        exact .inl ⟨.inl ⟨q, List.mem_of_getElem? HX.out, by rw [HSN.out]; exact hx0⟩, rfl, bthen hBr hw3⟩
      · have HX0 := Lib.hid hx0
        have hx1 : decide (sg < 0) = false := decide_eq_false hx0
        clear hx0 x0 x1 x2 hP
        go_wp2
        refine ⟨⟨k + 1, by omega, by simp, Lib.hid (fun j hj y hy => ?_), bthen hb hw3⟩, by simp [intOf]; omega⟩
        rcases Nat.lt_or_ge j k with h | h
        · exact hng.out j h y hy
        · obtain rfl : j = k := by omega
          rw [HX.out] at hy
          have hy := Option.some.inj hy
          rw [← hy, HSN.out]
          have := HX0.out
          omega
    · obtain rfl : k = n := by omega
      have hnn : ∀ x ∈ ql, 0 ≤ x.num.sign := by
        intro x hx
        obtain ⟨j, hj, e⟩ := List.getElem_of_mem hx
        exact hng.out j (by have := HLN.out; omega) x (by rw [List.getElem?_eq_getElem hj, e])
      have HNN := Lib.hid hnn
      have hkk : ¬ (k : Int) < (k : Int) := by omega
      have b6 := b6.below hb b6.lt
      have hq6 := (HR2.out.next (Nat.le_refl _) hb).more hb.size
      have hsg := ref_sign t _ _ wr hq6 (Nat.le_refl _)
      obtain ⟨sg, hsgn⟩ : ∃ sg, t.num.sign = sg := ⟨_, rfl⟩
      rw [hsgn] at hsg
      have HSN := Lib.hid hsgn
      have HSG := Lib.hid hsg
      have HQ6 := Lib.hid hq6
      clear hnn hng hkn hsg hsgn hq6 hb HR2
      obtain ⟨b6q0, b6q1, b6q2⟩ := b6.c3
      go_wp2_with fail
      refine HSG.out.mono ?_
      rintro e x3 ⟨rfl, hw3⟩
      have hB3 := bthen hBr hw3
      have b6 := b6.below hw3 b6.lt
      have hq6 := (HQ6.out.next (Nat.le_refl _) hw3).more hw3.size
      clear b6q0 b6q1 b6q2 HSG HQ6
      by_cases ht0 : sg = 0
      · have ht1 : (sg == 0) = true := by simp [ht0]
        have HT0 := Lib.hid ht0
        clear ht0
        go_wp2
        go_returns
        refine .inl ⟨.inr ?_, rfl, hB3⟩
        rw [HTT.out]
        exact Rat.num_eq_zero.1 (Int.sign_eq_zero_iff_zero.1 (HSN.out.trans HT0.out))
      · have ht1 : (sg == 0) = false := by simpa using ht0
        have htn : sumQ ql ≠ 0 := fun e => by
          rw [HTT.out] at e
          rw [e] at HSN
          exact ht0 (HSN.out.symm.trans rfl)
        have HTN := Lib.hid htn
        have HQ6 := Lib.hid hq6
        have dd : Blk x3 b 88 #[.int .u64 (s : Int)] := HD.out.below hB3 HD.out.lt
        have ne6 : a6 ≠ b := by omega
        have hbx : b < x3.heap.size := dd.lt
        have neW : x3.heap.size ≠ b := by have := dd.lt; omega
        have hu1 := Dice.next_lt s
        obtain ⟨u, hu⟩ : ∃ u, Dice.next s = u := ⟨_, rfl⟩
        have hnx := fun w' hd' => rd_nextB b s w' hs hd'
        rw [hu] at hnx hu1
        have HU := Lib.hid hu
        have HNX := Lib.hid hnx
        have ubl : blen u ≤ 64 := blen_le u 64 hu1
        have huq : QS 64 ((u : Int) : Rat) := ⟨by show blen ((u : Int)).natAbs ≤ 64; rw [Int.natAbs_natCast]; exact ubl, by show blen 1 ≤ 64; decide⟩
        have hsu : signed false u = (u : Int) := rfl
        have hmi : ∀ w' V, IsN w' w'.heap.size V u → Calls Tryz.prog 72 #[.bool false, V] w' (RetI (u : Int) w') := fun w' V hv => by
          have := ref_mkI false u _ V w' hv (Nat.le_refl _)
          rw [hsu] at this
          exact this
        have HMI := Lib.hid hmi
        have hml : ∀ w' g v v' V', Exc b x3 w' → IsI w' w'.heap.size (.agg #[.bool g, v]) (u : Int) → IsN w' w'.heap.size v' 1 → IsQ w' w'.heap.size V' t → Calls Tryz.prog 28 #[.agg #[.bool g, v, v'], V'] w' (RetQ (((u : Int) : Rat) * t) w') := fun w' g v v' V' _ h1 h2 h3 =>
          ref_mul _ _ _ _ _ w' (isQ_whole h1 h2) h3 (Nat.le_refl _) (huq.mono (by omega)) (HTQ.out.mono (by omega))
        have HML := Lib.hid hml
        have HQX : Hid (∀ w', Exc b x3 w' → IsQ w' w'.heap.size (.agg #[.bool g1, .slice A1 l1 c1c, .slice A1' l1' c1c']) t) := Lib.hid fun w' hx => hq6.excB dd (rdice_nou32 s) hx
        obtain ⟨bar, hbar⟩ : ∃ bar : Rat, ((u : Int) : Rat) * t = bar := ⟨_, rfl⟩
        rw [hbar] at HML
        have hbq : QS 61000064 bar := by rw [← hbar]; exact (huq.mul HTQ.out).mono (by omega)
        have HBAR := Lib.hid hbar
        have HBQ := Lib.hid hbq
        have h1n : ∀ w', Exc b x3 w' → Calls Tryz.prog 70 #[.int .u64 1] w' (RetN 1 w') := fun w' _ => ref_natOf 1 w' (by omega)
        have H1N := Lib.hid h1n
        have hun : ∀ w', Exc b x3 w' → Calls Tryz.prog 70 #[.int .u64 (u : Int)] w' (RetN u w') := fun w' _ => ref_natOf u w' hu1
        have HUN := Lib.hid hun
        clear h1n hun hu hnx hmi hml hsu ht0 htn hq6 hbar hbq huq ubl
        go_upto_region 9 with fail
        have nec6 : a6 ≠ b := ne6
        go_cut [8] (fun v wc => BornX b x3 bar v wc ∧ Blk wc b 88 #[.int .u64 ((Dice.step s : Nat) : Int)])
        case first =>
          obtain ⟨b6q0, b6q1, b6q2⟩ := b6.c3; have c6 := b6.drew; have c6l := c6.lt; have hc : Exc b x3 x3.drew := Exc.of (bdrew0 x3); have dd := dd.drew; go_region_held3 (fun w' => w'.cell? ⟨a6, 0, none⟩ = some (.bool g1) ∧ w'.cell? ⟨a6, 1, none⟩ = some (.slice A1 l1 c1c) ∧ w'.cell? ⟨a6, 2, none⟩ = some (.slice A1' l1' c1c')) (go_keep) (first | (go_at_call 45; (first | with_reducible refine (HNX.out _ dd).mono ?_ | (have hga : x3.heap.size ≤ x3.heap.size := hc.size; have ca : Blk _ x3.heap.size _ _ := Blk.new x3.drew 36 #[.bool false, .slice none 0 0, .slice none 0 0]; have c6na := nelt (show _ < x3.heap.size from c6l) (Nat.le_refl _); have c6 := c6.alloc (.cells #[.bool false, .slice none 0 0, .slice none 0 0] 36); have dd := dd.alloc (.cells #[.bool false, .slice none 0 0, .slice none 0 0] 36); have hc := hc.trans (Exc.of (balloc1 _ (.cells #[.bool false, .slice none 0 0, .slice none 0 0] 36))); with_reducible refine (HNX.out _ dd).mono ?_) | (have hga : x3.heap.size ≤ x3.heap.size := hc.size; have ca : Blk (x3.alloc (.cells #[.bool false, .slice none 0 0, .slice none 0 0] 36)).drew x3.heap.size _ _ := Blk.new x3.drew 36 #[.bool false, .slice none 0 0, .slice none 0 0]; have c6na := nelt (show _ < x3.heap.size from c6l) (Nat.le_refl _); have c6 : Blk (x3.alloc (.cells #[.bool false, .slice none 0 0, .slice none 0 0] 36)).drew _ _ _ := c6.alloc (.cells #[.bool false, .slice none 0 0, .slice none 0 0] 36); have dd : Blk (x3.alloc (.cells #[.bool false, .slice none 0 0, .slice none 0 0] 36)).drew _ _ _ := dd.alloc (.cells #[.bool false, .slice none 0 0, .slice none 0 0] 36); have hc : Exc b x3 (x3.alloc (.cells #[.bool false, .slice none 0 0, .slice none 0 0] 36)).drew := hc.trans (Exc.of (balloc1 _ (.cells #[.bool false, .slice none 0 0, .slice none 0 0] 36))); with_reducible refine (HNX.out _ dd).mono ?_)); rintro e w1 ⟨rfl, dd, hw1⟩; (try have ca := ca.exc hw1 neW); have c6 := c6.exc hw1 nec6; (try clear c6q0 c6q1 c6q2); obtain ⟨c6q0, c6q1, c6q2⟩ := c6.c3; (try clear c6l); have c6l := c6.lt; have hc := hc.trans hw1) | (go_at_call 70; (first | with_reducible refine (HUN.out _ hc).mono ?_ | (have hga : x3.heap.size ≤ w1.heap.size := hc.size; have ca : Blk _ w1.heap.size _ _ := Blk.new w1 36 #[.bool false, .slice none 0 0, .slice none 0 0]; have c6na := nelt (show _ < w1.heap.size from c6l) (Nat.le_refl _); have c6 := c6.alloc (.cells #[.bool false, .slice none 0 0, .slice none 0 0] 36); have dd := dd.alloc (.cells #[.bool false, .slice none 0 0, .slice none 0 0] 36); have hc := hc.trans (Exc.of (balloc1 _ (.cells #[.bool false, .slice none 0 0, .slice none 0 0] 36))); with_reducible refine (HUN.out _ hc).mono ?_)); rintro e w2 ⟨v2, rfl, hR2, hw2⟩; obtain ⟨A2, l2, c2c, hv2⟩ := hR2.form; subst hv2; (try have ca := ca.below hw2 ca.lt); have dd := dd.below hw2 dd.lt; have c6 := c6.below hw2 c6.lt; (try clear c6q0 c6q1 c6q2); obtain ⟨c6q0, c6q1, c6q2⟩ := c6.c3; (try clear c6l); have c6l := c6.lt; have hc := hc.trans (Exc.of hw2)) | (go_at_call 72; (first | with_reducible refine (HMI.out _ _ hR2).mono ?_ | (have hga : x3.heap.size ≤ w2.heap.size := hc.size; have ca : Blk _ w2.heap.size _ _ := Blk.new w2 36 #[.bool false, .slice none 0 0, .slice none 0 0]; have c6na := nelt (show _ < w2.heap.size from c6l) (Nat.le_refl _); have c6 := c6.alloc (.cells #[.bool false, .slice none 0 0, .slice none 0 0] 36); have hR2 := (hR2.next (Nat.le_refl _) (balloc1 _ (.cells #[.bool false, .slice none 0 0, .slice none 0 0] 36))).more (balloc1 _ (.cells #[.bool false, .slice none 0 0, .slice none 0 0] 36)).size; have dd := dd.alloc (.cells #[.bool false, .slice none 0 0, .slice none 0 0] 36); have hc := hc.trans (Exc.of (balloc1 _ (.cells #[.bool false, .slice none 0 0, .slice none 0 0] 36))); with_reducible refine (HMI.out _ _ hR2).mono ?_)); rintro e w3 ⟨v3, rfl, hR3, hw3⟩; obtain ⟨g3, A3, l3, c3c, hv3⟩ := hR3.shape; subst hv3; (try have ca := ca.below hw3 ca.lt); have dd := dd.below hw3 dd.lt; have c6 := c6.below hw3 c6.lt; (try clear c6q0 c6q1 c6q2); obtain ⟨c6q0, c6q1, c6q2⟩ := c6.c3; (try clear c6l); have c6l := c6.lt; have hR2 := (hR2.next (Nat.le_refl _) hw3).more hw3.size; have hc := hc.trans (Exc.of hw3)) | (go_at_call 70; (first | with_reducible refine (H1N.out _ hc).mono ?_ | (have hga : x3.heap.size ≤ w3.heap.size := hc.size; have ca : Blk _ w3.heap.size _ _ := Blk.new w3 36 #[.bool false, .slice none 0 0, .slice none 0 0]; have c6na := nelt (show _ < w3.heap.size from c6l) (Nat.le_refl _); have c6 := c6.alloc (.cells #[.bool false, .slice none 0 0, .slice none 0 0] 36); have hR2 := (hR2.next (Nat.le_refl _) (balloc1 _ (.cells #[.bool false, .slice none 0 0, .slice none 0 0] 36))).more (balloc1 _ (.cells #[.bool false, .slice none 0 0, .slice none 0 0] 36)).size; have hR3 := (hR3.next (Nat.le_refl _) (balloc1 _ (.cells #[.bool false, .slice none 0 0, .slice none 0 0] 36))).more (balloc1 _ (.cells #[.bool false, .slice none 0 0, .slice none 0 0] 36)).size; have dd := dd.alloc (.cells #[.bool false, .slice none 0 0, .slice none 0 0] 36); have hc := hc.trans (Exc.of (balloc1 _ (.cells #[.bool false, .slice none 0 0, .slice none 0 0] 36))); with_reducible refine (H1N.out _ hc).mono ?_)); rintro e w4 ⟨v4, rfl, hR4, hw4⟩; obtain ⟨A4, l4, c4c, hv4⟩ := hR4.form; subst hv4; (try have ca := ca.below hw4 ca.lt); have dd := dd.below hw4 dd.lt; have c6 := c6.below hw4 c6.lt; (try clear c6q0 c6q1 c6q2); obtain ⟨c6q0, c6q1, c6q2⟩ := c6.c3; (try clear c6l); have c6l := c6.lt; have hR2 := (hR2.next (Nat.le_refl _) hw4).more hw4.size; have hR3 := (hR3.next (Nat.le_refl _) hw4).more hw4.size; have hc := hc.trans (Exc.of hw4)) | (go_at_call 28; (first | with_reducible refine (HML.out _ _ _ _ _ hc hR3 hR4 (HQX.out _ hc)).mono ?_ | (have hga : x3.heap.size ≤ w4.heap.size := hc.size; have ca : Blk _ w4.heap.size _ _ := Blk.new w4 36 #[.bool false, .slice none 0 0, .slice none 0 0]; have c6na := nelt (show _ < w4.heap.size from c6l) (Nat.le_refl _); have c6 := c6.alloc (.cells #[.bool false, .slice none 0 0, .slice none 0 0] 36); have hR2 := (hR2.next (Nat.le_refl _) (balloc1 _ (.cells #[.bool false, .slice none 0 0, .slice none 0 0] 36))).more (balloc1 _ (.cells #[.bool false, .slice none 0 0, .slice none 0 0] 36)).size; have hR3 := (hR3.next (Nat.le_refl _) (balloc1 _ (.cells #[.bool false, .slice none 0 0, .slice none 0 0] 36))).more (balloc1 _ (.cells #[.bool false, .slice none 0 0, .slice none 0 0] 36)).size; have hR4 := (hR4.next (Nat.le_refl _) (balloc1 _ (.cells #[.bool false, .slice none 0 0, .slice none 0 0] 36))).more (balloc1 _ (.cells #[.bool false, .slice none 0 0, .slice none 0 0] 36)).size; have dd := dd.alloc (.cells #[.bool false, .slice none 0 0, .slice none 0 0] 36); have hc := hc.trans (Exc.of (balloc1 _ (.cells #[.bool false, .slice none 0 0, .slice none 0 0] 36))); with_reducible refine (HML.out _ _ _ _ _ hc hR3 hR4 (HQX.out _ hc)).mono ?_)); rintro e w5 ⟨v5, rfl, hR5, hw5⟩; obtain ⟨g5, A5, l5, c5c, A5', l5', c5c', hv5⟩ := hR5.shape; subst hv5; (try have ca := ca.below hw5 ca.lt); have dd := dd.below hw5 dd.lt; have c6 := c6.below hw5 c6.lt; (try clear c6q0 c6q1 c6q2); obtain ⟨c6q0, c6q1, c6q2⟩ := c6.c3; (try clear c6l); have c6l := c6.lt; have hR2 := (hR2.next (Nat.le_refl _) hw5).more hw5.size; have hR3 := (hR3.next (Nat.le_refl _) hw5).more hw5.size; have hR4 := (hR4.next (Nat.le_refl _) hw5).more hw5.size; have hc := hc.trans (Exc.of hw5); (try (have cal := ca.lt; obtain ⟨caq0, caq1, caq2, caf0, caf1, caf2, cas0, cas1, cas2⟩ := ca.f3))))
          all_goals
            go_wp2
            go_meet
            first | with_reducible exact bornXD_new hc hR5 dd | with_reducible exact bornXD_set hc hR5 ca hga dd hbx | with_reducible exact bornXD_set' hc hR5 dd hbx
        case rest =>
          obtain ⟨⟨a8, n8, A8, l8, c8c, A8', l8', c8c', rfl, hg8, b8, hq8, hx8⟩, dN⟩ := hcut
          rename World => y1
          clear b6 HQX HML HNX HMI HUN H1N dd
          have hx1 := (Exc.of hB3 : Exc b w x3).trans hx8
          have hrd : ReadsR y1 B A k ql := (HR.out.below (hB3.mono hB)).excD (Nat.le_trans hB hB3.size) (HD.out.below hB3 HD.out.lt) hx8
          have hz3 := hB3.size
          have HQ8 := Lib.hid hq8
          have HRD := Lib.hid hrd
          have HX1 := Lib.hid hx1
          have HDN := Lib.hid dN
          clear hq8 hrd hx1 dN hx8 hB3
          go_wp2_with fail
          refine (ref_of 0 y1 (by omega) (by omega)).mono ?_
          rintro e y2 ⟨V9, rfl, hq9, hb2⟩
          obtain ⟨g9, A9, l9, c9c, A9', l9', c9c', rfl⟩ := hq9.shape
          have b8 := b8.below hb2 b8.lt
          have hl8 := b8.lt
          have hal := balloc1 y2 (.cells #[.bool g9, .slice A9 l9 c9c, .slice A9' l9' c9c'] 36)
          have b8 := b8.alloc (.cells #[.bool g9, .slice A9 l9 c9c, .slice A9' l9' c9c'] 36)
          have b9 := Blk.new y2 36 #[.bool g9, .slice A9 l9 c9c, .slice A9' l9' c9c']
          have hq9 := (hq9.next (Nat.le_refl _) hal).more hal.size
          have hb3 := bthen hb2 hal
          have hz2 := hb2.size
          have h1n : ∀ w', Calls Tryz.prog 70 #[.int .u64 1] w' (RetN 1 w') := fun w' => ref_natOf 1 w' (by omega)
          obtain ⟨M, hM⟩ : ∃ M : Nat, 1 * 2 ^ 64 = M := ⟨_, rfl⟩
          have hsh : ∀ w' V, IsN w' w'.heap.size V 1 → Calls Tryz.prog 104 #[V, .int .i64 64] w' (RetN M w') := fun w' V hv => by
            have := ref_shift_up 1 64 _ V w' hv (Nat.le_refl _) (by decide) (by omega)
            rw [hM] at this
            exact this
          have hsm : signed false M = (M : Int) := rfl
          have hmi : ∀ w' V, IsN w' w'.heap.size V M → Calls Tryz.prog 72 #[.bool false, V] w' (RetI (M : Int) w') := fun w' V hv => by
            have := ref_mkI false M _ V w' hv (Nat.le_refl _)
            rw [hsm] at this
            exact this
          have H1N := Lib.hid h1n
          have HSH := Lib.hid hsh
          have HMI := Lib.hid hmi
          have hMb : blen M ≤ 65 := by rw [← hM]; decide +kernel
          have hmq : QS 65 ((M : Int) : Rat) := ⟨by show blen ((M : Int)).natAbs ≤ 65; rw [Int.natAbs_natCast]; exact hMb, by show blen 1 ≤ 65; decide⟩
          have HMQ := Lib.hid hmq
          have HM := Lib.hid (show ((18446744073709551616 : Int) : Rat) = ((M : Int) : Rat) by rw [← hM]; rfl)
          have HQ9 := Lib.hid hq9
          clear h1n hsh hmi hsm hM hMb hmq hq9 hal hb2
          go_wp2_with fail
          generalize y2.alloc (.cells #[.bool g9, .slice A9 l9 c9c, .slice A9' l9' c9c'] 36) = y3 at *
          generalize hy2 : y2.heap.size = a9 at *
          clear hy2
          refine (H1N.out y3).mono ?_
          rintro e y4 ⟨v4, rfl, hn4, hb4⟩
          obtain ⟨A4, l4, c4c, rfl⟩ := hn4.form
          have HN4 := Lib.hid (HSH.out y4 _ hn4)
          clear hn4
          go_wp2_with fail
          refine HN4.out.mono ?_
          rintro e y5 ⟨v5, rfl, hn5, hb5⟩
          obtain ⟨A5, l5, c5c, rfl⟩ := hn5.form
          have HI5 := Lib.hid (HMI.out y5 _ hn5)
          clear hn5 HN4
          go_wp2_with fail
          refine HI5.out.mono ?_
          rintro e y6 ⟨v6, rfl, hi6, hb6⟩
          obtain ⟨g6, A6, l6, c6c, rfl⟩ := hi6.shape
          clear HI5
          have HI6 := Lib.hid hi6
          clear hi6
          go_wp2_with fail
          refine (H1N.out y6).mono ?_
          rintro e y7 ⟨v7, rfl, hn7, hb7⟩
          obtain ⟨A7, l7, c7c, rfl⟩ := hn7.form
          have hq10a := isQ_whole ((HI6.out.next (Nat.le_refl _) hb7).more hb7.size) hn7
          have hb37 := bthen (bthen (bthen hb4 hb5) hb6) hb7
          have b8 := b8.below hb37 b8.lt
          have b9 := b9.below hb37 b9.lt
          have hl9 := b9.lt
          have hl8' := b8.lt
          have hb17 := bthen hb3 hb37
          have hz7 := hb37.size
          have hal := balloc1 y7 (.cells #[.bool g6, .slice A6 l6 c6c, .slice A7 l7 c7c] 36)
          have b8 := b8.alloc (.cells #[.bool g6, .slice A6 l6 c6c, .slice A7 l7 c7c] 36)
          have b9 := b9.alloc (.cells #[.bool g6, .slice A6 l6 c6c, .slice A7 l7 c7c] 36)
          have b10 := Blk.new y7 36 #[.bool g6, .slice A6 l6 c6c, .slice A7 l7 c7c]
          have hq10 := (hq10a.next (Nat.le_refl _) hal).more hal.size
          clear hq10a
          have hq9 := (HQ9.out.next (Nat.le_refl _) (bthen hb37 hal)).more (bthen hb37 hal).size
          have hb18 := bthen hb17 hal
          have hq8 := (HQ8.out.next (Nat.le_refl _) hb18).more hb18.size
          have hxz := HX1.out.trans (Exc.of hb18)
          have dz := HDN.out.below hb18 HDN.out.lt
          have hrz := HRD.out.below (hb18.mono (Nat.le_trans hB HX1.out.size))
          clear hn7 hb4 hb5 hb6 hb7 hb37 hal hb17 hb3 HQ8 HQ9 HI6 HX1 HDN HRD H1N HSH HMI hb18
          go_upto_block 2 with fail
          generalize y7.alloc (.cells #[.bool g6, .slice A6 l6 c6c, .slice A7 l7 c7c] 36) = z at *
          generalize hy7 : y7.heap.size = a10 at *
          clear hy7
          have h89 : a8 ≠ a9 := by omega
          have h109 : a10 ≠ a9 := by omega
          have hb9 : b ≠ a9 := by omega
          have hB9 : B ≤ a9 := by omega
          have hw9 : w.heap.size ≤ a9 := by omega
          have hBz : B ≤ z.heap.size := Nat.le_trans hB hxz.size
          have HQ8 := Lib.hid hq8
          have HQ10 := Lib.hid hq10
          have HRZ := Lib.hid hrz
          have HXZ := Lib.hid hxz
          have HDZ := Lib.hid dz
          have HI : Hid (SumX z a9 (sumQ (ql.take 0)) z) := Lib.hid ⟨g9, A9, l9, c9c, A9', l9', c9c', b9, hq9, Exc.refl _ _⟩
          have HB9 := Lib.hid b9
          clear hq8 hq10 hrz hxz dz hq9 b9 HR HD
          go_wp2_with fail
          go_loopw [11] (fun p wr => ∃ j : Nat, j ≤ k ∧ p = .int .i64 (j : Int) ∧ Hid (∀ i, i < j → ¬ Above ql u i) ∧ SumX z a9 (sumQ (ql.take j)) wr) (fun p _ => k - (intOf p).toNat)
          case atStart => exact ⟨0, by omega, rfl, Lib.hid (fun i hi => absurd hi (by omega)), HI.out⟩
          case round =>
            obtain ⟨j, hj, rfl, hno, g, Aa, l, d9c, Aa', l', d9c', b9, hq, hx⟩ := hrel
            rename World => wr
            clear HI
            by_cases hjk : j < k
            · have j1 : (j : Int) < (k : Int) := by omega
              obtain ⟨ad, gg, o, r, q, rfl, hP, hgB, hxq, x0, x1, x2, hiq⟩ := (HRZ.out.below (hx.below hBz hB9)).cells hjk
              have hBwr : B ≤ wr.heap.size := Nat.le_trans hBz hx.size
              have hqs : QS 61000000 (sumQ (ql.take j)) := by
                refine (HS.out j).mono ?_
                have := Nat.mul_le_mul (show j ≤ 1000 by omega) (show m + 1 ≤ 60001 by omega)
                omega
              have hqs2 : QS 61000000 (sumQ (ql.take (j + 1))) := by
                refine (HS.out (j + 1)).mono ?_
                have := Nat.mul_le_mul (show j + 1 ≤ 1000 by omega) (show m + 1 ≤ 60001 by omega)
                omega
              have hqx : QS 68719476736 q := (HL.out q (List.mem_of_getElem? hxq)).mono (by omega)
              have had := ref_add _ _ _ _ _ wr.drew (hq.next (Nat.le_refl _) (bdrew0 wr)) ((hiq.next hBwr (bdrew0 wr)).more hBwr) (Nat.le_refl _) (hqs.mono (by omega)) hqx
              rw [← sumQ_take ql j q hxq] at had
              obtain ⟨rg, rA, rl, rc, rA', rl', rc'⟩ := r
              unfold RC.v at had
              simp only [] at x0 x1 x2 had
              have HAD := Lib.hid had
              have HX := Lib.hid hx
              have HQS2 := Lib.hid hqs2
              clear had hqs hqs2 hqx hxq hq hiq hx
              obtain ⟨b9q0, b9q1, b9q2⟩ := b9.c3
              go_upto_region 15 with fail
              go_cut [54] from 43 to 61 (fun _ wc => SumX z a9 (sumQ (ql.take (j + 1))) wc)
              case first =>
                first | (go_region_with (go_at_call 24; (with_reducible refine HAD.out.mono ?_); rintro e w5 ⟨v5, rfl, hR5, hw5⟩; obtain ⟨g5, B5, m5, d5, B5', m5', d5', hv5⟩ := hR5.shape; subst hv5; have hc5 := bthen (bdrew0 wr) hw5; have d9 := b9.below hc5 b9.lt; have HF := Lib.hid (SumX.store d9 hR5 (HX.out.trans (Exc.of hc5))); obtain ⟨d9q0, d9q1, d9q2, d9f0, d9f1, d9f2, d9s0, d9s1, d9s2⟩ := d9.f3)) | fail
                all_goals
                  go_wp2
                  go_meet
                  exact HF.out
              case rest =>
                obtain ⟨g', Ab, m', d9c', Ab', m'', d9c'', b9, hq, hx⟩ := hcut
                rename World => x5
                have b8 := b8.exc hx h89
                have b10 := b10.exc hx h109
                have hq8 := HQ8.out.excB HB9.out (rq_nou32 _ _ _ _ _ _ _) hx
                have hq10 := HQ10.out.excB HB9.out (rq_nou32 _ _ _ _ _ _ _) hx
                have hxw := HXZ.out.over hx hw9
                have dz := HDZ.out.exc hx hb9
                have hml : ∀ w', Below x5.heap.size x5 w' → Calls Tryz.prog 28 #[.agg #[.bool g', .slice Ab m' d9c', .slice Ab' m'' d9c''], .agg #[.bool g6, .slice A6 l6 c6c, .slice A7 l7 c7c]] w' (RetQ (sumQ (ql.take (j + 1)) * ((M : Int) : Rat)) w') := fun w' hb =>
                  ref_mul _ _ _ _ _ w' ((hq.next (Nat.le_refl _) hb).more hb.size) ((hq10.next (Nat.le_refl _) hb).more hb.size) (Nat.le_refl _) (HQS2.out.mono (by omega)) (HMQ.out.mono (by omega))
                have hcp : ∀ w' V, Below x5.heap.size x5 w' → IsQ w' w'.heap.size V (sumQ (ql.take (j + 1)) * ((M : Int) : Rat)) → Calls Tryz.prog 14 #[V, .agg #[.bool n8, .slice A8 l8 c8c, .slice A8' l8' c8c']] w' (Ret (.int .i64 (cmpQ (sumQ (ql.take (j + 1)) * ((M : Int) : Rat)) bar)) w') := fun w' V hb hv =>
                  ref_cmpQ _ _ _ _ _ w' hv ((hq8.next (Nat.le_refl _) hb).more hb.size) (Nat.le_refl _) ((HQS2.out.mul HMQ.out).mono (by omega)) (HBQ.out.mono (by omega))
                have hab : (0 < cmpQ (sumQ (ql.take (j + 1)) * ((M : Int) : Rat)) bar) ↔ Above ql u j := by
                  rw [cmpQ_pos]
                  unfold Above
                  rw [HTT.out, HBAR.out, HM.out]
                generalize cmpQ (sumQ (ql.take (j + 1)) * ((M : Int) : Rat)) bar = cv at *
                have HML := Lib.hid hml
                have HCP := Lib.hid hcp
                have HAB := Lib.hid hab
                have HSX := Lib.hid (And.intro hq hx)
                have HXW := Lib.hid (And.intro hxw dz)
                clear hml hcp hab hq hx hxw dz hq8 hq10 HAD HX
                go_upto_region 16 with fail
                go_cut [60] from 43 to 61 (fun v wc => v = .bool (decide (0 < cv)) ∧ Below x5.heap.size x5 wc)
                case first =>
                  obtain ⟨b9q0, b9q1, b9q2⟩ := b9.c3; have c9 := b9.drew; have c9l := c9.lt; obtain ⟨b10q0, b10q1, b10q2⟩ := b10.c3; have c10 := b10.drew; have c10l := c10.lt; obtain ⟨b8q0, b8q1, b8q2⟩ := b8.c3; have c8 := b8.drew; have c8l := c8.lt; have hc := bdrew0 x5; go_region_held3 (fun w' => w'.cell? ⟨a9, 0, none⟩ = some (.bool g') ∧ w'.cell? ⟨a9, 1, none⟩ = some (.slice Ab m' d9c') ∧ w'.cell? ⟨a9, 2, none⟩ = some (.slice Ab' m'' d9c'') ∧ w'.cell? ⟨a10, 0, none⟩ = some (.bool g6) ∧ w'.cell? ⟨a10, 1, none⟩ = some (.slice A6 l6 c6c) ∧ w'.cell? ⟨a10, 2, none⟩ = some (.slice A7 l7 c7c) ∧ w'.cell? ⟨a8, 0, none⟩ = some (.bool n8) ∧ w'.cell? ⟨a8, 1, none⟩ = some (.slice A8 l8 c8c) ∧ w'.cell? ⟨a8, 2, none⟩ = some (.slice A8' l8' c8c')) (go_keep) (first | (go_at_call 28; (with_reducible refine (HML.out _ hc).mono ?_); rintro e w1 ⟨v1, rfl, hR1, hw1⟩; obtain ⟨g1, A1, l1, c1c, A1', l1', c1c', hv1⟩ := hR1.shape; subst hv1; have c9 := c9.below hw1 c9.lt; (try clear c9q0 c9q1 c9q2); obtain ⟨c9q0, c9q1, c9q2⟩ := c9.c3; (try clear c9l); have c9l := c9.lt; have c10 := c10.below hw1 c10.lt; (try clear c10q0 c10q1 c10q2); obtain ⟨c10q0, c10q1, c10q2⟩ := c10.c3; (try clear c10l); have c10l := c10.lt; have c8 := c8.below hw1 c8.lt; (try clear c8q0 c8q1 c8q2); obtain ⟨c8q0, c8q1, c8q2⟩ := c8.c3; (try clear c8l); have c8l := c8.lt; have hc := bthen hc hw1) | (go_at_call 14; (with_reducible refine (HCP.out _ _ hc hR1).mono ?_); rintro e w2 ⟨rfl, hw2⟩; have c9 := c9.below hw2 c9.lt; (try clear c9q0 c9q1 c9q2); obtain ⟨c9q0, c9q1, c9q2⟩ := c9.c3; (try clear c9l); have c9l := c9.lt; have c10 := c10.below hw2 c10.lt; (try clear c10q0 c10q1 c10q2); obtain ⟨c10q0, c10q1, c10q2⟩ := c10.c3; (try clear c10l); have c10l := c10.lt; have c8 := c8.below hw2 c8.lt; (try clear c8q0 c8q1 c8q2); obtain ⟨c8q0, c8q1, c8q2⟩ := c8.c3; (try clear c8l); have c8l := c8.lt; have hR1 := (hR1.next (Nat.le_refl _) hw2).more hw2.size; have hc := bthen hc hw2))
                  all_goals
                    go_wp2
                    go_meet
                    exact ⟨rfl, hc⟩
                case rest =>
                  obtain ⟨rfl, hbc⟩ := hcut
                  rename World => x6
                  have b9 := b9.below hbc b9.lt
                  have hS6 : Hid (SumX z a9 (sumQ (ql.take (j + 1))) x6) := Lib.hid ⟨_, _, _, _, _, _, _, b9, (HSX.out.1.next (Nat.le_refl _) hbc).more hbc.size, HSX.out.2.trans (Exc.of hbc)⟩
                  have HX6 := Lib.hid (And.intro (HXW.out.1.trans (Exc.of hbc)) (HXW.out.2.below hbc HXW.out.2.lt))
                  clear hbc b9 HSX HXW HML HCP
                  obtain ⟨bo, hbo⟩ : ∃ bo, decide (0 < cv) = bo := ⟨_, rfl⟩
                  rw [hbo]
                  have HBO := Lib.hid hbo
                  clear hbo
                  cases bo with
                  | true =>
                    have hgt : 0 < cv := of_decide_eq_true HBO.out
                    have ha := HAB.out.1 hgt
                    have hfin : PickRes ql (Dice.next s) j true := by
                      rw [HU.out]
                      exact .inl ⟨rfl, by have := HLN.out; omega, ha, fun i hi => hno.out i hi⟩
                    have HF := Lib.hid hfin
                    clear hgt ha hfin
                    go_wp2
                    go_returns
                    exact .inr ⟨HNN.out, HTN.out, j, true, HF.out, rfl, HX6.out.1, HX6.out.2⟩
                  | false =>
                    have hgt : ¬ 0 < cv := of_decide_eq_false HBO.out
                    have hno2 : Hid (∀ i, i < j + 1 → ¬ Above ql u i) := Lib.hid fun i hi => by
                      rcases Nat.lt_or_ge i j with h | h
                      · exact hno.out i h
                      · obtain rfl : i = j := by omega
                        exact fun ha => hgt (HAB.out.2 ha)
                    have HGT := Lib.hid hgt
                    clear hgt
                    go_wp2
                    all_goals exact ⟨⟨j + 1, by omega, by go_num, hno2, hS6.out⟩, by simp [intOf]; omega⟩
            · obtain rfl : j = k := by omega
              have j1 : ¬ (j : Int) < (j : Int) := by omega
              have hfin : PickRes ql (Dice.next s) 0 false := by
                rw [HU.out]
                exact .inr ⟨rfl, rfl, fun i hi => hno.out i (by have := HLN.out; omega)⟩
              have HF := Lib.hid (And.intro hfin (And.intro (HXZ.out.over hx hw9) (HDZ.out.exc hx hb9)))
              clear hfin hq hx
              go_wp2
              go_returns
              exact .inr ⟨HNN.out, HTN.out, 0, false, HF.out.1, rfl, HF.out.2.1, HF.out.2.2⟩
end Go.Proofs.YtjmbpnogicdkgaaGreatDoor
