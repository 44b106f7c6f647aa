/-
  The document's Total.
-/
import Derived.Test.YtjmbpnogicdkgaaGreatDoorRefRow
import Derived.Deep.DeepCutAuto
import Derived.Deep.CutBlock
namespace Go.Proofs.YtjmbpnogicdkgaaGreatDoor
open Go.RowKit
set_option linter.unusedSimpArgs false
set_option linter.unusedVariables false

/-- a fraction is in memory behind the stores of another box -/
theorem IsQ.set3 {w : World} {B g : Nat} {V : Value} {q : Rat} {t : TypeId} {a : Bool} {A A' : Option Addr} {l c l' c' : Nat} (h : IsQ w B V q) (hb : Blk w g t #[.bool a, .slice A l c, .slice A' l' c']) (x : Bool) (X X' : Option Addr) (m d m' d' : Nat) :
    IsQ (((w.setCell ⟨g, 0, none⟩ (.bool x)).setCell ⟨g, 1, none⟩ (.slice X m d)).setCell ⟨g, 2, none⟩ (.slice X' m' d')) B V q := by
  obtain ⟨v, v', h1, h2, h3⟩ := h
  exact ⟨v, v', h1, h2.set3 hb (bool_ne _) (slice_ne _ _ _) (slice_ne _ _ _) _ _ _ (bool_ne _) (slice_ne _ _ _), h3.set3 hb (bool_ne _) (slice_ne _ _ _) (slice_ne _ _ _) _ _ _ (bool_ne _) (slice_ne _ _ _)⟩
/-- the result's box b0 and the sum's box b3 -/
def AccRel (w : World) (b0 b3 : Nat) (s : Rat) (wr : World) : Prop :=
  ∃ g A l c A' l' c', Blk wr b0 36 #[.bool false, .slice none 0 0, .slice none 0 0] ∧ Blk wr b3 36 #[.bool g, .slice A l c, .slice A' l' c'] ∧ IsQ wr wr.heap.size (.agg #[.bool g, .slice A l c, .slice A' l' c']) s ∧ Below w.heap.size w wr
theorem AccRel.store {w wr : World} {b0 b3 : Nat} {s : Rat} {g x : Bool} {A A' X X' : Option Addr} {l c l' c' m d m' d' : Nat} (h0 : Blk wr b0 36 #[.bool false, .slice none 0 0, .slice none 0 0]) (h3 : Blk wr b3 36 #[.bool g, .slice A l c, .slice A' l' c'])
    (hq : IsQ wr wr.heap.size (.agg #[.bool x, .slice X m d, .slice X' m' d']) s) (hb : Below w.heap.size w wr) (hne : b0 ≠ b3) (hg : w.heap.size ≤ b3) :
    AccRel w b0 b3 s (((wr.setCell ⟨b3, 0, none⟩ (.bool x)).setCell ⟨b3, 1, none⟩ (.slice X m d)).setCell ⟨b3, 2, none⟩ (.slice X' m' d')) := by
  refine ⟨x, X, m, d, X', m', d', ?_, ?_, ?_, bset3 hb hg _ _ _⟩
  · exact ((h0.far (p := ⟨b3, 0, none⟩) hne (.bool x)).far (p := ⟨b3, 1, none⟩) hne (.slice X m d)).far (p := ⟨b3, 2, none⟩) hne (.slice X' m' d')
  · simpa using ((h3.set_ 0 (.bool x)).set_ 1 (.slice X m d)).set_ 2 (.slice X' m' d')
  · rw [World.size_setCell, World.size_setCell, World.size_setCell]
    exact hq.set3 h3 x X X' m d m' d'
set_option maxRecDepth 100000 in
set_option maxHeartbeats 2000000 in
theorem ref_total (A : Option Addr) (n c B m : Nat) (ql : List Rat) (w : World) (h : ReadsR w B A n ql) (hB : B ≤ w.heap.size) (hn : n ≤ 1000000) (hm : m ≤ 60000) (hl : ∀ x ∈ ql, QS m x) :
    Calls Tryz.prog 33 #[.slice A n c] w (RetQ (sumQ ql) w) := by
  have HS := Lib.hid (QS.sum ql hl)
  have HL := Lib.hid hl
  have HLN := Lib.hid h.len
  have HR := Lib.hid h
  clear h hl
  have b0 := Blk.new w  36 #[.bool false, .slice none 0 0, .slice none 0 0]; have hB := balloc1 w (.cells #[.bool false, .slice none 0 0, .slice none 0 0] 36); have hZ := Lib.hid (show (w.alloc (.cells #[.bool false, .slice none 0 0, .slice none 0 0] 36)).heap.size = w.heap.size + 1 from by simp)
  go_enter Tryz.func33, Tryz.ntmps33
  go_wp2_with fail
  generalize (w.alloc (.cells #[.bool false, .slice none 0 0, .slice none 0 0] 36)) = W at *
  refine (ref_of 0 W (by omega) (by omega)).mono ?_
  rintro e w1 ⟨v1, rfl, hR1, hw1⟩
  obtain ⟨g1, A1, l1, c1c, A1', l1', c1c', rfl⟩ := hR1.shape
  have b0 := b0.below hw1 b0.lt
  have hb01 := b0.lt
  have b0 := b0.alloc (.cells #[.bool g1, .slice A1 l1 c1c, .slice A1' l1' c1c'] 36)
  have hal := balloc1 w1 (.cells #[.bool g1, .slice A1 l1 c1c, .slice A1' l1' c1c'] 36)
  have HI : Hid (AccRel w w.heap.size w1.heap.size (sumQ (ql.take 0)) (w1.alloc (.cells #[.bool g1, .slice A1 l1 c1c, .slice A1' l1' c1c'] 36))) :=
    Lib.hid ⟨g1, A1, l1, c1c, A1', l1', c1c', b0, Blk.new _ _ _, (hR1.next (Nat.le_refl _) hal).more hal.size, bthen (bthen hB hw1) hal⟩
  have hB1 := bthen hB hw1
  have hb3 : w.heap.size ≤ w1.heap.size := hB1.size
  clear b0 hal hR1 hB hB1 hw1
  go_wp2_with fail
  generalize w1.alloc (.cells #[.bool g1, .slice A1 l1 c1c, .slice A1' l1' c1c'] 36) = w2 at *
  generalize w1.heap.size = b3 at *
  have hne : w.heap.size ≠ b3 := by omega
  have hne1 : ¬ w.heap.size = b3 := hne
  have hne2 : ¬ b3 = w.heap.size := by omega
  go_loopw [4] (fun p wr => ∃ (k : Nat), k ≤ n ∧ p = .int .i64 (k : Int) ∧ AccRel w w.heap.size b3 (sumQ (ql.take k)) wr) (fun p _ => n - (intOf p).toNat)
  case atStart => exact ⟨0, by omega, rfl, HI.out⟩
  case round =>
    obtain ⟨k, hk, rfl, g, Aa, l, c9, Aa', l', c9', h0, h3, hq, hbel⟩ := hrel
    rename World => wr
    clear HI
    by_cases hkn : k < n
    · have k1 : (k : Int) < (n : Int) := by omega
      obtain ⟨ad, gg, o, r, q, rfl, hP, hgB, hx, x0, x1, x2, hiq⟩ := (HR.out.below (hbel.mono hB)).cells hkn
      have hqs : QS 68719476736 (sumQ (ql.take k)) := by
        refine (HS.out k).mono ?_
        have := Nat.mul_le_mul (show k ≤ 1000000 by omega) (show m + 1 ≤ 60001 by omega)
        omega
      have hqx : QS 68719476736 q := (HL.out q (List.mem_of_getElem? hx)).mono (by omega)
      have had := ref_add _ _ _ _ _ wr.drew (hq.next (Nat.le_refl _) (bdrew0 wr)) ((hiq.next (Nat.le_trans hB hbel.size) (bdrew0 wr)).more (Nat.le_trans hB hbel.size)) (Nat.le_refl _) hqs hqx
      rw [← sumQ_take ql k q hx] at had
      obtain ⟨rg, rA, rl, rc, rA', rl', rc'⟩ := r
      unfold RC.v at had
      simp only [] at x0 x1 x2 had
      have HAD := Lib.hid had
      have HB := Lib.hid hbel
      clear had hqs hqx hx hq hiq
      obtain ⟨h3q0, h3q1, h3q2⟩ := h3.c3
      go_upto_region 5 with fail
      first | (go_region_with (go_at_call 24; (with_reducible refine HAD.out.mono ?_); rintro e w5 ⟨v5, rfl, hR5, hw5⟩; obtain ⟨g5, A5, l5, c5, A5', l5', c5', hv5⟩ := hR5.shape; subst hv5; have hc5 := bthen (bdrew0 wr) hw5; have d0 := h0.below hc5 h0.lt; have d3 := h3.below hc5 h3.lt; have HF := Lib.hid (AccRel.store (w := w) d0 d3 hR5 (bthen HB.out hc5) hne hb3); obtain ⟨d3q0, d3q1, d3q2, d3f0, d3f1, d3f2, d3s0, d3s1, d3s2⟩ := d3.f3)) | fail
      all_goals
        go_wp2
        exact ⟨⟨k + 1, by omega, by go_num, HF.out⟩, by simp [intOf]; omega⟩
    · obtain rfl : k = n := by omega
      have k1 : ¬ (k : Int) < (k : Int) := by omega
      rw [List.take_of_length_le (by have := HLN.out; omega)] at hq
      have HF := Lib.hid (retQ_done (Below.refl _ _) hbel hq h0 (Nat.le_refl _))
      obtain ⟨h3q0, h3q1, h3q2⟩ := h3.c3
      obtain ⟨h0q0, h0q1, h0q2, h0f0, h0f1, h0f2, h0s0, h0s1, h0s2⟩ := h0.f3
      clear hq hbel
      go_wp2
      refine bodyPost_ret (v := .agg #[.bool g, .slice Aa l c9, .slice Aa' l' c9']) (by simp [results, Tryz.results33, go_sem, h0s0, h0s1, h0s2]) rfl ?_
      exact HF.out
section
variable {ops : Array Oper} {o : Oper} {a : Act} {Q : Exit → Act → World → Prop} {K : Act → World → Prop} {Z : Prop}
/-- 'append(v, q)' inside a region that draws its order -/
theorem stepR (hgd : o.guard = none) (s x : Operand)
    (ho : o.op = .call { callee := .builtin .append, args := #[s, x], argTypes := #[55, 55] })
    (wr : World) (v : Value) (ql : List Rat) (q : Rat) (g : Bool) (A : Option Addr) (l c : Nat) (A' : Option Addr) (l' c' : Nat) (hs : a.eval s = v) (hown : OwnR wr v ql) (hq : IsQ wr wr.heap.size (.agg #[.bool g, .slice A l c, .slice A' l' c']) q) (hx : a.eval x = .slice (some ⟨wr.heap.size, 0, none⟩) 1 1) (hl : ql.length ≤ 1000000)
    (h : ∀ v' w1, OwnR w1 v' (ql ++ [q]) → Grew wr w1 v v' → K (a.put o.dst v') w1) : if Region.wanted o (yielded ops a.tmps) = true then Oper.wp Tryz.prog o a (wr.alloc (.cells #[.bool g, .slice A l c, .slice A' l' c'] 36)) K Q else Z := by
  obtain ⟨rl, hr, he⟩ := hown
  have hrl := he.1
  refine stepW Tryz.eltR (by omega) hgd s x ho _ v rl (wr.heap.size + 1) (some ⟨wr.heap.size, 0, none⟩) 1 1 [⟨g, A, l, c, A', l', c'⟩] hs (hr.alloc _) hx (readsR1 wr ⟨g, A, l, c, A', l', c'⟩) RC.one (by unfold maxLen; omega) (by omega) ?_
  intro v' w1 h1 h2
  have hg : Grew wr w1 v v' := by
    refine ⟨h2.os, h2.tape, h2.output, Nat.le_trans (by simp) h2.size, fun k hk hne => (h2.block k (by simp; omega) hne).trans (Below.heap_alloc wr _ k hk), fun k hk => ?_⟩
    rcases h2.own k hk with h3 | h3
    · exact .inl h3
    · exact .inr (by simp at h3; omega)
  exact h v' w1 (OwnR.snoc (r := ⟨g, A, l, c, A', l', c'⟩) hr he hq h1 hg) hg
end
theorem OwnR.cell3 {w : World} {g n c : Nat} {ql : List Rat} (h : OwnR w (.slice (some ⟨g, 0, none⟩) n c) ql) {k : Nat} {q : Rat} (hq : ql[k]? = some q) :
    ∃ r : RC, w.cell? ⟨g, k * 3, none⟩ = some (.bool r.g) ∧ w.cell? ⟨g, k * 3 + 1, none⟩ = some (.slice r.A r.l r.c) ∧ w.cell? ⟨g, k * 3 + 2, none⟩ = some (.slice r.A' r.l' r.c') ∧ IsQ w w.heap.size r.v q := by
  obtain ⟨rl, h1, h2⟩ := h
  have hk : k < rl.length := by rw [h2.1]; exact (List.getElem?_eq_some_iff.1 hq).1
  have hn : n = rl.length := by
    obtain ⟨A, c', h3, _⟩ := h1.form
    injection h3
  subst hn
  have hr : rl[k]? = some rl[k] := List.getElem?_eq_getElem hk
  have hc : ∀ j, j < 3 → w.cell? ⟨g, k * 3 + j, none⟩ = (rl[k]).cs[j]? := fun j hj => by
    rw [World.ownsRow.cellAt h1 (k * 3 + j) (by omega)]
    exact flatW_at RC.len rl k j _ hr hj
  exact ⟨rl[k], hc 0 (by omega), hc 1 (by omega), hc 2 (by omega), h2.2 k _ q hr hq⟩
theorem IsQ.excR {w w' : World} {g n c : Nat} {V : Value} {q : Rat} {ql : List Rat} (h : IsQ w w.heap.size V q) (o : OwnR w (.slice (some ⟨g, 0, none⟩) n c) ql) (hx : Exc g w w') : IsQ w' w'.heap.size V q := by
  obtain ⟨rl, h1, _⟩ := o
  exact h.row h1 hx.size fun k hk hne => hx.block k hk fun e => hne (by rw [e]; rfl)
theorem Exc.grew {g : Nat} {X w w' : World} {v v' : Value} (h : Exc g X w) (hg : Grew w w' v v') (hf : ∀ b, v.ownBlock = some b → X.heap.size ≤ b) : Exc g X w' :=
  ⟨hg.os.trans h.os, hg.tape.trans h.tape, hg.output.trans h.output, Nat.le_trans h.size hg.size, fun k hk hne => (hg.block k (Nat.lt_of_lt_of_le hk h.size) (fun e => by have := hf k e.symm; omega)).trans (h.block k hk hne)⟩
end Go.Proofs.YtjmbpnogicdkgaaGreatDoor
