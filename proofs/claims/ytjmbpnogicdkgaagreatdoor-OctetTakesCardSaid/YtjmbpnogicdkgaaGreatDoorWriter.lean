/-
  octet.Writer: NewWriter, Count, Whole, Bytes; chapter 4's example.
-/
import Derived.Test.YtjmbpnogicdkgaaGreatDoorNatB
import Derived.Test.YtjmbpnogicdkgaaGreatDoorOctet
namespace Go.Proofs.YtjmbpnogicdkgaaGreatDoor
open Go.RowKit
set_option linter.unusedSimpArgs false
set_option linter.unusedVariables false

/-- block b is a Writer that holds the bytes l in the slice v -/
def IsW (w : World) (b : Nat) (v : Value) (l : List UInt8) : Prop := Blk w b 99 #[v] ∧ Own w 5 u8v v l

/-- a write: the Writer's block and its bytes have changed, and nothing else that was there -/
structure WGrew (w w' : World) (b : Nat) (v v' : Value) : Prop where
  os : w'.os = w.os
  tape : w'.tape = w.tape
  output : w'.output = w.output
  size : w.heap.size ≤ w'.heap.size
  block : ∀ k, k < w.heap.size → k ≠ b → some k ≠ v.ownBlock → w'.heap[k]? = w.heap[k]?
  own : ∀ k, v'.ownBlock = some k → v.ownBlock = some k ∨ w.heap.size ≤ k
theorem WGrew.trans {a b' c : World} {b : Nat} {v v' v'' : Value} (h : WGrew a b' b v v') (h' : WGrew b' c b v' v'') : WGrew a c b v v'' := by
  refine ⟨h'.os.trans h.os, h'.tape.trans h.tape, h'.output.trans h.output, Nat.le_trans h.size h'.size, fun k hk hb hne => ?_, fun k hk => ?_⟩
  · refine (h'.block k (Nat.lt_of_lt_of_le hk h.size) hb (fun e => ?_)).trans (h.block k hk hb hne)
    rcases h.own k e.symm with h1 | h1
    · exact hne h1.symm
    · omega
  · rcases h'.own k hk with h1 | h1
    · exact h.own k h1
    · exact .inr (Nat.le_trans h.size h1)
theorem WGrew.refl (w : World) (b : Nat) (v : Value) : WGrew w w b v v := ⟨rfl, rfl, rfl, Nat.le_refl _, fun _ _ _ _ => rfl, fun k h => .inl h⟩
theorem WGrew.of {w w1 : World} {b : Nat} {v v' : Value} (h : Grew w w1 v v') (u : Value) : WGrew w (w1.setCell ⟨b, 0, none⟩ u) b v v' :=
  ⟨h.os, h.tape, h.output, by rw [World.size_setCell]; exact h.size, fun k hk hb hne => (Below.heap_setCell w1 _ _ k hb).trans (h.block k hk hne), h.own⟩
theorem WGrew.below {w w1 : World} {B b : Nat} {v v' : Value} (h : WGrew w w1 b v v') (hB : B ≤ w.heap.size) (hb : B ≤ b) (hv : ∀ k, v.ownBlock = some k → B ≤ k) : Below B w w1 :=
  ⟨h.os, h.tape, h.output, h.size, fun k hk => h.block k (Nat.lt_of_lt_of_le hk hB) (by omega) (fun e => by have := hv k e.symm; omega)⟩
theorem WGrew.fresh {w w1 : World} {B b : Nat} {v v' : Value} (h : WGrew w w1 b v v') (hB : B ≤ w.heap.size) (hv : ∀ k, v.ownBlock = some k → B ≤ k) : ∀ k, v'.ownBlock = some k → B ≤ k := fun k hk => by
  rcases h.own k hk with h1 | h1
  · exact hv k h1
  · omega
theorem WGrew.pre {w w0 w1 : World} {b : Nat} {v v' : Value} (hb : Below w.heap.size w w0) (h : WGrew w0 w1 b v v') (hv : ∀ k, v.ownBlock = some k → k < w.heap.size) : WGrew w w1 b v v' :=
  ⟨h.os.trans hb.os, h.tape.trans hb.tape, h.output.trans hb.output, Nat.le_trans hb.size h.size, fun k hk hkb hne => (h.block k (Nat.lt_of_lt_of_le hk hb.size) hkb hne).trans (hb.block k hk), fun k hk => by
    rcases h.own k hk with h1 | h1
    · exact .inl h1
    · exact .inr (Nat.le_trans hb.size h1)⟩
theorem IsW.ne {w : World} {b : Nat} {v : Value} {l : List UInt8} (h : IsW w b v l) : v.ownBlock ≠ some b := by
  obtain ⟨h1, h2⟩ := h
  rcases h2.2 with ⟨rfl, _⟩ | ⟨g, cap, cur, rfl, _, hh, _⟩
  · simp [Value.ownBlock]
  · intro he
    have : g = b := by simpa [Value.ownBlock] using he
    subst this
    unfold Blk at h1
    rw [h1] at hh
    injection hh with hh
    injection hh with _ ht
    exact absurd ht (by decide)
theorem IsW.below {w w' : World} {b : Nat} {v : Value} {l : List UInt8} (h : IsW w b v l) (hb : Below w.heap.size w w') : IsW w' b v l :=
  ⟨h.1.below hb h.1.lt, h.2.below hb (fun k hk => h.2.lt k hk)⟩
theorem IsW.stored {w w1 : World} {b : Nat} {v v' : Value} {l l' : List UInt8} (h : IsW w b v l) (ho : Own w1 5 u8v v' l') (hg : Grew w w1 v v') : IsW (w1.setCell ⟨b, 0, none⟩ v') b v' l' := by
  have hne := h.ne
  have hb1 : Blk w1 b 99 #[v] := (hg.block b h.1.lt (fun e => hne e.symm)).trans h.1
  refine ⟨hb1.set_ 0 v', ?_⟩
  have hne' : v'.ownBlock ≠ some b := by
    have : IsW w1 b v l → True := fun _ => trivial
    intro e
    rcases hg.own b e with h1 | h1
    · exact hne h1
    · have := h.1.lt; omega
  refine ⟨ho.1, ?_⟩
  rcases ho.2 with h1 | ⟨g, cap, cur, h1, h2, h3, h4⟩
  · exact .inl h1
  · subst h1
    refine .inr ⟨g, cap, cur, rfl, h2, ?_, h4⟩
    rw [Below.heap_setCell w1 _ _ g (fun e => hne' (by simp [Value.ownBlock]; exact e))]
    exact h3

theorem new_writer (w : World) : Calls Tryz.prog 8 #[] w fun e w' => e = .returned (.pointer (some ⟨w.heap.size, 0, none⟩)) ∧ w.alloc (.cells #[.slice none 0 0] 99) = w' := by
  go_enter Tryz.func8, Tryz.ntmps8
  go_wp2
  go_ret
  exact ⟨rfl, rfl⟩
theorem IsW.new (w : World) : IsW (w.alloc (.cells #[.slice none 0 0] 99)) w.heap.size (.slice none 0 0) [] := ⟨Blk.new _ _ _, Own.nil_ _ _ _⟩

set_option maxRecDepth 100000 in
set_option maxHeartbeats 400000 in
theorem writer_count (b : Nat) (v : Value) (l : List UInt8) (z : Int) (w : World) (h : IsW w b v l) (hz : z ≤ 9223372036854775807) (hl : l.length ≤ 1099511627776) :
    Calls Tryz.prog 56 #[.pointer (some ⟨b, 0, none⟩), .int .i64 z] w fun e w' => ∃ v', e = .returned (.tuple #[]) ∧ IsW w' b v' (l ++ countB z.toNat) ∧ WGrew w w' b v v' := by
  obtain ⟨A, c, rfl, hc1, hc2⟩ := h.2.form
  have q0 := h.1.cell 0
  simp at q0
  go_enter Tryz.func56, Tryz.ntmps56
  go_wp2_with fail
  refine (append_count_int _ l z _ rfl w h.2 (by omega) hl).mono ?_
  rintro e w1 ⟨v1, rfl, ho1, hg1⟩
  have hst := h.stored ho1 hg1
  have hb1 : Blk w1 b 99 #[.slice A l.length c] := (hg1.block b h.1.lt (fun e => h.ne e.symm)).trans h.1
  have q1 := hb1.cell 0
  have f1 := hb1.frozen 0
  simp at q1
  clear q0
  obtain ⟨A1, c1, hv1, _, _⟩ := ho1.form
  have hw := WGrew.of (b := b) hg1 v1
  rw [hv1] at hst hw ⊢
  clear hv1 ho1 hg1
  generalize (l ++ countB z.toNat).length = L at *
  go_wp2
  go_end0
  exact ⟨_, rfl, hst, hw⟩

theorem Own.wkept {α : Type} {w w' : World} {e : TypeId} {f : α → Value} {u v v' : Value} {l : List α} {b : Nat} (h : Own w e f u l) (hg : WGrew w w' b v v') (hb : ∀ k, u.ownBlock = some k → k ≠ b ∧ v.ownBlock ≠ some k) : Own w' e f u l := by
  refine ⟨h.1, ?_⟩
  rcases h.2 with h1 | ⟨g, cap, cur, h1, h2, h3, h4⟩
  · exact .inl h1
  · subst h1
    have hlt : g < w.heap.size := by
      rcases Nat.lt_or_ge g w.heap.size with hlt | hge
      · exact hlt
      · rw [Array.getElem?_eq_none hge] at h3; cases h3
    obtain ⟨hb1, hb2⟩ := hb g rfl
    exact .inr ⟨g, cap, cur, rfl, h2, (hg.block g hlt hb1 (fun e => hb2 e.symm)).trans h3, h4⟩
theorem Blk.wkept {w w' : World} {g b : Nat} {t : TypeId} {cs : Array Value} {v v' : Value} (h : Blk w g t cs) (hg : WGrew w w' b v v') (h1 : g ≠ b) (h2 : v.ownBlock ≠ some g) : Blk w' g t cs :=
  (hg.block g h.lt h1 (fun e => h2 e.symm)).trans h

/-- an integer's bytes -/
def wholeB (z : Int) : List UInt8 := countB (2 * nbytes z.natAbs + (if z < 0 then 1 else 0)) ++ natB z.natAbs

set_option maxRecDepth 100000 in
set_option maxHeartbeats 1000000 in
theorem writer_whole (b : Nat) (v : Value) (l : List UInt8) (z : Int) (w : World) (h : IsW w b v l) (hz : blen z.natAbs ≤ 1099511627776) (hl : l.length ≤ 1099511627000) :
    Calls Tryz.prog 57 #[.pointer (some ⟨b, 0, none⟩), intV z] w fun e w' => ∃ v', e = .returned (.tuple #[]) ∧ IsW w' b v' (l ++ wholeB z) ∧ WGrew w w' b v v' := by
  have hvlt := h.2.lt
  have hblt := h.1.lt
  have hnb : nbytes z.natAbs ≤ 137438953472 := by unfold nbytes; omega
  unfold intV
  go_enter Tryz.func57, Tryz.ntmps57
  go_wp2_with fail
  refine (whole_abs z _).mono ?_
  rintro e w1 ⟨rfl, hb1⟩
  have hbk := (Blk.new w 68 #[.bool (decide (z < 0)), .int .u64 (lo z.natAbs : Int), .string (mo z.natAbs)]).below hb1 (by simp)
  have hB1 : Below w.heap.size w w1 := ((Below.refl _ _).alloc (Nat.le_refl _) _).trans (hb1.mono (by simp))
  have hz1 := hbk.lt
  clear hb1
  go_wp2_with fail
  refine (nat_bytes z.natAbs _ (by omega)).mono ?_
  rintro e w2 ⟨v2, rfl, ho2, hb2, hf2⟩
  have hbk2 := hbk.below hb2 hz1
  have hB2 := hB1.trans (hb2.mono hB1.size)
  obtain ⟨A2, c2, hv2, hc3, hc4⟩ := ho2.form
  rw [natB_len] at hv2 hc3
  rw [hv2] at ho2 hf2
  rw [hv2]
  clear hv2 hbk hb2
  have q0 := hbk2.cell 0
  have q1 := hbk2.cell 1
  have q2 := hbk2.cell 2
  simp at q0 q1 q2
  obtain ⟨N, hN⟩ : ∃ N, nbytes z.natAbs = N := ⟨_, rfl⟩
  rw [hN] at hc3 hnb ho2 hf2
  rw [hN]
  have HN := Lib.hid hN
  clear hN
  go_wp2_with fail
  refine (whole_sign z _ (by omega)).mono ?_
  rintro e w3 ⟨rfl, hb3⟩
  have hB3 := hB2.trans (hb3.mono hB2.size)
  have ho3 := ho2.below hb3 (fun k hk => ho2.lt k hk)
  have hz3 := hb3.size
  have hz2 := hbk2.lt
  have hw3 : IsW w3 b v l := h.below hB3
  clear q0 q1 q2 hbk2 hb3 ho2 hB2
  obtain ⟨M, hM⟩ : ∃ M, 2 * N + (if z < 0 then 1 else 0) = M := ⟨_, rfl⟩
  have hMle : M ≤ 274877906945 := by rw [← hM]; split <;> omega
  have HM := Lib.hid hM
  clear hM
  have hcl : (countB M).length ≤ 10 := countF_len 9 M
  have hM2 : (if z < 0 then 2 * (N : Int) + 1 else 2 * (N : Int)) = (M : Int) := by
    have := HM.out
    split
    · rename_i hneg; rw [if_pos hneg] at this; omega
    · rename_i hneg; rw [if_neg hneg] at this; omega
  have hsg : (z < 0 ∧ decide (z.sign < 0) = true ∧ 2 * (N : Int) + 1 = (M : Int)) ∨ (¬ z < 0 ∧ decide (z.sign < 0) = false ∧ 2 * (N : Int) = (M : Int)) := by
    by_cases hneg : z < 0
    · rw [if_pos hneg] at hM2
      exact .inl ⟨hneg, by rw [Int.sign_eq_neg_one_of_neg hneg]; rfl, hM2⟩
    · rw [if_neg hneg] at hM2
      refine .inr ⟨hneg, ?_, hM2⟩
      by_cases h0 : z = 0
      · subst h0; rfl
      · rw [Int.sign_eq_one_of_pos (by omega)]; rfl
  clear hM2
  rcases hsg with ⟨hneg, hsg, hM2⟩ | ⟨hneg, hsg, hM2⟩
  all_goals
    go_wp2_with fail
    refine (writer_count b v l (M : Int) w3 hw3 (by omega) (by omega)).mono ?_
    rintro e w4 ⟨v4, rfl, hw4, hg4⟩
    rw [Int.toNat_natCast] at hw4
    have ho4 := ho3.wkept hg4 (fun k hk => ⟨by have := hf2 k hk; omega, fun e => by have := hvlt k e; have := hf2 k hk; omega⟩)
    have hll : (l ++ countB M).length ≤ 1099511627010 := by rw [List.length_append]; omega
    generalize hL4 : l ++ countB M = l4 at hw4 hll
    have HL4 := Lib.hid hL4
    clear hL4
    obtain ⟨A4, c4', hv4, _, _⟩ := hw4.2.form
    rw [hv4] at hw4 hg4
    clear hv4 hM2 hsg hw3 ho3
    have q4 := hw4.1.cell 0
    simp at q4
    have hrd := Own.reads ho4
    have hnl := natB_len z.natAbs
    rw [HN.out] at hnl
    rw [hnl] at hrd
    clear hnl
    go_wp2_with (at_builtin; refine appN Tryz.eltU8 rfl (.tmp 24) (.tmp 25) rfl w4 _ l4 _ A2 N c2 (natB z.natAbs) rfl hw4.2 rfl hrd u8v_one ?_ ?_ ?_)
    · unfold maxLen; omega
    · omega
    intro v5 w5 ho5 hg5
    have hst := hw4.stored ho5 hg5
    have hb5 : Blk w5 b 99 #[.slice A4 l4.length c4'] := (hg5.block b hw4.1.lt (fun e => hw4.ne e.symm)).trans hw4.1
    have q5 := hb5.cell 0
    have f5 := hb5.frozen 0
    simp at q5
    have hw5 := (WGrew.pre hB3 hg4 hvlt).trans (WGrew.of (b := b) hg5 v5)
    obtain ⟨A5, c5', hv5, _, _⟩ := ho5.form
    have hfin : l4 ++ natB z.natAbs = l ++ wholeB z := by
      unfold wholeB
      rw [HN.out, HM.out, ← HL4.out, List.append_assoc]
    rw [hfin] at hst
    rw [hv5] at hst hw5 ⊢
    clear hv5 ho5 hg5 q4 hfin hg4
    generalize (l4 ++ natB z.natAbs).length = L5 at *
    go_wp2
    go_end0
    exact ⟨_, rfl, hst, hw5⟩

set_option maxRecDepth 100000 in
set_option maxHeartbeats 400000 in
theorem writer_bytes (b : Nat) (v : Value) (l : List UInt8) (w : World) (h : IsW w b v l) (hl : l.length ≤ 1099511627776) :
    Calls Tryz.prog 16 #[.pointer (some ⟨b, 0, none⟩)] w fun e w' => ∃ v', e = .returned v' ∧ NewB w w' v' l := by
  obtain ⟨A, c, rfl, hc1, hc2⟩ := h.2.form
  have q0 := h.1.cell 0
  simp at q0
  go_enter Tryz.func16, Tryz.ntmps16
  go_wp2_with fail
  refine (octet_exact _ _ _ _ _ _ (Own.reads h.2) (Nat.le_refl _) (by omega)).mono ?_
  rintro e w1 ⟨v1, rfl, hn⟩
  go_wp2
  go_ret
  exact ⟨v1, rfl, hn⟩
end Go.Proofs.YtjmbpnogicdkgaaGreatDoor
