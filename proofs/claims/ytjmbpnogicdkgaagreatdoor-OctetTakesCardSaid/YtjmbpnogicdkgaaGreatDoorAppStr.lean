/-
  'append(b, s...)': a string's bytes onto an owned slice of bytes.
-/
import Derived.Test.YtjmbpnogicdkgaaGreatDoorMem
import Derived.Deep.AppendSrc
namespace Go.Proofs.YtjmbpnogicdkgaaGreatDoor
open Go.RowKit
set_option linter.unusedSimpArgs false
set_option linter.unusedVariables false

theorem set_cells {g : Nat} {t : TypeId} (vs : List Value) : ∀ (o : Nat) (w : World) (cs : List Value), Blk w g t cs.toArray → o + vs.length ≤ cs.length → Blk (w.setCells g o vs) g t (cs.take o ++ vs ++ cs.drop (o + vs.length)).toArray := by
  induction vs with
  | nil =>
    intro o w cs h _
    simp only [World.setCells, List.append_nil, List.length_nil, Nat.add_zero, List.take_append_drop]
    exact h
  | cons v r ih =>
    intro o w cs h hl
    simp only [List.length_cons] at hl
    have h1 := h.set_ o v
    rw [List.setIfInBounds_toArray] at h1
    have h2 := ih (o + 1) _ (cs.set o v) h1 (by rw [List.length_set]; omega)
    simp only [World.setCells]
    have e1 : (cs.set o v).take (o + 1) = cs.take o ++ [v] := by
      rw [List.take_set]
      rw [List.take_succ_eq_append_getElem (by omega)]
      rw [List.set_append_right _ _ (by simp; omega)]
      simp [Nat.min_eq_left (show o ≤ cs.length by omega)]
    rw [e1, List.drop_set_of_lt (by omega)] at h2
    have e2 : o + 1 + r.length = o + (v :: r).length := by simp; omega
    rw [e2, List.append_assoc (cs.take o) [v] r] at h2
    exact h2
theorem set_cells_same {g : Nat} (vs : List Value) : ∀ (o : Nat) (w : World), (w.setCells g o vs).os = w.os ∧ (w.setCells g o vs).tape = w.tape ∧ (w.setCells g o vs).output = w.output ∧ (w.setCells g o vs).heap.size = w.heap.size ∧ ∀ k, k ≠ g → (w.setCells g o vs).heap[k]? = w.heap[k]? := by
  induction vs with
  | nil => intro o w; exact ⟨rfl, rfl, rfl, rfl, fun _ _ => rfl⟩
  | cons v r ih =>
    intro o w
    obtain ⟨h1, h2, h3, h4, h5⟩ := ih (o + 1) (w.setCell ⟨g, o, none⟩ v)
    refine ⟨h1, h2, h3, by rw [World.setCells, h4, World.size_setCell], fun k hk => ?_⟩
    exact (h5 k hk).trans (Below.heap_setCell w _ _ k hk)
theorem byteCells_map (s : ByteArray) : byteCells s = s.data.toList.map u8v := rfl
/-- the run of 'append(b, s...)' -/
theorem run_append_str {P : Program} {t tx ty e : TypeId} (E : Elt P t e (.int .u8 0) 1) (hx : P.underlying tx = some .string) (w : World) (v : Value) (l : List UInt8) (s : ByteArray) (ho : Own w e u8v v l) (hs : l.length + s.size ≤ 140737488355328) :
    ∃ v' w', (Builtin.append_ #[t, tx] ty #[v, .string s]).run P w = .ok v' w' ∧ Own w' e u8v v' (l ++ s.data.toList) ∧ Grew w w' v v' := by
  obtain ⟨i, hi, hz0, hz1, hz2⟩ := info_parts E.info
  have src : Src P i.size tx (.string s) s.size (byteCells s) w := by rw [hz1]; exact Src.ofString w hx s
  have hsl : s.data.toList.length = s.size := by simp
  have grow : ∀ (base : Option Addr) (cap : Nat), v = .slice base l.length cap → cap < l.length + s.size → (Builtin.firstCells i.size l.length (.slice base l.length cap)).run P w.drew = .ok (l.map u8v).toArray w.drew →
      ∃ v' w', (Builtin.append_ #[t, tx] ty #[v, .string s]).run P w = .ok v' w' ∧ Own w' e u8v v' (l ++ s.data.toList) ∧ Grew w w' v v' := by
    intro base cap hv hc hold
    have hcapb : Builtin.nextslicecap (l.length + s.size) cap * i.bytes ≤ 281474976710656 := growslice_fits hc (by rw [hz2]; omega)
    have hr := run_append_grow_src (P := P) w t tx ty e i (.int .u8 0) E.under hi hz0 base l.length cap (l.map u8v) hold (.string s) s.size (byteCells s) src hc (by omega) hcapb
    rw [hv]
    have hge := grownCap_ge w (l.length + s.size) cap e
    have hle := grownCap_le_maxLen w (l.length + s.size) cap e (by unfold maxLen; omega)
    refine ⟨_, _, hr, ⟨by simp, .inr ⟨w.heap.size, _, _, by rw [List.length_append, hsl], Nat.zero_le _, heap_alloc_new w.drew _, by rw [List.length_append, hsl]; exact hge, hle, ?_, ?_⟩⟩, ?_⟩
    · simp only [Array.size_append, List.size_toArray, size_zeroCells, List.length_append, List.length_map, byteCells_length]
      have : (Value.int IntKind.u8 0).cells.size = 1 := rfl
      rw [this]
      omega
    · rw [byteCells_map, Array.toList_append, List.toList_toArray, ← List.map_append, Nat.mul_one]
      have e1 : (l ++ s.data.toList).length = ((l ++ s.data.toList).map u8v).length := by simp
      conv => lhs; rw [e1]
      exact List.take_left
    · exact ⟨rfl, rfl, rfl, by simp, fun k hk _ => Below.heap_alloc w.drew _ k hk, fun k hk => by simp [Value.ownBlock] at hk; exact .inr (by omega)⟩
  rcases ho.2 with ⟨h1, h2⟩ | ⟨g, cap, cur, h1, h2, h3, h4, h5, h6, h7⟩
  · have hl0 : l = [] := List.eq_nil_of_length_eq_zero h2
    subst hl0
    by_cases h0 : s.size = 0
    · have hse : s.data.toList = [] := List.eq_nil_of_length_eq_zero (by rw [hsl]; exact h0)
      refine ⟨v, w, ?_, by rw [hse, List.append_nil]; exact ho, Grew.refl _ _⟩
      rw [h1]
      simp [Builtin.append_, run_underlying E.under, run_underlying hx, sizeOf, typeInfo, hi, Builtin.lenOf, h0, Builtin.firstCells, storeCells]
    · refine grow none 0 (by rw [h1]; rfl) (by simp; omega) ?_
      simp [Builtin.firstCells]
  · by_cases hroom : l.length + s.size ≤ cap
    · have hb : Blk w g e cur.toList.toArray := by rw [Array.toArray_toList]; exact h3
      have hcs : cur.toList.length = cap := by rw [Array.length_toList, h6, Nat.mul_one]
      have hcell : ∀ j, j < (byteCells s).length → (w.cell? ⟨g, 0 + l.length * i.size + j, none⟩).isSome = true := by
        intro j hj
        rw [byteCells_length] at hj
        rw [hz1, hb.cell]
        simp
        omega
      have hfr : ∀ j, j < (byteCells s).length → w.frozen? ⟨g, 0 + l.length * i.size + j, none⟩ = false := fun j _ => hb.frozen _
      have hr := run_append_room_src (P := P) w t tx ty e i E.under hi g 0 l.length cap (.string s) s.size (byteCells s) src hroom hcell hfr
      rw [hz1, Nat.mul_one, Nat.zero_add] at hr
      have hb2 := set_cells (byteCells s) l.length w cur.toList hb (by rw [byteCells_length, hcs]; exact hroom)
      obtain ⟨g1, g2, g3, g4, g5⟩ := set_cells_same (g := g) (byteCells s) l.length w
      rw [h1]
      refine ⟨_, _, hr, ⟨by simp, .inr ⟨g, cap, _, by rw [List.length_append, hsl], Nat.zero_le _, hb2, by rw [List.length_append, hsl]; exact hroom, h5, ?_, ?_⟩⟩, ⟨g1, g2, g3, by rw [g4]; exact Nat.le_refl _, fun k hk hne => g5 k (fun e => hne (by rw [e]; rfl)), fun k hk => .inl hk⟩⟩
      · simp only [List.size_toArray, List.length_append, List.length_take, List.length_drop, byteCells_length, hcs]
        omega
      · rw [Nat.mul_one] at h7
        rw [List.toList_toArray, h7, byteCells_map, ← List.map_append, Nat.mul_one]
        have e1 : (l ++ s.data.toList).length = ((l ++ s.data.toList).map u8v).length := by simp
        conv => lhs; rw [e1]
        exact List.take_left
    · refine grow (some ⟨g, 0, none⟩) cap h1 (by omega) ?_
      rw [hz1]
      exact run_firstCells_some w.drew 1 l.length ⟨g, 0, none⟩ l.length cap (l.map u8v) (by simp) (by rw [h1] at ho; exact World.ownsRow.cells ho (g := g) rfl)
section
variable {P : Program} {ops : Array Oper} {rest : List Oper} {o : Oper} {a : Act} {Q : Exit → Act → World → Prop} {t tx e : TypeId}
/-- 'append(b, s...)' as an operation -/
theorem appS (E : Elt P t e (.int .u8 0) 1) (hx : P.underlying tx = some .string) (hgd : o.guard = none) (s x : Operand)
    (ho : o.op = .call { callee := .builtin .append, args := #[s, x], argTypes := #[t, tx] })
    (w : World) (v : Value) (l : List UInt8) (str : ByteArray) (hs : a.eval s = v) (hown : Own w e u8v v l) (hxv : a.eval x = .string str) (hlen : l.length + str.size ≤ 140737488355328)
    (h : ∀ v' w1, Own w1 e u8v v' (l ++ str.data.toList) → Grew w w1 v v' → wpList P ops Q rest (a.put o.dst v') w1) : wpList P ops Q (o :: rest) a w := by
  obtain ⟨v', w', hrun, h2, h3⟩ := run_append_str (P := P) (t := t) (tx := tx) (ty := o.type) E hx w v l str hown hlen
  refine wpList_plain hgd fun K hK => ?_
  unfold Oper.wp execOp
  simp only [ho, resolve, invoke, builtin, Sem.run_bind, Sem.run_pure, Result.andThen_ok, List.map_toArray, List.map_cons, List.map_nil, hs, hxv, hrun]
  exact hK _ _ (h v' w' h2 h3)
end
end Go.Proofs.YtjmbpnogicdkgaaGreatDoor
