/-
  Slices that the callers own: a row whose cells are known, appended to again and again; the conversion of bytes to a string; copies.
-/
import Derived.Test.YtjmbpnogicdkgaaBase
import Derived.Maps.AppendAt
import Derived.Deep.AppendLies
import Derived.RegionTactic
import Derived.OwnWalk
import Derived.Laws.CopyOwn
import Derived.Laws.IdiomStrings
namespace Go.Proofs.Ytjmbpnogicdkgaa
open Go.RowKit
set_option linter.unusedSimpArgs false
set_option linter.unusedVariables false

section
variable {P : Program} (w : World)

theorem run_append_of_nil (base : Nat) (t ty e : TypeId) (i : TypeInfo) (size : Nat) (ht : P.underlying t = some (.slice e)) (hi : P.info? e = some i)
    (v : Value) (n : Nat) (xs : List Value) (hown : w.ownsRow base e size v n xs) (c : Nat) : (Builtin.append_ #[t, t] ty #[v, .slice none 0 c]).run P w = .ok v w := by
  rcases hown.2 with ⟨rfl, rfl⟩ | ⟨g, cap, cur, rfl, _, _, hnc, _⟩
  · simp [Builtin.append_, run_underlying ht, sizeOf, typeInfo, hi, Builtin.lenOf, Builtin.firstCells]
  · simp [Builtin.append_, run_underlying ht, sizeOf, typeInfo, hi, Builtin.lenOf, Builtin.firstCells, hnc, storeCells]

theorem run_append_any (base : Nat) (t ty e : TypeId) (i : TypeInfo) (z : Value) (size bytes : Nat) (ht : P.underlying t = some (.slice e)) (hi : P.info? e = some i) (hz : i.zero = some z)
    (hsize : i.size = size) (hby : i.bytes = bytes) (hzs : z.cells.size = size) (hsz : 0 < size)
    (v : Value) (n : Nat) (xs : List Value) (hown : w.ownsRow base e size v n xs)
    (B : Nat) (A : Option Addr) (m c : Nat) (news : List Value) (hr : Reads w B size A m news) (h1 : ∀ u ∈ news, u.oneCell' = true)
    (h63 : n + m ≤ maxLen) (hbytes : (n + m) * bytes ≤ 140737488355328) (hbase : base ≤ w.heap.size) :
    ∃ v' w', (Builtin.append_ #[t, t] ty #[v, .slice A m c]).run P w = .ok v' w' ∧ w'.ownsRow base e size v' (n + m) (xs ++ news) ∧ w.grownBy w' v.ownBlock ∧
      (v'.ownBlock = v.ownBlock ∨ v'.ownBlock = some w.heap.size) := by
  rcases A with _ | ad
  · have hm : m = 0 := by
      rcases Nat.eq_zero_or_pos m with h0 | h0
      · exact h0
      · obtain ⟨ad, h, _⟩ := hr.2 h0
        cases h
    subst hm
    have hn : news = [] := List.eq_nil_of_length_eq_zero (by simpa using hr.1)
    subst hn
    exact ⟨v, w, run_append_of_nil w base t ty e i size ht hi v n xs hown c, by simpa using hown, World.grownBy.refl w _, .inl rfl⟩
  · have hcells : ∀ j u, news[j]? = some u → w.cell? (ad.add j) = some u := by
      intro j u hu
      rcases Nat.eq_zero_or_pos m with h0 | h0
      · subst h0
        have hn : news = [] := List.eq_nil_of_length_eq_zero (by simpa using hr.1)
        subst hn
        simp at hu
      · obtain ⟨ad', h, _, hc⟩ := hr.2 h0
        injection h with h
        subst h
        exact hc j u hu
    obtain ⟨v', w', hrun, h2, h3, _, h5⟩ := run_append_own_at (P := P) w base t ty e i z size bytes ht hi hz hsize hby hzs hsz v n xs hown ad m c news hr.1 hcells h1 h63 hbytes hbase
    exact ⟨v', w', hrun, h2, h3, h5⟩

theorem wp_append_any {o : Oper} {a : Act} {K : Act → World → Prop} {Q : Exit → Act → World → Prop} (s x : Operand) (t : TypeId)
    (ho : o.op = .call { callee := .builtin .append, args := #[s, x], argTypes := #[t, t] })
    (base : Nat) (e : TypeId) (i : TypeInfo) (z : Value) (size bytes : Nat) (ht : P.underlying t = some (.slice e)) (hi : P.info? e = some i) (hz : i.zero = some z)
    (hsize : i.size = size) (hby : i.bytes = bytes) (hzs : z.cells.size = size) (hsz : 0 < size)
    (v : Value) (n : Nat) (xs : List Value) (hs : a.eval s = v) (hown : w.ownsRow base e size v n xs)
    (B : Nat) (A : Option Addr) (m c : Nat) (news : List Value) (hx : a.eval x = .slice A m c) (hr : Reads w B size A m news) (h1 : ∀ u ∈ news, u.oneCell' = true)
    (h63 : n + m ≤ maxLen) (hbytes : (n + m) * bytes ≤ 140737488355328) (hbase : base ≤ w.heap.size)
    (h : ∀ v' w', w'.ownsRow base e size v' (n + m) (xs ++ news) → w.grownBy w' v.ownBlock → (v'.ownBlock = v.ownBlock ∨ v'.ownBlock = some w.heap.size) → K (a.put o.dst v') w') : o.wp P a w K Q := by
  obtain ⟨v', w', hrun, h2, h3, h4⟩ := run_append_any (P := P) w base t o.type e i z size bytes ht hi hz hsize hby hzs hsz v n xs hown B A m c news hr h1 h63 hbytes hbase
  unfold Oper.wp execOp
  simp only [ho, resolve, invoke, builtin, Sem.run_bind, Sem.run_pure, Result.andThen_ok, List.map_toArray, List.map_cons, List.map_nil, hs, hx, hrun]
  exact h v' w' h2 h3 h4

theorem wpList_append_any {ops : Array Oper} {rest : List Oper} {o : Oper} {a : Act} {Q : Exit → Act → World → Prop} (hgd : o.guard = none) (s x : Operand) (t : TypeId)
    (ho : o.op = .call { callee := .builtin .append, args := #[s, x], argTypes := #[t, t] })
    (base : Nat) (e : TypeId) (i : TypeInfo) (z : Value) (size bytes : Nat) (ht : P.underlying t = some (.slice e)) (hi : P.info? e = some i) (hz : i.zero = some z)
    (hsize : i.size = size) (hby : i.bytes = bytes) (hzs : z.cells.size = size) (hsz : 0 < size)
    (v : Value) (n : Nat) (xs : List Value) (hs : a.eval s = v) (hown : w.ownsRow base e size v n xs)
    (B : Nat) (A : Option Addr) (m c : Nat) (news : List Value) (hx : a.eval x = .slice A m c) (hr : Reads w B size A m news) (h1 : ∀ u ∈ news, u.oneCell' = true)
    (h63 : n + m ≤ maxLen) (hbytes : (n + m) * bytes ≤ 140737488355328) (hbase : base ≤ w.heap.size)
    (h : ∀ v' w', w'.ownsRow base e size v' (n + m) (xs ++ news) → w.grownBy w' v.ownBlock → (v'.ownBlock = v.ownBlock ∨ v'.ownBlock = some w.heap.size) → wpList P ops Q rest (a.put o.dst v') w') : wpList P ops Q (o :: rest) a w :=
  wpList_plain hgd fun _ hK => wp_append_any w s x t ho base e i z size bytes ht hi hz hsize hby hzs hsz v n xs hs hown B A m c news hx hr h1 h63 hbytes hbase fun v' w' h2 h3 h4 => hK _ _ (h v' w' h2 h3 h4)

theorem step_append_any {ops : Array Oper} {o : Oper} {a : Act} {K : Act → World → Prop} {Q : Exit → Act → World → Prop} {E : Prop} (hgd : o.guard = none) (s x : Operand) (t : TypeId)
    (ho : o.op = .call { callee := .builtin .append, args := #[s, x], argTypes := #[t, t] })
    (base : Nat) (e : TypeId) (i : TypeInfo) (z : Value) (size bytes : Nat) (ht : P.underlying t = some (.slice e)) (hi : P.info? e = some i) (hz : i.zero = some z)
    (hsize : i.size = size) (hby : i.bytes = bytes) (hzs : z.cells.size = size) (hsz : 0 < size)
    (v : Value) (n : Nat) (xs : List Value) (hs : a.eval s = v) (hown : w.ownsRow base e size v n xs)
    (B : Nat) (A : Option Addr) (m c : Nat) (news : List Value) (hx : a.eval x = .slice A m c) (hr : Reads w B size A m news) (h1 : ∀ u ∈ news, u.oneCell' = true)
    (h63 : n + m ≤ maxLen) (hbytes : (n + m) * bytes ≤ 140737488355328) (hbase : base ≤ w.heap.size)
    (h : ∀ v' w', w'.ownsRow base e size v' (n + m) (xs ++ news) → w.grownBy w' v.ownBlock → (v'.ownBlock = v.ownBlock ∨ v'.ownBlock = some w.heap.size) → K (a.put o.dst v') w') :
    if Region.wanted o (yielded ops a.tmps) = true then Oper.wp P o a w K Q else E := by
  have hw : Region.wanted o (yielded ops a.tmps) = true := by simp [Region.wanted, hgd]
  rw [if_pos hw]
  exact wp_append_any w s x t ho base e i z size bytes ht hi hz hsize hby hzs hsz v n xs hs hown B A m c news hx hr h1 h63 hbytes hbase h
end

/-- the slice value v owns a row whose elements are f of the members of l -/
def Own {α : Type} (w : World) (e : TypeId) (f : α → Value) (v : Value) (l : List α) : Prop := w.ownsRow 0 e 1 v l.length (l.map f)

/-- w' is w with new blocks and writes to v's block alone; v' lies there or in a new block -/
structure Grew (w w' : World) (v v' : Value) : Prop where
  os : w'.os = w.os
  tape : w'.tape = w.tape
  output : w'.output = w.output
  size : w.heap.size ≤ w'.heap.size
  block : ∀ k, k < w.heap.size → some k ≠ v.ownBlock → w'.heap[k]? = w.heap[k]?
  own : ∀ k, v'.ownBlock = some k → v.ownBlock = some k ∨ w.heap.size ≤ k

section
variable {α : Type} {w w' a b c : World} {e : TypeId} {f : α → Value} {v v' v'' : Value} {l : List α}
theorem Grew.refl (w : World) (v : Value) : Grew w w v v := ⟨rfl, rfl, rfl, Nat.le_refl _, fun _ _ _ => rfl, fun k h => .inl h⟩
theorem Grew.trans (h : Grew a b v v') (h' : Grew b c v' v'') : Grew a c v v'' := by
  refine ⟨h'.os.trans h.os, h'.tape.trans h.tape, h'.output.trans h.output, Nat.le_trans h.size h'.size, fun k hk hne => ?_, fun k hk => ?_⟩
  · refine (h'.block k (Nat.lt_of_lt_of_le hk h.size) (fun e => ?_)).trans (h.block k hk hne)
    rcases h.own k e.symm with h1 | h1
    · exact hne h1.symm
    · omega
  · rcases h'.own k hk with h1 | h1
    · exact h.own k h1
    · exact .inr (Nat.le_trans h.size h1)
theorem Grew.alloc (h : Grew a b v v') (o : Obj) : Grew a (b.alloc o) v v' :=
  ⟨h.os, h.tape, h.output, Nat.le_trans h.size (by simp), fun k hk hne => (Below.heap_alloc b o k (Nat.lt_of_lt_of_le hk h.size)).trans (h.block k hk hne), h.own⟩
theorem Grew.drewN (h : Grew a b v v') (n : Nat) : Grew a (b.drewN n) v v' := ⟨h.os, h.tape, h.output, h.size, h.block, h.own⟩
theorem Grew.of_grown (h : a.grownBy b v.ownBlock) (h2 : v'.ownBlock = v.ownBlock ∨ v'.ownBlock = some a.heap.size) : Grew a b v v' :=
  ⟨h.os, h.tape, h.output, h.size, h.block, fun k hk => by
    rcases h2 with h2 | h2
    · exact .inl (by rw [← h2]; exact hk)
    · rw [h2] at hk
      injection hk with hk
      exact .inr (by omega)⟩
theorem Grew.below {B : Nat} (h : Grew a b v v') (hB : B ≤ a.heap.size) (hv : ∀ k, v.ownBlock = some k → B ≤ k) : Below B a b :=
  ⟨h.os, h.tape, h.output, h.size, fun k hk => h.block k (Nat.lt_of_lt_of_le hk hB) (fun e => by have := hv k e.symm; omega)⟩
theorem Grew.fresh {B : Nat} (h : Grew a b v v') (hB : B ≤ a.heap.size) (hv : ∀ k, v.ownBlock = some k → B ≤ k) : ∀ k, v'.ownBlock = some k → B ≤ k := fun k hk => by
  rcases h.own k hk with h1 | h1
  · exact hv k h1
  · omega
/-- a call that changes nothing that was there -/
theorem Grew.thenBelow (h : Grew a b v v') (h' : Below b.heap.size b c) : Grew a c v v' :=
  ⟨h'.os.trans h.os, h'.tape.trans h.tape, h'.output.trans h.output, Nat.le_trans h.size h'.size, fun k hk hne => (h'.block k (Nat.lt_of_lt_of_le hk h.size)).trans (h.block k hk hne), h.own⟩

theorem Own.nil_ (w : World) (e : TypeId) (f : α → Value) : Own w e f (.slice none 0 0) [] := World.ownsRow_nil w 0 e 1
theorem Own.form (h : Own w e f v l) : ∃ A c, v = .slice A l.length c ∧ l.length ≤ c ∧ c ≤ maxLen := by
  rcases h.2 with ⟨h1, h2⟩ | ⟨g, cap, cur, h1, _, _, h2, h3, _⟩
  · exact ⟨none, 0, by rw [h1, h2], by omega, by unfold maxLen; omega⟩
  · exact ⟨_, _, h1, h2, h3⟩
theorem Own.reads {A : Option Addr} {n k : Nat} (h : Own w e f (.slice A n k) l) : Reads w w.heap.size 1 A l.length (l.map f) := by
  have hn : n = l.length := by
    rcases h.2 with ⟨h1, h2⟩ | ⟨g, cap, cur, h1, _⟩
    · injection h1 with _ h1 _
      omega
    · injection h1
  subst hn
  exact Reads.of_own h
theorem Own.kept (h : Own w e f v l) {r r' : Value} (hg : Grew w w' r r') (hne : ∀ k, v.ownBlock = some k → r.ownBlock ≠ some k) : Own w' e f v l := by
  refine ⟨h.1, ?_⟩
  rcases h.2 with h1 | ⟨g, cap, cur, h1, h2, h3, h4⟩
  · exact .inl h1
  · subst h1
    have hlt : g < w.heap.size := by
      rcases Nat.lt_or_ge g w.heap.size with hlt | hge
      · exact hlt
      · rw [Array.getElem?_eq_none hge] at h3; cases h3
    exact .inr ⟨g, cap, cur, rfl, h2, (hg.block g hlt (fun e => hne g rfl e.symm)).trans h3, h4⟩
theorem Own.lt (h : Own w e f v l) : ∀ k, v.ownBlock = some k → k < w.heap.size := fun k hk => (World.ownsRow.lt h k hk).2
theorem Own.below (h : Own w e f v l) {B : Nat} (hb : Below B w w') (hB : ∀ k, v.ownBlock = some k → k < B) : Own w' e f v l := by
  refine ⟨h.1, ?_⟩
  rcases h.2 with h1 | ⟨g, cap, cur, h1, h2, h3, h4⟩
  · exact .inl h1
  · subst h1
    exact .inr ⟨g, cap, cur, rfl, h2, (hb.block g (hB g rfl)).trans h3, h4⟩
theorem Own.alloc (h : Own w e f v l) (o : Obj) : Own (w.alloc o) e f v l := World.ownsRow.alloc h o
theorem Own.drewN (h : Own w e f v l) (n : Nat) : Own (w.drewN n) e f v l := h
theorem Own.lit (w : World) (e : TypeId) (f : α → Value) (l : List α) (hm : l.length ≤ maxLen) : Own (w.alloc (.cells (l.map f).toArray e)) e f (.slice (some ⟨w.heap.size, 0, none⟩) l.length l.length) l :=
  ⟨by simp, .inr ⟨w.heap.size, l.length, (l.map f).toArray, rfl, Nat.zero_le _, heap_alloc_new w _, Nat.le_refl _, hm, by simp, by rw [Nat.mul_one, List.take_of_length_le (by simp)]⟩⟩
end

theorem Reads.one (w : World) (x : Value) (t : TypeId) : Reads (w.alloc (.cells #[x] t)) (w.heap.size + 1) 1 (some ⟨w.heap.size, 0, none⟩) 1 [x] :=
  ⟨rfl, fun _ => ⟨_, rfl, by simp, cell_one_new w x t⟩⟩

/-- bytes to a string -/
theorem run_string {P : Program} (w : World) (src dst e : TypeId) (A : Option Addr) (n c B : Nat) (bs : List UInt8) (hs : P.underlying src = some (.slice e)) (he : P.underlying e = some (.int .u8)) (hd : P.underlying dst = some .string)
    (h : Bytes w B A n bs) : (convert src dst (.slice A n c)).run P w = .ok (.string ⟨bs.toArray⟩) w := by
  have hl := h.len
  subst hl
  by_cases h0 : bs.length = 0
  · obtain rfl : bs = [] := List.eq_nil_of_length_eq_zero h0
    show (convert src dst (.slice A 0 c)).run P w = _
    cases A with
    | none =>
      rw [run_convert_bytes_string w src dst e none 0 c hs he hd]
      simp [Conv.bytesToString]
      rfl
    | some ad => exact run_convert_bytes_back w src dst e ad c [] hs he hd (fun j hj => by simp at hj)
  · obtain ⟨ad, rfl, hb, hc⟩ := h.2 (by omega)
    refine run_convert_bytes_back w src dst e ad c bs hs he hd (fun j hj => ?_)
    exact hc j _ (by simp [List.getElem?_eq_getElem hj, u8v])

/-- what the program's tables say of a slice type with elements of one cell -/
structure Elt (P : Program) (t e : TypeId) (z : Value) (bytes : Nat) : Prop where
  under : P.underlying t = some (.slice e)
  info : (P.info? e).map (fun i => (i.zero, i.size, i.bytes)) = some (some z, 1, bytes)
  one : z.cells.size = 1

section
variable {α : Type} {P : Program} {ops : Array Oper} {rest : List Oper} {o : Oper} {a : Act} {Q : Exit → Act → World → Prop} {t e : TypeId} {z : Value} {bytes : Nat} {f : α → Value}
/-- 'append(v, x)': one element onto an owned row -/
theorem app1 (E : Elt P t e z bytes) (hgd : o.guard = none) (s x : Operand)
    (ho : o.op = .call { callee := .builtin .append, args := #[s, x], argTypes := #[t, t] })
    (wr : World) (v : Value) (l : List α) (m : α) (y : Value) (hy : y = f m) (hs : a.eval s = v) (hown : Own wr e f v l) (hx : a.eval x = .slice (some ⟨wr.heap.size, 0, none⟩) 1 1)
    (hone : (f m).oneCell' = true) (h63 : l.length + 1 ≤ maxLen) (hb : (l.length + 1) * bytes ≤ 140737488355328)
    (h : ∀ v' w1, Own w1 e f v' (l ++ [m]) → Grew wr w1 v v' → wpList P ops Q rest (a.put o.dst v') w1) : wpList P ops Q (o :: rest) a (wr.alloc (.cells #[y] e)) := by
  subst hy
  obtain ⟨i0, hi0, hz0, hz1, hz2⟩ := info_parts E.info
  refine wpList_append_any _ hgd s x t ho 0 e i0 z 1 bytes E.under hi0 hz0 hz1 hz2 E.one (by omega) v l.length (l.map f) hs (Own.alloc hown _) (wr.heap.size + 1) (some ⟨wr.heap.size, 0, none⟩) 1 1 [f m] hx (Reads.one _ _ _)
    (by intro u hu; simp at hu; subst hu; exact hone) h63 hb (Nat.zero_le _) ?_
  intro v' w' hown' hgr hwh
  refine h v' w' ?_ (((Grew.refl wr v).alloc _).trans (Grew.of_grown hgr (by simpa using hwh)))
  unfold Own
  simpa using hown'
/-- 'append(v, src...)' -/
theorem appN (E : Elt P t e z bytes) (hgd : o.guard = none) (s x : Operand)
    (ho : o.op = .call { callee := .builtin .append, args := #[s, x], argTypes := #[t, t] })
    (w : World) (v : Value) (l : List α) (B : Nat) (A : Option Addr) (n c : Nat) (l2 : List α) (hs : a.eval s = v) (hown : Own w e f v l) (hx : a.eval x = .slice A n c)
    (hr : Reads w B 1 A n (l2.map f)) (hone : ∀ m, (f m).oneCell' = true) (h63 : l.length + n ≤ maxLen) (hb : (l.length + n) * bytes ≤ 140737488355328)
    (h : ∀ v' w1, Own w1 e f v' (l ++ l2) → Grew w w1 v v' → wpList P ops Q rest (a.put o.dst v') w1) : wpList P ops Q (o :: rest) a w := by
  obtain ⟨i0, hi0, hz0, hz1, hz2⟩ := info_parts E.info
  refine wpList_append_any _ hgd s x t ho 0 e i0 z 1 bytes E.under hi0 hz0 hz1 hz2 E.one (by omega) v l.length (l.map f) hs hown B A n c (l2.map f) hx hr
    (by intro u hu; simp at hu; obtain ⟨m, _, rfl⟩ := hu; exact hone m) h63 hb (Nat.zero_le _) ?_
  intro v' w' hown' hgr hwh
  refine h v' w' ?_ (Grew.of_grown hgr hwh)
  have hl := hr.lenf
  unfold Own
  rw [List.length_append, List.map_append, hl]
  exact hown'
end

/-- the address of a part of a slice: the model keeps the old one where no cell is left -/
def cutA (A : Option Addr) (m l size : Nat) : Option Addr := if m = l then A else A.map (·.add (l * size))
section
variable {P : Program} {t e : TypeId} {z : Value} {size bytes : Nat}
theorem run_cut (ht : P.underlying t = some (.slice e)) (hi : (P.info? e).map (fun i => (i.zero, i.size, i.bytes)) = some (some z, size, bytes)) (A : Option Addr) (n c : Nat) (k : IntKind) (l : Int) (h0 : 0 ≤ l) (h1 : l ≤ n) (w : World) :
    (Instr.slice t (.slice A n c) (some (.int k l)) none none).run P w = .ok (.slice (cutA A c l.toNat size) (n - l.toNat) (c - l.toNat)) w := by
  obtain ⟨i0, hi0, hz0, hz1, hz2⟩ := info_parts hi
  simp [Instr.slice, run_underlying ht, Instr.sliceBounds, Instr.sliceBound, asIntOf, sizeOf, typeInfo, hi0, h0, h1, hz1, cutA, Result.andThen]
theorem run_cut2 (ht : P.underlying t = some (.slice e)) (hi : (P.info? e).map (fun i => (i.zero, i.size, i.bytes)) = some (some z, size, bytes)) (A : Option Addr) (n c : Nat) (k k' : IntKind) (l h : Int) (h0 : 0 ≤ l) (h1 : l ≤ h) (h2 : h ≤ c) (w : World) :
    (Instr.slice t (.slice A n c) (some (.int k l)) (some (.int k' h)) none).run P w = .ok (.slice (cutA A c l.toNat size) (h.toNat - l.toNat) (c - l.toNat)) w := by
  obtain ⟨i0, hi0, hz0, hz1, hz2⟩ := info_parts hi
  have h3 : 0 ≤ h := by omega
  have h4 : max h 0 = h := by omega
  simp [h4, Instr.slice, run_underlying ht, Instr.sliceBounds, Instr.sliceBound, asIntOf, sizeOf, typeInfo, hi0, h0, h1, h2, h3, hz1, cutA, Result.andThen]
theorem run_cut3 (ht : P.underlying t = some (.slice e)) (hi : (P.info? e).map (fun i => (i.zero, i.size, i.bytes)) = some (some z, size, bytes)) (A : Option Addr) (n c : Nat) (k k' k'' : IntKind) (l h m : Int) (h0 : 0 ≤ l) (h1 : l ≤ h) (h2 : h ≤ m) (h3 : m ≤ c) (w : World) :
    (Instr.slice t (.slice A n c) (some (.int k l)) (some (.int k' h)) (some (.int k'' m))).run P w = .ok (.slice (cutA A m.toNat l.toNat size) (h.toNat - l.toNat) (m.toNat - l.toNat)) w := by
  obtain ⟨i0, hi0, hz0, hz1, hz2⟩ := info_parts hi
  have h4 : 0 ≤ h := by omega
  have h5 : 0 ≤ m := by omega
  have h6 : max h 0 = h := by omega
  have h7 : max m 0 = m := by omega
  simp [h6, h7, Instr.slice, run_underlying ht, Instr.sliceBounds, Instr.sliceBound, asIntOf, sizeOf, typeInfo, hi0, h0, h1, h2, h3, h4, h5, hz1, cutA, Result.andThen]
end
/-- a part of what is read -/
theorem Reads.part {w : World} {B size n : Nat} {A : Option Addr} {xs : List Value} (h : Reads w B size A n xs) (m l k : Nat) (h1 : l + k ≤ n) (h2 : l + k ≤ m) :
    Reads w B size (cutA A m l size) k ((xs.drop (l * size)).take (k * size)) := by
  have hf := h.front (k := l + k) h1
  have hc := hf.cut (k := l) (cap := m) (by omega) h2
  unfold cutA
  rw [show l + k - l = k from by omega] at hc
  have e : (xs.take ((l + k) * size)).drop (l * size) = (xs.drop (l * size)).take (k * size) := by
    rw [List.drop_take]
    congr 1
    rw [Nat.add_mul]
    omega
  rw [e] at hc
  exact hc

end Go.Proofs.Ytjmbpnogicdkgaa
