/-
  Words for memory used by all the walks of this seat: a call that returns a value and changes nothing that was there (Ret), a slice that reads as a list of cells (Reads).
-/
import Derived.WalkKit
import Derived.WalkLawsBesides
import Derived.WalkSpells
import Derived.Handy
import Derived.Lib.Hide
import Derived.Below
import Derived.Laws.OwnMore
import Derived.Laws.Rows
import Derived.Deep.AppendLies
import Derived.Deep.Draws
import Derived.Lib.ConvBytes
import Derived.Deep.OwnRows
namespace Go.Proofs.Ytjmbpnogicdkgaa
open Go.RowKit

theorem bcell {W w1 : World} (hb : Below W.heap.size W w1) : (∀ b o, b < W.heap.size → w1.cell? ⟨b, o, none⟩ = W.cell? ⟨b, o, none⟩) ∧ (∀ b o, b < W.heap.size → w1.frozen? ⟨b, o, none⟩ = W.frozen? ⟨b, o, none⟩) :=
  ⟨fun b o h => hb.cell (p := ⟨b, o, none⟩) h, fun b o h => hb.frozen (p := ⟨b, o, none⟩) h⟩

theorem bdrewN {B : Nat} {a w : World} (h : Below B a w) (n : Nat) : Below B a (w.drewN n) := ⟨h.os, h.tape, h.output, h.size, h.block⟩

/-- the call returns v, and nothing that was there has changed -/
def Ret (v : Value) (w : World) (e : Ending) (w' : World) : Prop := e = .returned v ∧ Below w.heap.size w w'

theorem block_of_add (a : Addr) (n : Nat) : (a.add n).block = a.block := by unfold Addr.add; split <;> rfl
theorem add_of_add (a : Addr) (i j : Nat) : (a.add i).add j = a.add (i + j) := by
  unfold Addr.add
  by_cases hi : i = 0 <;> by_cases hj : j = 0 <;> simp [hi, hj, Nat.add_assoc]

/-- the slice value '.slice A n c' holds the cells xs and lies below block B -/
def Reads (w : World) (B size : Nat) (A : Option Addr) (n : Nat) (xs : List Value) : Prop :=
  xs.length = n * size ∧ (0 < n → ∃ ad, A = some ad ∧ ad.block < B ∧ ∀ j u, xs[j]? = some u → w.cell? (ad.add j) = some u)

section
variable {w w' : World} {B B' size n : Nat} {A : Option Addr} {xs : List Value}
theorem Reads.none_ : Reads w B size A 0 [] := ⟨by simp, fun h => absurd h (by omega)⟩
theorem Reads.at_ {k : Nat} (h : Reads w B 1 A n xs) (hk : k < n) : ∃ ad u, A = some ad ∧ ad.block < B ∧ xs[k]? = some u ∧ w.cell? (ad.add k) = some u := by
  obtain ⟨ad, e, hb, hc⟩ := h.2 (by omega)
  have hl : k < xs.length := by have := h.1; omega
  exact ⟨ad, xs[k], e, hb, List.getElem?_eq_getElem hl, hc k _ (List.getElem?_eq_getElem hl)⟩
theorem Reads.keep (h : Reads w B size A n xs) (hk : ∀ p : Addr, p.block < B → w'.cell? p = w.cell? p) : Reads w' B size A n xs :=
  ⟨h.1, fun hn => by
    obtain ⟨ad, e, hb, hc⟩ := h.2 hn
    exact ⟨ad, e, hb, fun j u hu => (hk _ (by rw [block_of_add]; exact hb)).trans (hc j u hu)⟩⟩
theorem Reads.more (h : Reads w B size A n xs) (hB : B ≤ B') : Reads w B' size A n xs :=
  ⟨h.1, fun hn => by
    obtain ⟨ad, e, hb, hc⟩ := h.2 hn
    exact ⟨ad, e, by omega, hc⟩⟩
theorem Reads.below (h : Reads w B size A n xs) (hb : Below B w w') : Reads w' B size A n xs := h.keep fun _ hp => hb.cell hp
theorem Reads.drew (h : Reads w B size A n xs) : Reads w.drew B size A n xs := h
theorem Reads.drewN (h : Reads w B size A n xs) (k : Nat) : Reads (w.drewN k) B size A n xs := h
theorem Reads.alloc (h : Reads w B size A n xs) (hB : B ≤ w.heap.size) (o : Obj) : Reads (w.alloc o) B size A n xs := h.keep fun p hp => World.cell?_alloc_lt w o p (by omega)
theorem Reads.setCell (h : Reads w B size A n xs) {p : Addr} (hB : B ≤ p.block) (u : Value) : Reads (w.setCell p u) B size A n xs :=
  h.keep fun q hq => World.cell?_setCell_other w p q u (fun e => by subst e; omega)
theorem Reads.setFar (h : Reads w B size A n xs) {p : Addr} (hne : ∀ ad, A = some ad → ad.block ≠ p.block) (u : Value) : Reads (w.setCell p u) B size A n xs :=
  ⟨h.1, fun hn => by
    obtain ⟨ad, e, hb, hc⟩ := h.2 hn
    refine ⟨ad, e, hb, fun j v hv => ?_⟩
    rw [World.cell?_setCell_other _ _ _ _ (fun e2 => hne ad e (by rw [← block_of_add ad j, e2]))]
    exact hc j v hv⟩
theorem Reads.grown (h : Reads w B size A n xs) {row : Option Nat} (hg : w.grownBy w' row) (hB : B ≤ w.heap.size) (hr : ∀ g, row = some g → B ≤ g) : Reads w' B size A n xs :=
  h.keep fun p hp => World.cell?_of_block (hg.block p.block (by omega) (fun e => by have := hr _ e.symm; omega))
theorem Reads.cut (h : Reads w B size A n xs) {k cap : Nat} (hk : k ≤ n) (hc : n ≤ cap) :
    Reads w B size (if cap = k then A else A.map (·.add (k * size))) (n - k) (xs.drop (k * size)) := by
  refine ⟨by rw [List.length_drop, h.1, Nat.sub_mul], fun hn => ?_⟩
  obtain ⟨ad, rfl, hb, hcell⟩ := h.2 (by omega)
  rw [if_neg (by omega)]
  refine ⟨ad.add (k * size), rfl, by rw [block_of_add]; exact hb, fun j u hu => ?_⟩
  rw [add_of_add]
  exact hcell _ u (by rw [← hu, List.getElem?_drop])
theorem Reads.of_own {base : Nat} {e : TypeId} {c : Nat} (h : w.ownsRow base e size (.slice A n c) n xs) : Reads w w.heap.size size A n xs := by
  refine ⟨h.1, fun hn => ?_⟩
  obtain ⟨g, cap, hv, _, hlt⟩ := h.form hn
  have hA : A = some ⟨g, 0, none⟩ := by injection hv
  subst hA
  exact ⟨_, rfl, hlt, h.cells (g := g) rfl⟩
theorem Reads.front (h : Reads w B size A n xs) {k : Nat} (hk : k ≤ n) : Reads w B size A k (xs.take (k * size)) := by
  refine ⟨?_, fun hn => ?_⟩
  · rw [List.length_take, h.1]
    exact Nat.min_eq_left (Nat.mul_le_mul_right _ hk)
  · obtain ⟨ad, e, hb, hc⟩ := h.2 (by omega)
    refine ⟨ad, e, hb, fun j u hu => hc j u ?_⟩
    rw [List.getElem?_take] at hu
    split at hu
    · exact hu
    · cases hu
end

theorem Reads.lenf {α : Type} {f : α → Value} {l : List α} {w : World} {B n : Nat} {A : Option Addr} (h : Reads w B 1 A n (l.map f)) : l.length = n := by simpa using h.1
theorem Reads.atf {α : Type} {f : α → Value} {l : List α} {w : World} {B n : Nat} {A : Option Addr} {k : Nat} (h : Reads w B 1 A n (l.map f)) (hk : k < n) :
    ∃ ad x, A = some ad ∧ ad.block < B ∧ l[k]? = some x ∧ w.cell? (ad.add k) = some (f x) := by
  obtain ⟨ad, u, e, hb, hx, hc⟩ := Reads.at_ h hk
  have hl := h.lenf
  rw [List.getElem?_map, List.getElem?_eq_getElem (by omega)] at hx
  simp only [Option.map_some, Option.some.injEq] at hx
  exact ⟨ad, l[k], e, hb, List.getElem?_eq_getElem (by omega), by rw [hc, ← hx]⟩

/-- bytes as cells -/
def u8v (b : UInt8) : Value := .int .u8 (b.toNat : Int)
def Bytes (w : World) (B : Nat) (A : Option Addr) (n : Nat) (bs : List UInt8) : Prop := Reads w B 1 A n (bs.map u8v)

theorem Bytes.len {w : World} {B n : Nat} {A : Option Addr} {bs : List UInt8} (h : Bytes w B A n bs) : bs.length = n := by simpa using h.1

theorem Bytes.at_ {w : World} {B n : Nat} {A : Option Addr} {bs : List UInt8} {k : Nat} (h : Bytes w B A n bs) (hk : k < n) :
    ∃ ad x, A = some ad ∧ ad.block < B ∧ bs[k]? = some x ∧ w.cell? (ad.add k) = some (.int .u8 (x.toNat : Int)) := by
  obtain ⟨ad, u, e, hb, hx, hc⟩ := Reads.at_ h hk
  have hl := h.len
  rw [List.getElem?_map, List.getElem?_eq_getElem (by omega)] at hx
  simp only [Option.map_some, Option.some.injEq] at hx
  exact ⟨ad, bs[k], e, hb, List.getElem?_eq_getElem (by omega), by rw [hc, ← hx]; rfl⟩

/-- block g is just the cells cs of element type t, none frozen -/
def Blk (w : World) (g : Nat) (t : TypeId) (cs : Array Value) : Prop := w.heap[g]? = some (.cells cs t (0, 0))

section
variable {w w' : World} {g : Nat} {t : TypeId} {cs : Array Value}
theorem Blk.lt (h : Blk w g t cs) : g < w.heap.size := by
  rcases Nat.lt_or_ge g w.heap.size with hlt | hge
  · exact hlt
  · unfold Blk at h; rw [Array.getElem?_eq_none hge] at h; cases h
theorem Blk.cell (h : Blk w g t cs) (i : Nat) : w.cell? ⟨g, i, none⟩ = cs[i]? := cell_of_row w g i cs t (0, 0) h
theorem Blk.frozen (h : Blk w g t cs) (i : Nat) : w.frozen? ⟨g, i, none⟩ = false := by
  unfold Blk at h
  simp [World.frozen?, h]
theorem Blk.new (w : World) (t : TypeId) (cs : Array Value) : Blk (w.alloc (.cells cs t)) w.heap.size t cs := heap_alloc_new w _
theorem Blk.drew (h : Blk w g t cs) : Blk w.drew g t cs := h
theorem Blk.drewN (h : Blk w g t cs) (n : Nat) : Blk (w.drewN n) g t cs := h
theorem Blk.alloc (h : Blk w g t cs) (o : Obj) : Blk (w.alloc o) g t cs := (Below.heap_alloc w o g h.lt).trans h
theorem Blk.set_ (h : Blk w g t cs) (i : Nat) (u : Value) : Blk (w.setCell ⟨g, i, none⟩ u) g t (cs.setIfInBounds i u) := by
  unfold Blk at h ⊢
  simp [World.setCell, Array.getElem?_modify, h]
theorem Blk.far (h : Blk w g t cs) {p : Addr} (hp : g ≠ p.block) (u : Value) : Blk (w.setCell p u) g t cs := (Below.heap_setCell w p u g hp).trans h
theorem Blk.below {B : Nat} (h : Blk w g t cs) (hb : Below B w w') (hg : g < B) : Blk w' g t cs := (hb.block g hg).trans h
theorem Blk.grown {row : Option Nat} (h : Blk w g t cs) (hb : w.grownBy w' row) (hg : some g ≠ row) : Blk w' g t cs := (hb.block g h.lt hg).trans h
end

theorem below_bytesWorld (w : World) (e : TypeId) (s : ByteArray) : Below w.heap.size w (Lib.bytesWorld w e s) :=
  ⟨rfl, rfl, rfl, by rw [Lib.bytesWorld_size]; omega, fun k hk => Lib.bytesWorld_at_old w e s k hk⟩
theorem bytes_bytesWorld (w : World) (e : TypeId) (s : ByteArray) : Bytes (Lib.bytesWorld w e s) (w.heap.size + 1) (some ⟨w.heap.size, 0, none⟩) s.size s.data.toList := by
  refine ⟨by simp, fun _ => ⟨_, rfl, by simp, fun j u hu => ?_⟩⟩
  rw [List.getElem?_map] at hu
  cases hx : s.data.toList[j]? with
  | none => rw [hx] at hu; cases hu
  | some x =>
    rw [hx] at hu
    simp only [Option.map_some, Option.some.injEq] at hu
    subst hu
    have hj : j < s.size := by
      have := (List.getElem?_eq_some_iff.1 hx).1
      simpa using this
    have hc := Lib.bytesWorld_cell w e s j hj
    have ha : (⟨w.heap.size, 0, none⟩ : Addr).add j = ⟨w.heap.size, j, none⟩ := by
      unfold Addr.add
      split
      · simp_all
      · simp
    rw [ha, hc, List.getD_eq_getElem?_getD, hx]
    rfl

/-- what a struct's cells hold while they are stored one behind the other -/
theorem Blk.same0 {w : World} {g : Nat} {t : TypeId} {cs : Array Value} (h : Blk w g t cs) (hs : 0 < cs.size) : ∀ a, (w.setCell ⟨g, 0, none⟩ a).cell? ⟨g, 0, none⟩ = some a := fun a => by
  rw [(h.set_ 0 a).cell 0]; simp [hs]
theorem Blk.same1 {w : World} {g : Nat} {t : TypeId} {cs : Array Value} (h : Blk w g t cs) (hs : 1 < cs.size) : ∀ a b, ((w.setCell ⟨g, 0, none⟩ a).setCell ⟨g, 1, none⟩ b).cell? ⟨g, 1, none⟩ = some b := fun a b => by
  rw [((h.set_ 0 a).set_ 1 b).cell 1]; simp [hs]
theorem Blk.same2 {w : World} {g : Nat} {t : TypeId} {cs : Array Value} (h : Blk w g t cs) (hs : 2 < cs.size) : ∀ a b c, (((w.setCell ⟨g, 0, none⟩ a).setCell ⟨g, 1, none⟩ b).setCell ⟨g, 2, none⟩ c).cell? ⟨g, 2, none⟩ = some c := fun a b c => by
  rw [(((h.set_ 0 a).set_ 1 b).set_ 2 c).cell 2]; simp [hs]
theorem Blk.same3 {w : World} {g : Nat} {t : TypeId} {cs : Array Value} (h : Blk w g t cs) (hs : 3 < cs.size) : ∀ a b c d, ((((w.setCell ⟨g, 0, none⟩ a).setCell ⟨g, 1, none⟩ b).setCell ⟨g, 2, none⟩ c).setCell ⟨g, 3, none⟩ d).cell? ⟨g, 3, none⟩ = some d := fun a b c d => by
  rw [((((h.set_ 0 a).set_ 1 b).set_ 2 c).set_ 3 d).cell 3]; simp [hs]
theorem Blk.same4 {w : World} {g : Nat} {t : TypeId} {cs : Array Value} (h : Blk w g t cs) (hs : 4 < cs.size) : ∀ a b c d e, (((((w.setCell ⟨g, 0, none⟩ a).setCell ⟨g, 1, none⟩ b).setCell ⟨g, 2, none⟩ c).setCell ⟨g, 3, none⟩ d).setCell ⟨g, 4, none⟩ e).cell? ⟨g, 4, none⟩ = some e := fun a b c d e => by
  rw [(((((h.set_ 0 a).set_ 1 b).set_ 2 c).set_ 3 d).set_ 4 e).cell 4]; simp [hs]

/-- block g is a row of one-cell elements, f of each member of the list l -/
def Row {α : Type} (w : World) (g : Nat) (t : TypeId) (f : α → Value) (l : List α) : Prop := Blk w g t (l.map f).toArray

section
variable {α : Type} {w w' : World} {g : Nat} {t : TypeId} {f : α → Value} {l : List α}
theorem Row.lt (h : Row w g t f l) : g < w.heap.size := Blk.lt h
theorem Row.cell (h : Row w g t f l) {k : Nat} {x : α} (hx : l[k]? = some x) : w.cell? ⟨g, k, none⟩ = some (f x) := by
  rw [Blk.cell h k]
  simp [hx]
theorem Row.frozen (h : Row w g t f l) (i : Nat) : w.frozen? ⟨g, i, none⟩ = false := Blk.frozen h i
theorem Row.set_ (h : Row w g t f l) (k : Nat) (x : α) : Row (w.setCell ⟨g, k, none⟩ (f x)) g t f (l.set k x) := by
  have := Blk.set_ h k (f x)
  unfold Row
  rw [List.setIfInBounds_toArray, ← List.map_set] at this
  exact this
theorem Row.far (h : Row w g t f l) {p : Addr} (hp : g ≠ p.block) (u : Value) : Row (w.setCell p u) g t f l := Blk.far h hp u
theorem Row.below {B : Nat} (h : Row w g t f l) (hb : Below B w w') (hg : g < B) : Row w' g t f l := Blk.below h hb hg
theorem Row.alloc (h : Row w g t f l) (o : Obj) : Row (w.alloc o) g t f l := Blk.alloc h o
theorem Row.drew (h : Row w g t f l) : Row w.drew g t f l := h
theorem Row.drewN (h : Row w g t f l) (n : Nat) : Row (w.drewN n) g t f l := h
theorem add_zero_off (g k : Nat) : (⟨g, 0, none⟩ : Addr).add k = ⟨g, k, none⟩ := by
  unfold Addr.add
  split
  · simp_all
  · simp
theorem Row.reads (h : Row w g t f l) : Reads w (g + 1) 1 (some ⟨g, 0, none⟩) l.length (l.map f) := by
  refine ⟨by simp, fun _ => ⟨_, rfl, by simp, fun j u hu => ?_⟩⟩
  rw [add_zero_off, Blk.cell h j]
  simpa using hu
theorem Row.new (w : World) (t : TypeId) (f : α → Value) (l : List α) : Row (w.alloc (.cells (l.map f).toArray t)) w.heap.size t f l := Blk.new w t _
end

theorem madeCells_eq {α : Type} (f : α → Value) (a : α) (n : Nat) : madeCells #[f a] n = ((List.replicate n a).map f).toArray := by
  unfold madeCells
  apply Array.ext
  · simp
  · intro i h1 h2
    simp [Nat.mod_one]
/-- the row that make lays, as the list of its zeros -/
theorem make_row {α : Type} {P : Program} (f : α → Value) (a : α) (t e : TypeId) (bytes : Nat) (ht : P.underlying t = some (.slice e)) (hinfo : (P.info? e).map (fun i => (i.zero, i.size, i.bytes)) = some (some (f a), 1, bytes)) (hz1 : (f a).cells = #[f a])
    (kl kc : IntKind) (n : Nat) (hbytes : bytes * n ≤ 281474976710656) (h63 : n ≤ 9223372036854775807) (w : World) :
    (Instr.makeSlice t (.int kl (n : Int)) (.int kc (n : Int))).run P w = .ok (.slice (some ⟨w.heap.size, 0, none⟩) n n) (w.alloc (.cells ((List.replicate n a).map f).toArray e)) := by
  rw [run_make_row' t e (f a) bytes ht hinfo hz1 kl kc n hbytes h63 w, madeCells_eq]

theorem Row.rep {α : Type} (w : World) (t : TypeId) (f : α → Value) (a : α) (n : Nat) : Row (w.alloc (.cells (Array.replicate n (f a)) t)) w.heap.size t f (List.replicate n a) := by
  have := Row.new w t f (List.replicate n a)
  simpa using this

/-- a number as an int -/
def iv (n : Nat) : Value := .int .i64 (n : Int)

end Go.Proofs.Ytjmbpnogicdkgaa
