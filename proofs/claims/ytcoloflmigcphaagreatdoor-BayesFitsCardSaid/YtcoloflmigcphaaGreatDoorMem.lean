import Derived.WalkKit
import Derived.WalkLawsBesides
import Derived.WalkSpells
import Derived.Handy
import Derived.Lib.Hide
import Derived.Below
import Derived.Laws.OwnMore
import Derived.Laws.Rows
import Derived.Deep.AppendLies
import Derived.Deep.Draws
import Derived.Lib.ConvBytes
import Derived.Deep.OwnRows
import Derived.Maps.AppendAt
import Derived.RegionTactic
import Derived.OwnWalk
import Derived.Laws.CopyOwn
import Derived.Laws.IdiomStrings
namespace Go.Proofs.YtcoloflmigcphaaGreatDoor
open Go.RowKit
theorem lh {p : Prop} (h : p) : Go.RowKit.Hid p := Lib.hid h
theorem nt {a b c : Nat} (h : a <= b) (g : b <= c) : a <= c := Nat.le_trans h g
theorem zd {n : Nat} : n <= n := Nat.le_refl n
theorem Jw {B : Nat} {a w : World} (h : Below B a w) (n : Nat) : Below B a (w.drewN n) := ⟨h.os, h.tape, h.output, h.size, h.block⟩
def Ret (v : Value) (w : World) (e : Ending) (w' : World) : Prop := e = .returned v /\ Below w.heap.size w w'
theorem Jz (a : Addr) (n : Nat) : (a.add n).block = a.block := by unfold Addr.add; split <;> rfl
theorem Jad (a : Addr) (i j : Nat) : (a.add i).add j = a.add (i + j) := by
 unfold Addr.add
 by_cases hi : i = 0 <;> by_cases hj : j = 0 <;> simp [hi, hj, Nat.add_assoc]
def Reads (w : World) (B size : Nat) (A : Option Addr) (n : Nat) (xs : List Value) : Prop :=
 xs.length = n * size /\ (0 < n -> ∃ ad, A = some ad /\ ad.block < B /\ ∀ j u, xs[j]? = some u -> w.cell? (ad.add j) = some u)
section
variable {w w' : World} {B B' size n : Nat} {A : Option Addr} {xs : List Value}
theorem Reads.none_ : Reads w B size A 0 [] := ⟨by simp, fun h => absurd h (by omega)⟩
theorem Reads.at_ {k : Nat} (h : Reads w B 1 A n xs) (hk : k < n) : ∃ ad u, A = some ad /\ ad.block < B /\ xs[k]? = some u /\ w.cell? (ad.add k) = some u := by
 obtain ⟨ad, e, hb, hc⟩ := h.2 (by omega)
 have hl : k < xs.length := by have := h.1; omega
 exact ⟨ad, xs[k], e, hb, List.getElem?_eq_getElem hl, hc k _ (List.getElem?_eq_getElem hl)⟩
theorem Reads.keep (h : Reads w B size A n xs) (hk : ∀ p : Addr, p.block < B -> w'.cell? p = w.cell? p) : Reads w' B size A n xs :=
 ⟨h.1, fun hn => by
  obtain ⟨ad, e, hb, hc⟩ := h.2 hn
  exact ⟨ad, e, hb, fun j u hu => (hk _ (by rw [Jz]; exact hb)).trans (hc j u hu)⟩⟩
theorem Reads.more (h : Reads w B size A n xs) (hB : B <= B') : Reads w B' size A n xs :=
 ⟨h.1, fun hn => by
  obtain ⟨ad, e, hb, hc⟩ := h.2 hn
  exact ⟨ad, e, by omega, hc⟩⟩
theorem Reads.below (h : Reads w B size A n xs) (hb : Below B w w') : Reads w' B size A n xs := h.keep fun _ hp => hb.cell hp
theorem Reads.drewN (h : Reads w B size A n xs) (k : Nat) : Reads (w.drewN k) B size A n xs := h
theorem Reads.alloc (h : Reads w B size A n xs) (hB : B <= w.heap.size) (o : Obj) : Reads (w.alloc o) B size A n xs := h.keep fun p hp => World.cell?_alloc_lt w o p (by omega)
theorem Reads.setCell (h : Reads w B size A n xs) {p : Addr} (hB : B <= p.block) (u : Value) : Reads (w.setCell p u) B size A n xs :=
 h.keep fun q hq => World.cell?_setCell_other w p q u (fun e => by subst e; omega)
theorem Reads.setFar (h : Reads w B size A n xs) {p : Addr} (j9 : ∀ ad, A = some ad -> ad.block ≠ p.block) (u : Value) : Reads (w.setCell p u) B size A n xs :=
 ⟨h.1, fun hn => by
  obtain ⟨ad, e, hb, hc⟩ := h.2 hn
  refine ⟨ad, e, hb, fun j v hv => ?_⟩
  rw [World.cell?_setCell_other _ _ _ _ (fun e2 => j9 ad e (by rw [<- Jz ad j, e2]))]
  exact hc j v hv⟩
theorem Reads.cut (h : Reads w B size A n xs) {k cap : Nat} (hk : k <= n) (hc : n <= cap) :
  Reads w B size (if cap = k then A else A.map (·.add (k * size))) (n - k) (xs.drop (k * size)) := by
 refine ⟨by rw [List.length_drop, h.1, Nat.sub_mul], fun hn => ?_⟩
 obtain ⟨ad, rfl, hb, s9⟩ := h.2 (by omega)
 rw [if_neg (by omega)]
 refine ⟨ad.add (k * size), rfl, by rw [Jz]; exact hb, fun j u hu => ?_⟩
 rw [Jad]
 exact s9 _ u (by rw [<- hu, List.getElem?_drop])
theorem Reads.of_own {base : Nat} {e : TypeId} {c : Nat} (h : w.ownsRow base e size (.slice A n c) n xs) : Reads w w.heap.size size A n xs := by
 refine ⟨h.1, fun hn => ?_⟩
 obtain ⟨g, cap, hv, _, aH⟩ := h.form hn
 have hA : A = some ⟨g, 0, none⟩ := by injection hv
 subst hA
 exact ⟨_, rfl, aH, h.cells (g := g) rfl⟩
theorem Reads.front (h : Reads w B size A n xs) {k : Nat} (hk : k <= n) : Reads w B size A k (xs.take (k * size)) := by
 refine ⟨?_, fun hn => ?_⟩
 ·rw [List.length_take, h.1]
  exact Nat.min_eq_left (Nat.mul_le_mul_right _ hk)
 obtain ⟨ad, e, hb, hc⟩ := h.2 (by omega)
 refine ⟨ad, e, hb, fun j u hu => hc j u ?_⟩
 rw [List.getElem?_take] at hu
 split at hu
 ·exact hu
 cases hu
end
theorem Reads.lenf {α : Type} {f : α -> Value} {l : List α} {w : World} {B n : Nat} {A : Option Addr} (h : Reads w B 1 A n (l.map f)) : l.length = n := by simpa using h.1
theorem Reads.atf {α : Type} {f : α -> Value} {l : List α} {w : World} {B n : Nat} {A : Option Addr} {k : Nat} (h : Reads w B 1 A n (l.map f)) (hk : k < n) :
  ∃ ad x, A = some ad /\ ad.block < B /\ l[k]? = some x /\ w.cell? (ad.add k) = some (f x) := by
 obtain ⟨ad, u, e, hb, hx, hc⟩ := Reads.at_ h hk
 have hl := h.lenf
 rw [List.getElem?_map, List.getElem?_eq_getElem (by omega)] at hx
 simp only [Option.map_some, Option.some.injEq] at hx
 exact ⟨ad, l[k], e, hb, List.getElem?_eq_getElem (by omega), by rw [hc, <- hx]⟩
def u8v (b : UInt8) : Value := .int .u8 (b.toNat : Int)
def Bytes (w : World) (B : Nat) (A : Option Addr) (n : Nat) (bs : List UInt8) : Prop := Reads w B 1 A n (bs.map u8v)
theorem Bytes.len {w : World} {B n : Nat} {A : Option Addr} {bs : List UInt8} (h : Bytes w B A n bs) : bs.length = n := by simpa using h.1
theorem Bytes.at_ {w : World} {B n : Nat} {A : Option Addr} {bs : List UInt8} {k : Nat} (h : Bytes w B A n bs) (hk : k < n) :
  ∃ ad x, A = some ad /\ ad.block < B /\ bs[k]? = some x /\ w.cell? (ad.add k) = some (.int .u8 (x.toNat : Int)) := by
 obtain ⟨ad, u, e, hb, hx, hc⟩ := Reads.at_ h hk
 have hl := h.len
 rw [List.getElem?_map, List.getElem?_eq_getElem (by omega)] at hx
 simp only [Option.map_some, Option.some.injEq] at hx
 exact ⟨ad, bs[k], e, hb, List.getElem?_eq_getElem (by omega), by rw [hc, <- hx]; rfl⟩
def Blk (w : World) (g : Nat) (t : TypeId) (cs : Array Value) : Prop := w.heap[g]? = some (.cells cs t (0, 0))
section
variable {w w' : World} {g : Nat} {t : TypeId} {cs : Array Value}
theorem Blk.lt (h : Blk w g t cs) : g < w.heap.size := by
 rcases Nat.lt_or_ge g w.heap.size with aH | hge
 ·exact aH
 unfold Blk at h; rw [Array.getElem?_eq_none hge] at h; cases h
theorem Blk.cell (h : Blk w g t cs) (i : Nat) : w.cell? ⟨g, i, none⟩ = cs[i]? := cell_of_row w g i cs t (0, 0) h
theorem Blk.frozen (h : Blk w g t cs) (i : Nat) : w.frozen? ⟨g, i, none⟩ = false := by
 unfold Blk at h
 simp [World.frozen?, h]
theorem Blk.new (w : World) (t : TypeId) (cs : Array Value) : Blk (w.alloc (.cells cs t)) w.heap.size t cs := heap_alloc_new w _
theorem Blk.drew (h : Blk w g t cs) : Blk w.drew g t cs := h
theorem Blk.drewN (h : Blk w g t cs) (n : Nat) : Blk (w.drewN n) g t cs := h
theorem Blk.alloc (h : Blk w g t cs) (o : Obj) : Blk (w.alloc o) g t cs := (Below.heap_alloc w o g h.lt).trans h
theorem Blk.set_ (h : Blk w g t cs) (i : Nat) (u : Value) : Blk (w.setCell ⟨g, i, none⟩ u) g t (cs.setIfInBounds i u) := by
 unfold Blk at h ⊢
 simp [World.setCell, Array.getElem?_modify, h]
theorem Blk.far (h : Blk w g t cs) {p : Addr} (hp : g ≠ p.block) (u : Value) : Blk (w.setCell p u) g t cs := (Below.heap_setCell w p u g hp).trans h
theorem Blk.below {B : Nat} (h : Blk w g t cs) (hb : Below B w w') (hg : g < B) : Blk w' g t cs := (hb.block g hg).trans h
end
theorem Blk.same0 {w : World} {g : Nat} {t : TypeId} {cs : Array Value} (h : Blk w g t cs) (hs : 0 < cs.size) : ∀ a, (w.setCell ⟨g, 0, none⟩ a).cell? ⟨g, 0, none⟩ = some a := fun a => by
 rw [(h.set_ 0 a).cell 0]; simp [hs]
theorem Blk.same1 {w : World} {g : Nat} {t : TypeId} {cs : Array Value} (h : Blk w g t cs) (hs : 1 < cs.size) : ∀ a b, ((w.setCell ⟨g, 0, none⟩ a).setCell ⟨g, 1, none⟩ b).cell? ⟨g, 1, none⟩ = some b := fun a b => by
 rw [((h.set_ 0 a).set_ 1 b).cell 1]; simp [hs]
theorem Blk.same2 {w : World} {g : Nat} {t : TypeId} {cs : Array Value} (h : Blk w g t cs) (hs : 2 < cs.size) : ∀ a b c, (((w.setCell ⟨g, 0, none⟩ a).setCell ⟨g, 1, none⟩ b).setCell ⟨g, 2, none⟩ c).cell? ⟨g, 2, none⟩ = some c := fun a b c => by
 rw [(((h.set_ 0 a).set_ 1 b).set_ 2 c).cell 2]; simp [hs]
theorem Blk.same3 {w : World} {g : Nat} {t : TypeId} {cs : Array Value} (h : Blk w g t cs) (hs : 3 < cs.size) : ∀ a b c d, ((((w.setCell ⟨g, 0, none⟩ a).setCell ⟨g, 1, none⟩ b).setCell ⟨g, 2, none⟩ c).setCell ⟨g, 3, none⟩ d).cell? ⟨g, 3, none⟩ = some d := fun a b c d => by
 rw [((((h.set_ 0 a).set_ 1 b).set_ 2 c).set_ 3 d).cell 3]; simp [hs]
theorem Blk.same4 {w : World} {g : Nat} {t : TypeId} {cs : Array Value} (h : Blk w g t cs) (hs : 4 < cs.size) : ∀ a b c d e, (((((w.setCell ⟨g, 0, none⟩ a).setCell ⟨g, 1, none⟩ b).setCell ⟨g, 2, none⟩ c).setCell ⟨g, 3, none⟩ d).setCell ⟨g, 4, none⟩ e).cell? ⟨g, 4, none⟩ = some e := fun a b c d e => by
 rw [(((((h.set_ 0 a).set_ 1 b).set_ 2 c).set_ 3 d).set_ 4 e).cell 4]; simp [hs]
def Row {α : Type} (w : World) (g : Nat) (t : TypeId) (f : α -> Value) (l : List α) : Prop := Blk w g t (l.map f).toArray
section
variable {α : Type} {w w' : World} {g : Nat} {t : TypeId} {f : α -> Value} {l : List α}
theorem Row.lt (h : Row w g t f l) : g < w.heap.size := Blk.lt h
theorem Row.cell (h : Row w g t f l) {k : Nat} {x : α} (hx : l[k]? = some x) : w.cell? ⟨g, k, none⟩ = some (f x) := by
 rw [Blk.cell h k]
 simp [hx]
theorem Row.frozen (h : Row w g t f l) (i : Nat) : w.frozen? ⟨g, i, none⟩ = false := Blk.frozen h i
theorem Row.set_ (h : Row w g t f l) (k : Nat) (x : α) : Row (w.setCell ⟨g, k, none⟩ (f x)) g t f (l.set k x) := by
 have := Blk.set_ h k (f x)
 unfold Row
 rw [List.setIfInBounds_toArray, <- List.map_set] at this
 exact this
theorem Row.far (h : Row w g t f l) {p : Addr} (hp : g ≠ p.block) (u : Value) : Row (w.setCell p u) g t f l := Blk.far h hp u
theorem Row.below {B : Nat} (h : Row w g t f l) (hb : Below B w w') (hg : g < B) : Row w' g t f l := Blk.below h hb hg
theorem Row.drewN (h : Row w g t f l) (n : Nat) : Row (w.drewN n) g t f l := h
theorem Jaz (g k : Nat) : (⟨g, 0, none⟩ : Addr).add k = ⟨g, k, none⟩ := by
 unfold Addr.add
 split
 ·simp_all
 simp
theorem Row.reads (h : Row w g t f l) : Reads w (g + 1) 1 (some ⟨g, 0, none⟩) l.length (l.map f) := by
 refine ⟨by simp, fun _ => ⟨_, rfl, by simp, fun j u hu => ?_⟩⟩
 rw [Jaz, Blk.cell h j]
 simpa using hu
theorem Row.new (w : World) (t : TypeId) (f : α -> Value) (l : List α) : Row (w.alloc (.cells (l.map f).toArray t)) w.heap.size t f l := Blk.new w t _
end
theorem Jfi {α : Type} (f : α -> Value) (a : α) (n : Nat) : madeCells #[f a] n = ((List.replicate n a).map f).toArray := by
 unfold madeCells
 apply Array.ext
 ·simp
 intro i h1 h2
 simp [Nat.mod_one]
theorem Qh {α : Type} {P : Program} (f : α -> Value) (a : α) (t e : TypeId) (bytes : Nat) (ht : P.underlying t = some (.slice e)) (aN : (P.info? e).map (fun i => (i.zero, i.size, i.bytes)) = some (some (f a), 1, bytes)) (o0 : (f a).cells = #[f a])
  (kl kc : IntKind) (n : Nat) (j0 : bytes * n <= 281474976710656) (aG : n <= 9223372036854775807) (w : World) :
  (Instr.makeSlice t (.int kl (n : Int)) (.int kc (n : Int))).run P w = .ok (.slice (some ⟨w.heap.size, 0, none⟩) n n) (w.alloc (.cells ((List.replicate n a).map f).toArray e)) := by
 rw [run_make_row' t e (f a) bytes ht aN o0 kl kc n j0 aG w, Jfi]
theorem Row.rep {α : Type} (w : World) (t : TypeId) (f : α -> Value) (a : α) (n : Nat) : Row (w.alloc (.cells (Array.replicate n (f a)) t)) w.heap.size t f (List.replicate n a) := by
 have := Row.new w t f (List.replicate n a)
 simpa using this
def iv (n : Nat) : Value := .int .i64 (n : Int)
set_option linter.all false
section
variable {w w' : World} {g : Nat} {t : TypeId} {a b c d e : Value}
theorem Blk.f2 (h : Blk w g t #[a, b]) : w.cell? ⟨g, 0, none⟩ = some a /\ w.cell? ⟨g, 1, none⟩ = some b /\ w.frozen? ⟨g, 0, none⟩ = false /\ w.frozen? ⟨g, 1, none⟩ = false /\
  (∀ x, (w.setCell ⟨g, 0, none⟩ x).cell? ⟨g, 0, none⟩ = some x) /\ (∀ x y, ((w.setCell ⟨g, 0, none⟩ x).setCell ⟨g, 1, none⟩ y).cell? ⟨g, 1, none⟩ = some y) :=
 ⟨h.cell 0, h.cell 1, h.frozen 0, h.frozen 1, h.same0 (by simp), h.same1 (by simp)⟩
theorem Blk.f3 (h : Blk w g t #[a, b, c]) : w.cell? ⟨g, 0, none⟩ = some a /\ w.cell? ⟨g, 1, none⟩ = some b /\ w.cell? ⟨g, 2, none⟩ = some c /\ w.frozen? ⟨g, 0, none⟩ = false /\ w.frozen? ⟨g, 1, none⟩ = false /\ w.frozen? ⟨g, 2, none⟩ = false /\
  (∀ x, (w.setCell ⟨g, 0, none⟩ x).cell? ⟨g, 0, none⟩ = some x) /\ (∀ x y, ((w.setCell ⟨g, 0, none⟩ x).setCell ⟨g, 1, none⟩ y).cell? ⟨g, 1, none⟩ = some y) /\
  (∀ x y z, (((w.setCell ⟨g, 0, none⟩ x).setCell ⟨g, 1, none⟩ y).setCell ⟨g, 2, none⟩ z).cell? ⟨g, 2, none⟩ = some z) :=
 ⟨h.cell 0, h.cell 1, h.cell 2, h.frozen 0, h.frozen 1, h.frozen 2, h.same0 (by simp), h.same1 (by simp), h.same2 (by simp)⟩
theorem Blk.c1 (h : Blk w g t #[a]) : w.cell? ⟨g, 0, none⟩ = some a := h.cell 0
theorem Blk.c2 (h : Blk w g t #[a, b]) : w.cell? ⟨g, 0, none⟩ = some a /\ w.cell? ⟨g, 1, none⟩ = some b := ⟨h.cell 0, h.cell 1⟩
theorem Blk.c3 (h : Blk w g t #[a, b, c]) : w.cell? ⟨g, 0, none⟩ = some a /\ w.cell? ⟨g, 1, none⟩ = some b /\ w.cell? ⟨g, 2, none⟩ = some c := ⟨h.cell 0, h.cell 1, h.cell 2⟩
theorem Blk.c5 (h : Blk w g t #[a, b, c, d, e]) : w.cell? ⟨g, 0, none⟩ = some a /\ w.cell? ⟨g, 1, none⟩ = some b /\ w.cell? ⟨g, 2, none⟩ = some c /\ w.cell? ⟨g, 3, none⟩ = some d /\ w.cell? ⟨g, 4, none⟩ = some e := ⟨h.cell 0, h.cell 1, h.cell 2, h.cell 3, h.cell 4⟩
theorem Blk.f5 (h : Blk w g t #[a, b, c, d, e]) : w.cell? ⟨g, 0, none⟩ = some a /\ w.cell? ⟨g, 1, none⟩ = some b /\ w.cell? ⟨g, 2, none⟩ = some c /\ w.cell? ⟨g, 3, none⟩ = some d /\ w.cell? ⟨g, 4, none⟩ = some e /\
  w.frozen? ⟨g, 0, none⟩ = false /\ w.frozen? ⟨g, 1, none⟩ = false /\ w.frozen? ⟨g, 2, none⟩ = false /\ w.frozen? ⟨g, 3, none⟩ = false /\ w.frozen? ⟨g, 4, none⟩ = false /\
  (∀ x, (w.setCell ⟨g, 0, none⟩ x).cell? ⟨g, 0, none⟩ = some x) /\ (∀ x y, ((w.setCell ⟨g, 0, none⟩ x).setCell ⟨g, 1, none⟩ y).cell? ⟨g, 1, none⟩ = some y) /\
  (∀ x y z, (((w.setCell ⟨g, 0, none⟩ x).setCell ⟨g, 1, none⟩ y).setCell ⟨g, 2, none⟩ z).cell? ⟨g, 2, none⟩ = some z) /\
  (∀ x y z u, ((((w.setCell ⟨g, 0, none⟩ x).setCell ⟨g, 1, none⟩ y).setCell ⟨g, 2, none⟩ z).setCell ⟨g, 3, none⟩ u).cell? ⟨g, 3, none⟩ = some u) /\
  (∀ x y z u v, (((((w.setCell ⟨g, 0, none⟩ x).setCell ⟨g, 1, none⟩ y).setCell ⟨g, 2, none⟩ z).setCell ⟨g, 3, none⟩ u).setCell ⟨g, 4, none⟩ v).cell? ⟨g, 4, none⟩ = some v) :=
 ⟨h.cell 0, h.cell 1, h.cell 2, h.cell 3, h.cell 4, h.frozen 0, h.frozen 1, h.frozen 2, h.frozen 3, h.frozen 4, h.same0 (by simp), h.same1 (by simp), h.same2 (by simp), h.same3 (by simp), h.same4 (by simp)⟩
end
def Sbw (n : Nat) (w V : World) : Prop := Below w.heap.size w V /\ w.heap.size <= n
theorem sb0 (w : World) : Sbw w.heap.size w w := ⟨Below.refl _ _, Nat.le_refl _⟩
theorem sb1 (w : World) (o : Obj) : Sbw (w.alloc o).heap.size w (w.alloc o) := ⟨(Below.refl _ _).alloc (Nat.le_refl _) _, by simp⟩
theorem sb2 (w : World) (o o2 : Obj) : Sbw ((w.alloc o).alloc o2).heap.size w ((w.alloc o).alloc o2) := ⟨((Below.refl _ _).alloc (Nat.le_refl _) _).alloc (by simp) _, by simp; omega⟩
section
variable {w w' V : World} {g n : Nat} {t : TypeId} {cs : Array Value} {a b c d e : Value}
theorem Blk.yy (h : Blk w g t cs) (hb : Below n V w') (hs : Sbw n w V := by first | exact sb0 _ | exact sb1 _ _ | exact sb2 _ _ _) : Blk w' g t cs := (h.below hs.1 h.lt).below hb (Nat.lt_of_lt_of_le h.lt hs.2)
theorem Blk.zc2 (h : Blk w g t #[a, b]) (hb : Below n V w') (hs : Sbw n w V := by first | exact sb0 _ | exact sb1 _ _ | exact sb2 _ _ _) : Blk w' g t #[a, b] /\ w'.cell? ⟨g, 0, none⟩ = some a /\ w'.cell? ⟨g, 1, none⟩ = some b := have h := h.yy hb hs; ⟨h, h.c2⟩
theorem Blk.zc3 (h : Blk w g t #[a, b, c]) (hb : Below n V w') (hs : Sbw n w V := by first | exact sb0 _ | exact sb1 _ _ | exact sb2 _ _ _) : Blk w' g t #[a, b, c] /\ w'.cell? ⟨g, 0, none⟩ = some a /\ w'.cell? ⟨g, 1, none⟩ = some b /\ w'.cell? ⟨g, 2, none⟩ = some c := have h := h.yy hb hs; ⟨h, h.c3⟩
theorem Blk.zc5 (h : Blk w g t #[a, b, c, d, e]) (hb : Below n V w') (hs : Sbw n w V := by first | exact sb0 _ | exact sb1 _ _ | exact sb2 _ _ _) : Blk w' g t #[a, b, c, d, e] /\ w'.cell? ⟨g, 0, none⟩ = some a /\ w'.cell? ⟨g, 1, none⟩ = some b /\ w'.cell? ⟨g, 2, none⟩ = some c /\ w'.cell? ⟨g, 3, none⟩ = some d /\ w'.cell? ⟨g, 4, none⟩ = some e := have h := h.yy hb hs; ⟨h, h.c5⟩
theorem Blk.zc8 {i j k : Value} (h : Blk w g t #[a, b, c, d, e, i, j, k]) (hb : Below n V w') (hs : Sbw n w V := by first | exact sb0 _ | exact sb1 _ _ | exact sb2 _ _ _) : Blk w' g t #[a, b, c, d, e, i, j, k] /\ w'.cell? ⟨g, 0, none⟩ = some a /\ w'.cell? ⟨g, 1, none⟩ = some b /\ w'.cell? ⟨g, 2, none⟩ = some c /\ w'.cell? ⟨g, 3, none⟩ = some d /\ w'.cell? ⟨g, 4, none⟩ = some e /\ w'.cell? ⟨g, 5, none⟩ = some i /\ w'.cell? ⟨g, 6, none⟩ = some j /\ w'.cell? ⟨g, 7, none⟩ = some k := have h := h.yy hb hs; ⟨h, h.cell 0, h.cell 1, h.cell 2, h.cell 3, h.cell 4, h.cell 5, h.cell 6, h.cell 7⟩
theorem Blk.zf2 (h : Blk w g t #[a, b]) (hb : Below n V w') (hs : Sbw n w V := by first | exact sb0 _ | exact sb1 _ _ | exact sb2 _ _ _) : Blk w' g t #[a, b] /\ w'.cell? ⟨g, 0, none⟩ = some a /\ w'.cell? ⟨g, 1, none⟩ = some b /\ w'.frozen? ⟨g, 0, none⟩ = false /\ w'.frozen? ⟨g, 1, none⟩ = false /\ (∀ x, (w'.setCell ⟨g, 0, none⟩ x).cell? ⟨g, 0, none⟩ = some x) /\ (∀ x y, ((w'.setCell ⟨g, 0, none⟩ x).setCell ⟨g, 1, none⟩ y).cell? ⟨g, 1, none⟩ = some y) := have h := h.yy hb hs; ⟨h, h.f2⟩
theorem Blk.zf3 (h : Blk w g t #[a, b, c]) (hb : Below n V w') (hs : Sbw n w V := by first | exact sb0 _ | exact sb1 _ _ | exact sb2 _ _ _) : Blk w' g t #[a, b, c] /\ w'.cell? ⟨g, 0, none⟩ = some a /\ w'.cell? ⟨g, 1, none⟩ = some b /\ w'.cell? ⟨g, 2, none⟩ = some c /\ w'.frozen? ⟨g, 0, none⟩ = false /\ w'.frozen? ⟨g, 1, none⟩ = false /\ w'.frozen? ⟨g, 2, none⟩ = false /\ (∀ x, (w'.setCell ⟨g, 0, none⟩ x).cell? ⟨g, 0, none⟩ = some x) /\ (∀ x y, ((w'.setCell ⟨g, 0, none⟩ x).setCell ⟨g, 1, none⟩ y).cell? ⟨g, 1, none⟩ = some y) /\ (∀ x y z, (((w'.setCell ⟨g, 0, none⟩ x).setCell ⟨g, 1, none⟩ y).setCell ⟨g, 2, none⟩ z).cell? ⟨g, 2, none⟩ = some z) := have h := h.yy hb hs; ⟨h, h.f3⟩
theorem Blk.zf5 (h : Blk w g t #[a, b, c, d, e]) (hb : Below n V w') (hs : Sbw n w V := by first | exact sb0 _ | exact sb1 _ _ | exact sb2 _ _ _) : Blk w' g t #[a, b, c, d, e] /\ w'.cell? ⟨g, 0, none⟩ = some a /\ w'.cell? ⟨g, 1, none⟩ = some b /\ w'.cell? ⟨g, 2, none⟩ = some c /\ w'.cell? ⟨g, 3, none⟩ = some d /\ w'.cell? ⟨g, 4, none⟩ = some e /\ w'.frozen? ⟨g, 0, none⟩ = false /\ w'.frozen? ⟨g, 1, none⟩ = false /\ w'.frozen? ⟨g, 2, none⟩ = false /\ w'.frozen? ⟨g, 3, none⟩ = false /\ w'.frozen? ⟨g, 4, none⟩ = false /\ (∀ x, (w'.setCell ⟨g, 0, none⟩ x).cell? ⟨g, 0, none⟩ = some x) /\ (∀ x y, ((w'.setCell ⟨g, 0, none⟩ x).setCell ⟨g, 1, none⟩ y).cell? ⟨g, 1, none⟩ = some y) /\ (∀ x y z, (((w'.setCell ⟨g, 0, none⟩ x).setCell ⟨g, 1, none⟩ y).setCell ⟨g, 2, none⟩ z).cell? ⟨g, 2, none⟩ = some z) /\ (∀ x y z u, ((((w'.setCell ⟨g, 0, none⟩ x).setCell ⟨g, 1, none⟩ y).setCell ⟨g, 2, none⟩ z).setCell ⟨g, 3, none⟩ u).cell? ⟨g, 3, none⟩ = some u) /\ (∀ x y z u v, (((((w'.setCell ⟨g, 0, none⟩ x).setCell ⟨g, 1, none⟩ y).setCell ⟨g, 2, none⟩ z).setCell ⟨g, 3, none⟩ u).setCell ⟨g, 4, none⟩ v).cell? ⟨g, 4, none⟩ = some v) := have h := h.yy hb hs; ⟨h, h.f5⟩
end
section
variable {w : World} {g : Nat} {t : TypeId} {cs : Array Value}
end
theorem Blk.new2 (w : World) (o : Obj) (t : TypeId) (cs : Array Value) : Blk ((w.alloc o).alloc (.cells cs t)) (w.heap.size + 1) t cs := by
 have := Blk.new (w.alloc o) t cs
 rwa [World.size_alloc] at this
theorem Blk.new3 (w : World) (o o2 : Obj) (t : TypeId) (cs : Array Value) : Blk (((w.alloc o).alloc o2).alloc (.cells cs t)) (w.heap.size + 1 + 1) t cs := by
 have := Blk.new2 (w.alloc o) o2 t cs
 rwa [World.size_alloc] at this
theorem Blk.new4 (w : World) (o o2 o3 : Obj) (t : TypeId) (cs : Array Value) : Blk ((((w.alloc o).alloc o2).alloc o3).alloc (.cells cs t)) (w.heap.size + 1 + 1 + 1) t cs := by
 have := Blk.new3 (w.alloc o) o2 o3 t cs
 rwa [World.size_alloc] at this
theorem Jaw {B : Nat} {a w : World} (h : Below B a.drew w) : Below B a w := ⟨h.os, h.tape, h.output, h.size, h.block⟩
theorem Jb (w : World) (o : Obj) : Below w.heap.size w (w.alloc o) := (Below.refl _ _).alloc (Nat.le_refl _) _
theorem Jo (w : World) (o o2 : Obj) : Below w.heap.size w ((w.alloc o).alloc o2) := ((Below.refl _ _).alloc (Nat.le_refl _) _).alloc (by simp) _
theorem Jcc (w : World) (o o2 o3 : Obj) : Below w.heap.size w (((w.alloc o).alloc o2).alloc o3) := (((Below.refl _ _).alloc (Nat.le_refl _) _).alloc (by simp) _).alloc (by simp; omega) _
theorem Jmu (w : World) (o o2 o3 o4 : Obj) : Below w.heap.size w ((((w.alloc o).alloc o2).alloc o3).alloc o4) := (Jcc w o o2 o3).alloc (by simp; omega) _
theorem Xo {w w' : World} {g : Nat} (h : Below w.heap.size w w') (hg : w.heap.size <= g) (x y : Value) : Below w.heap.size w ((w'.setCell ⟨g, 0, none⟩ x).setCell ⟨g, 1, none⟩ y) := (h.setCell hg _).setCell hg _
theorem Kw {w w' : World} {g : Nat} (h : Below w.heap.size w w') (hg : w.heap.size <= g) (x y z : Value) : Below w.heap.size w (((w'.setCell ⟨g, 0, none⟩ x).setCell ⟨g, 1, none⟩ y).setCell ⟨g, 2, none⟩ z) := (Xo h hg x y).setCell hg _
theorem Uy {w w' : World} {g : Nat} (h : Below w.heap.size w w') (hg : w.heap.size <= g) (x y z u v : Value) : Below w.heap.size w (((((w'.setCell ⟨g, 0, none⟩ x).setCell ⟨g, 1, none⟩ y).setCell ⟨g, 2, none⟩ z).setCell ⟨g, 3, none⟩ u).setCell ⟨g, 4, none⟩ v) := ((Kw h hg x y z).setCell hg _).setCell hg _
theorem neA (n : Nat) : ¬ n = n + 1 + 1 := by omega
theorem neB (n : Nat) : ¬ n + 1 + 1 = n := by omega
theorem neC (n : Nat) : ¬ n + 1 = n + 1 + 1 := by omega
theorem neD (n : Nat) : ¬ n + 1 + 1 = n + 1 := by omega
theorem neE (n : Nat) : ¬ n = n + 1 := by omega
theorem neF (n : Nat) : ¬ n + 1 = n := by omega
theorem bx1 (w : World) (t0 : TypeId) (c0 : Array Value) : Blk (w.alloc (.cells c0 t0)) (w.heap.size) t0 c0 /\ Below w.heap.size w (w.alloc (.cells c0 t0)) /\ Go.RowKit.Hid ((w.alloc (.cells c0 t0)).heap.size = w.heap.size + 1) :=
 ⟨Blk.new w  t0 c0, Jb w (.cells c0 t0), Lib.hid (by simp)⟩
theorem bx2 (w : World) (t0 : TypeId) (c0 : Array Value) (t1 : TypeId) (c1 : Array Value) : Blk ((w.alloc (.cells c0 t0)).alloc (.cells c1 t1)) (w.heap.size) t0 c0 /\ Blk ((w.alloc (.cells c0 t0)).alloc (.cells c1 t1)) (w.heap.size + 1) t1 c1 /\ Below w.heap.size w ((w.alloc (.cells c0 t0)).alloc (.cells c1 t1)) /\ Go.RowKit.Hid (((w.alloc (.cells c0 t0)).alloc (.cells c1 t1)).heap.size = w.heap.size + 1 + 1) :=
 ⟨(Blk.new w  t0 c0).alloc (.cells c1 t1), Blk.new2 w (.cells c0 t0) t1 c1, Jo w (.cells c0 t0) (.cells c1 t1), Lib.hid (by simp)⟩
theorem bx3 (w : World) (t0 : TypeId) (c0 : Array Value) (t1 : TypeId) (c1 : Array Value) (t2 : TypeId) (c2 : Array Value) : Blk (((w.alloc (.cells c0 t0)).alloc (.cells c1 t1)).alloc (.cells c2 t2)) (w.heap.size) t0 c0 /\ Blk (((w.alloc (.cells c0 t0)).alloc (.cells c1 t1)).alloc (.cells c2 t2)) (w.heap.size + 1) t1 c1 /\ Blk (((w.alloc (.cells c0 t0)).alloc (.cells c1 t1)).alloc (.cells c2 t2)) (w.heap.size + 1 + 1) t2 c2 /\ Below w.heap.size w (((w.alloc (.cells c0 t0)).alloc (.cells c1 t1)).alloc (.cells c2 t2)) /\ Go.RowKit.Hid ((((w.alloc (.cells c0 t0)).alloc (.cells c1 t1)).alloc (.cells c2 t2)).heap.size = w.heap.size + 1 + 1 + 1) :=
 ⟨((Blk.new w  t0 c0).alloc (.cells c1 t1)).alloc (.cells c2 t2), (Blk.new2 w (.cells c0 t0) t1 c1).alloc (.cells c2 t2), Blk.new3 w (.cells c0 t0) (.cells c1 t1) t2 c2, Jcc w (.cells c0 t0) (.cells c1 t1) (.cells c2 t2), Lib.hid (by simp)⟩
theorem bx4 (w : World) (t0 : TypeId) (c0 : Array Value) (t1 : TypeId) (c1 : Array Value) (t2 : TypeId) (c2 : Array Value) (t3 : TypeId) (c3 : Array Value) : Blk ((((w.alloc (.cells c0 t0)).alloc (.cells c1 t1)).alloc (.cells c2 t2)).alloc (.cells c3 t3)) (w.heap.size) t0 c0 /\ Blk ((((w.alloc (.cells c0 t0)).alloc (.cells c1 t1)).alloc (.cells c2 t2)).alloc (.cells c3 t3)) (w.heap.size + 1) t1 c1 /\ Blk ((((w.alloc (.cells c0 t0)).alloc (.cells c1 t1)).alloc (.cells c2 t2)).alloc (.cells c3 t3)) (w.heap.size + 1 + 1) t2 c2 /\ Blk ((((w.alloc (.cells c0 t0)).alloc (.cells c1 t1)).alloc (.cells c2 t2)).alloc (.cells c3 t3)) (w.heap.size + 1 + 1 + 1) t3 c3 /\ Below w.heap.size w ((((w.alloc (.cells c0 t0)).alloc (.cells c1 t1)).alloc (.cells c2 t2)).alloc (.cells c3 t3)) /\ Go.RowKit.Hid (((((w.alloc (.cells c0 t0)).alloc (.cells c1 t1)).alloc (.cells c2 t2)).alloc (.cells c3 t3)).heap.size = w.heap.size + 1 + 1 + 1 + 1) :=
 ⟨(((Blk.new w  t0 c0).alloc (.cells c1 t1)).alloc (.cells c2 t2)).alloc (.cells c3 t3), ((Blk.new2 w (.cells c0 t0) t1 c1).alloc (.cells c2 t2)).alloc (.cells c3 t3), (Blk.new3 w (.cells c0 t0) (.cells c1 t1) t2 c2).alloc (.cells c3 t3), Blk.new4 w (.cells c0 t0) (.cells c1 t1) (.cells c2 t2) t3 c3, Jmu w (.cells c0 t0) (.cells c1 t1) (.cells c2 t2) (.cells c3 t3), Lib.hid (by simp)⟩
theorem Ja {w a b : World} (h : Below w.heap.size w a) (h' : Below a.heap.size a b) : Below w.heap.size w b := h.trans (h'.mono h.size)
section
variable {P : Program} (w : World)
theorem Jah (base : Nat) (t ty e : TypeId) (i : TypeInfo) (size : Nat) (ht : P.underlying t = some (.slice e)) (hi : P.info? e = some i)
  (v : Value) (n : Nat) (xs : List Value) (j6 : w.ownsRow base e size v n xs) (c : Nat) : (Builtin.append_ #[t, t] ty #[v, .slice none 0 c]).run P w = .ok v w := by
 rcases j6.2 with ⟨rfl, rfl⟩ | ⟨g, cap, cur, rfl, _, _, aE, _⟩
 ·simp [Builtin.append_, run_underlying ht, sizeOf, typeInfo, hi, Builtin.lenOf, Builtin.firstCells]
 simp [Builtin.append_, run_underlying ht, sizeOf, typeInfo, hi, Builtin.lenOf, Builtin.firstCells, aE, storeCells]
theorem Jcn (base : Nat) (t ty e : TypeId) (i : TypeInfo) (z : Value) (size bytes : Nat) (ht : P.underlying t = some (.slice e)) (hi : P.info? e = some i) (hz : i.zero = some z)
  (j7 : i.size = size) (aJ : i.bytes = bytes) (aK : z.cells.size = size) (aL : 0 < size)
  (v : Value) (n : Nat) (xs : List Value) (j6 : w.ownsRow base e size v n xs)
  (B : Nat) (A : Option Addr) (m c : Nat) (news : List Value) (hr : Reads w B size A m news) (h1 : ∀ u ∈ news, u.oneCell' = true)
  (aG : n + m <= maxLen) (j0 : (n + m) * bytes <= 140737488355328) (j8 : base <= w.heap.size) :
  ∃ v' w', (Builtin.append_ #[t, t] ty #[v, .slice A m c]).run P w = .ok v' w' /\ w'.ownsRow base e size v' (n + m) (xs ++ news) /\ w.grownBy w' v.ownBlock /\
   (v'.ownBlock = v.ownBlock \/ v'.ownBlock = some w.heap.size) := by
 rcases A with _ | ad
 ·have hm : m = 0 := by
   rcases Nat.eq_zero_or_pos m with h0 | h0
   ·exact h0
   obtain ⟨ad, h, _⟩ := hr.2 h0
   cases h
  subst hm
  have hn : news = [] := List.eq_nil_of_length_eq_zero (by simpa using hr.1)
  subst hn
  exact ⟨v, w, Jah w base t ty e i size ht hi v n xs j6 c, by simpa using j6, World.grownBy.refl w _, .inl rfl⟩
 have aM : ∀ j u, news[j]? = some u -> w.cell? (ad.add j) = some u := by
  intro j u hu
  rcases Nat.eq_zero_or_pos m with h0 | h0
  ·subst h0
   have hn : news = [] := List.eq_nil_of_length_eq_zero (by simpa using hr.1)
   subst hn
   simp at hu
  obtain ⟨ad', h, _, hc⟩ := hr.2 h0
  injection h with h
  subst h
  exact hc j u hu
 obtain ⟨v', w', p9, h2, h3, _, h5⟩ := run_append_own_at (P := P) w base t ty e i z size bytes ht hi hz j7 aJ aK aL v n xs j6 ad m c news hr.1 aM h1 aG j0 j8
 exact ⟨v', w', p9, h2, h3, h5⟩
theorem Jdb {o : Oper} {a : Act} {K : Act -> World -> Prop} {Q : Exit -> Act -> World -> Prop} (s x : Operand) (t : TypeId)
  (ho : o.op = .call { callee := .builtin .append, args := #[s, x], argTypes := #[t, t] })
  (base : Nat) (e : TypeId) (i : TypeInfo) (z : Value) (size bytes : Nat) (ht : P.underlying t = some (.slice e)) (hi : P.info? e = some i) (hz : i.zero = some z)
  (j7 : i.size = size) (aJ : i.bytes = bytes) (aK : z.cells.size = size) (aL : 0 < size)
  (v : Value) (n : Nat) (xs : List Value) (hs : a.eval s = v) (j6 : w.ownsRow base e size v n xs)
  (B : Nat) (A : Option Addr) (m c : Nat) (news : List Value) (hx : a.eval x = .slice A m c) (hr : Reads w B size A m news) (h1 : ∀ u ∈ news, u.oneCell' = true)
  (aG : n + m <= maxLen) (j0 : (n + m) * bytes <= 140737488355328) (j8 : base <= w.heap.size)
  (h : ∀ v' w', w'.ownsRow base e size v' (n + m) (xs ++ news) -> w.grownBy w' v.ownBlock -> (v'.ownBlock = v.ownBlock \/ v'.ownBlock = some w.heap.size) -> K (a.put o.dst v') w') : o.wp P a w K Q := by
 obtain ⟨v', w', p9, h2, h3, h4⟩ := Jcn (P := P) w base t o.type e i z size bytes ht hi hz j7 aJ aK aL v n xs j6 B A m c news hr h1 aG j0 j8
 unfold Oper.wp execOp
 simp only [ho, resolve, invoke, builtin, Sem.run_bind, Sem.run_pure, Result.andThen_ok, List.map_toArray, List.map_cons, List.map_nil, hs, hx, p9]
 exact h v' w' h2 h3 h4
theorem Zn {ops : Array Oper} {rest : List Oper} {o : Oper} {a : Act} {Q : Exit -> Act -> World -> Prop} (y9 : o.guard = none) (s x : Operand) (t : TypeId)
  (ho : o.op = .call { callee := .builtin .append, args := #[s, x], argTypes := #[t, t] })
  (base : Nat) (e : TypeId) (i : TypeInfo) (z : Value) (size bytes : Nat) (ht : P.underlying t = some (.slice e)) (hi : P.info? e = some i) (hz : i.zero = some z)
  (j7 : i.size = size) (aJ : i.bytes = bytes) (aK : z.cells.size = size) (aL : 0 < size)
  (v : Value) (n : Nat) (xs : List Value) (hs : a.eval s = v) (j6 : w.ownsRow base e size v n xs)
  (B : Nat) (A : Option Addr) (m c : Nat) (news : List Value) (hx : a.eval x = .slice A m c) (hr : Reads w B size A m news) (h1 : ∀ u ∈ news, u.oneCell' = true)
  (aG : n + m <= maxLen) (j0 : (n + m) * bytes <= 140737488355328) (j8 : base <= w.heap.size)
  (h : ∀ v' w', w'.ownsRow base e size v' (n + m) (xs ++ news) -> w.grownBy w' v.ownBlock -> (v'.ownBlock = v.ownBlock \/ v'.ownBlock = some w.heap.size) -> wpList P ops Q rest (a.put o.dst v') w') : wpList P ops Q (o :: rest) a w :=
 wpList_plain y9 fun _ hK => Jdb w s x t ho base e i z size bytes ht hi hz j7 aJ aK aL v n xs hs j6 B A m c news hx hr h1 aG j0 j8 fun v' w' h2 h3 h4 => hK _ _ (h v' w' h2 h3 h4)
end
def Own {α : Type} (w : World) (e : TypeId) (f : α -> Value) (v : Value) (l : List α) : Prop := w.ownsRow 0 e 1 v l.length (l.map f)
structure Grew (w w' : World) (v v' : Value) : Prop where
 os : w'.os = w.os
 tape : w'.tape = w.tape
 output : w'.output = w.output
 size : w.heap.size <= w'.heap.size
 block : ∀ k, k < w.heap.size -> some k ≠ v.ownBlock -> w'.heap[k]? = w.heap[k]?
 own : ∀ k, v'.ownBlock = some k -> v.ownBlock = some k \/ w.heap.size <= k
section
variable {α : Type} {w w' a b c : World} {e : TypeId} {f : α -> Value} {v v' v'' : Value} {l : List α}
theorem Grew.refl (w : World) (v : Value) : Grew w w v v := ⟨rfl, rfl, rfl, Nat.le_refl _, fun _ _ _ => rfl, fun k h => .inl h⟩
theorem Grew.trans (h : Grew a b v v') (h' : Grew b c v' v'') : Grew a c v v'' := by
 refine ⟨h'.os.trans h.os, h'.tape.trans h.tape, h'.output.trans h.output, Nat.le_trans h.size h'.size, fun k hk j9 => ?_, fun k hk => ?_⟩
 ·refine (h'.block k (Nat.lt_of_lt_of_le hk h.size) (fun e => ?_)).trans (h.block k hk j9)
  rcases h.own k e.symm with h1 | h1
  ·exact j9 h1.symm
  omega
 rcases h'.own k hk with h1 | h1
 ·exact h.own k h1
 exact .inr (Nat.le_trans h.size h1)
theorem Grew.alloc (h : Grew a b v v') (o : Obj) : Grew a (b.alloc o) v v' :=
 ⟨h.os, h.tape, h.output, Nat.le_trans h.size (by simp), fun k hk j9 => (Below.heap_alloc b o k (Nat.lt_of_lt_of_le hk h.size)).trans (h.block k hk j9), h.own⟩
theorem Grew.of_grown (h : a.grownBy b v.ownBlock) (h2 : v'.ownBlock = v.ownBlock \/ v'.ownBlock = some a.heap.size) : Grew a b v v' :=
 ⟨h.os, h.tape, h.output, h.size, h.block, fun k hk => by
  rcases h2 with h2 | h2
  ·exact .inl (by rw [<- h2]; exact hk)
  rw [h2] at hk
  injection hk with hk
  exact .inr (by omega)⟩
theorem Grew.below {B : Nat} (h : Grew a b v v') (hB : B <= a.heap.size) (hv : ∀ k, v.ownBlock = some k -> B <= k) : Below B a b :=
 ⟨h.os, h.tape, h.output, h.size, fun k hk => h.block k (Nat.lt_of_lt_of_le hk hB) (fun e => by have := hv k e.symm; omega)⟩
theorem Grew.fresh {B : Nat} (h : Grew a b v v') (hB : B <= a.heap.size) (hv : ∀ k, v.ownBlock = some k -> B <= k) : ∀ k, v'.ownBlock = some k -> B <= k := fun k hk => by
 rcases h.own k hk with h1 | h1
 ·exact hv k h1
 omega
theorem Own.nil_ (w : World) (e : TypeId) (f : α -> Value) : Own w e f (.slice none 0 0) [] := World.ownsRow_nil w 0 e 1
theorem Own.form (h : Own w e f v l) : ∃ A c, v = .slice A l.length c /\ l.length <= c /\ c <= maxLen := by
 rcases h.2 with ⟨h1, h2⟩ | ⟨g, cap, cur, h1, _, _, h2, h3, _⟩
 ·exact ⟨none, 0, by rw [h1, h2], by omega, by unfold maxLen; omega⟩
 exact ⟨_, _, h1, h2, h3⟩
theorem Own.reads {A : Option Addr} {n k : Nat} (h : Own w e f (.slice A n k) l) : Reads w w.heap.size 1 A l.length (l.map f) := by
 have hn : n = l.length := by
  rcases h.2 with ⟨h1, h2⟩ | ⟨g, cap, cur, h1, _⟩
  ·injection h1 with _ h1 _
   omega
  injection h1
 subst hn
 exact Reads.of_own h
theorem Own.lt (h : Own w e f v l) : ∀ k, v.ownBlock = some k -> k < w.heap.size := fun k hk => (World.ownsRow.lt h k hk).2
theorem Own.below (h : Own w e f v l) {B : Nat} (hb : Below B w w') (hB : ∀ k, v.ownBlock = some k -> k < B) : Own w' e f v l := by
 refine ⟨h.1, ?_⟩
 rcases h.2 with h1 | ⟨g, cap, cur, h1, h2, h3, h4⟩
 ·exact .inl h1
 subst h1
 exact .inr ⟨g, cap, cur, rfl, h2, (hb.block g (hB g rfl)).trans h3, h4⟩
theorem Own.alloc (h : Own w e f v l) (o : Obj) : Own (w.alloc o) e f v l := World.ownsRow.alloc h o
theorem Own.drewN (h : Own w e f v l) (n : Nat) : Own (w.drewN n) e f v l := h
theorem Own.lit (w : World) (e : TypeId) (f : α -> Value) (l : List α) (hm : l.length <= maxLen) : Own (w.alloc (.cells (l.map f).toArray e)) e f (.slice (some ⟨w.heap.size, 0, none⟩) l.length l.length) l :=
 ⟨by simp, .inr ⟨w.heap.size, l.length, (l.map f).toArray, rfl, Nat.zero_le _, heap_alloc_new w _, Nat.le_refl _, hm, by simp, by rw [Nat.mul_one, List.take_of_length_le (by simp)]⟩⟩
end
theorem Reads.one (w : World) (x : Value) (t : TypeId) : Reads (w.alloc (.cells #[x] t)) (w.heap.size + 1) 1 (some ⟨w.heap.size, 0, none⟩) 1 [x] :=
 ⟨rfl, fun _ => ⟨_, rfl, by simp, cell_one_new w x t⟩⟩
structure Elt (P : Program) (t e : TypeId) (z : Value) (bytes : Nat) : Prop where
 under : P.underlying t = some (.slice e)
 info : (P.info? e).map (fun i => (i.zero, i.size, i.bytes)) = some (some z, 1, bytes)
 one : z.cells.size = 1
section
variable {α : Type} {P : Program} {ops : Array Oper} {rest : List Oper} {o : Oper} {a : Act} {Q : Exit -> Act -> World -> Prop} {t e : TypeId} {z : Value} {bytes : Nat} {f : α -> Value}
theorem Joi (E : Elt P t e z bytes) (y9 : o.guard = none) (s x : Operand)
  (ho : o.op = .call { callee := .builtin .append, args := #[s, x], argTypes := #[t, t] })
  (wr : World) (v : Value) (l : List α) (m : α) (y : Value) (hy : y = f m) (hs : a.eval s = v) (j6 : Own wr e f v l) (hx : a.eval x = .slice (some ⟨wr.heap.size, 0, none⟩) 1 1)
  (aI : (f m).oneCell' = true) (aG : l.length + 1 <= maxLen) (hb : (l.length + 1) * bytes <= 140737488355328)
  (h : ∀ v' w1, Own w1 e f v' (l ++ [m]) -> Grew wr w1 v v' -> wpList P ops Q rest (a.put o.dst v') w1) : wpList P ops Q (o :: rest) a (wr.alloc (.cells #[y] e)) := by
 subst hy
 obtain ⟨i0, o9, aA, o0, aB⟩ := info_parts E.info
 refine Zn _ y9 s x t ho 0 e i0 z 1 bytes E.under o9 aA o0 aB E.one (by omega) v l.length (l.map f) hs (Own.alloc j6 _) (wr.heap.size + 1) (some ⟨wr.heap.size, 0, none⟩) 1 1 [f m] hx (Reads.one _ _ _)
  (by intro u hu; simp at hu; subst hu; exact aI) aG hb (Nat.zero_le _) ?_
 intro v' w' aF aC aD
 refine h v' w' ?_ (((Grew.refl wr v).alloc _).trans (Grew.of_grown aC (by simpa using aD)))
 unfold Own
 simpa using aF
theorem Jnx (E : Elt P t e z bytes) (y9 : o.guard = none) (s x : Operand)
  (ho : o.op = .call { callee := .builtin .append, args := #[s, x], argTypes := #[t, t] })
  (w : World) (v : Value) (l : List α) (B : Nat) (A : Option Addr) (n c : Nat) (l2 : List α) (hs : a.eval s = v) (j6 : Own w e f v l) (hx : a.eval x = .slice A n c)
  (hr : Reads w B 1 A n (l2.map f)) (aI : ∀ m, (f m).oneCell' = true) (aG : l.length + n <= maxLen) (hb : (l.length + n) * bytes <= 140737488355328)
  (h : ∀ v' w1, Own w1 e f v' (l ++ l2) -> Grew w w1 v v' -> wpList P ops Q rest (a.put o.dst v') w1) : wpList P ops Q (o :: rest) a w := by
 obtain ⟨i0, o9, aA, o0, aB⟩ := info_parts E.info
 refine Zn _ y9 s x t ho 0 e i0 z 1 bytes E.under o9 aA o0 aB E.one (by omega) v l.length (l.map f) hs j6 B A n c (l2.map f) hx hr
  (by intro u hu; simp at hu; obtain ⟨m, _, rfl⟩ := hu; exact aI m) aG hb (Nat.zero_le _) ?_
 intro v' w' aF aC aD
 refine h v' w' ?_ (Grew.of_grown aC aD)
 have hl := hr.lenf
 unfold Own
 rw [List.length_append, List.map_append, hl]
 exact aF
end
def Jg4 (A : Option Addr) (m l size : Nat) : Option Addr := if m = l then A else A.map (·.add (l * size))
section
variable {P : Program} {t e : TypeId} {z : Value} {size bytes : Nat}
theorem Ji0 (ht : P.underlying t = some (.slice e)) (hi : (P.info? e).map (fun i => (i.zero, i.size, i.bytes)) = some (some z, size, bytes)) (A : Option Addr) (n c : Nat) (k : IntKind) (l : Int) (h0 : 0 <= l) (h1 : l <= n) (w : World) :
  (Instr.slice t (.slice A n c) (some (.int k l)) none none).run P w = .ok (.slice (Jg4 A c l.toNat size) (n - l.toNat) (c - l.toNat)) w := by
 obtain ⟨i0, o9, aA, o0, aB⟩ := info_parts hi
 simp [Instr.slice, run_underlying ht, Instr.sliceBounds, Instr.sliceBound, asIntOf, sizeOf, typeInfo, o9, h0, h1, o0, Jg4, Result.andThen]
end
theorem Reads.part {w : World} {B size n : Nat} {A : Option Addr} {xs : List Value} (h : Reads w B size A n xs) (m l k : Nat) (h1 : l + k <= n) (h2 : l + k <= m) :
  Reads w B size (Jg4 A m l size) k ((xs.drop (l * size)).take (k * size)) := by
 have hf := h.front (k := l + k) h1
 have hc := hf.cut (k := l) (cap := m) (by omega) h2
 unfold Jg4
 rw [show l + k - l = k from by omega] at hc
 have e : (xs.take ((l + k) * size)).drop (l * size) = (xs.drop (l * size)).take (k * size) := by
  rw [List.drop_take]
  congr 1
  rw [Nat.add_mul]
  omega
 rw [e] at hc
 exact hc
structure Exc (b : Nat) (w w' : World) : Prop where
 os : w'.os = w.os
 tape : w'.tape = w.tape
 output : w'.output = w.output
 size : w.heap.size <= w'.heap.size
 block : ∀ k, k < w.heap.size -> k ≠ b -> w'.heap[k]? = w.heap[k]?
section
variable {b : Nat} {w w' w'' : World}
theorem Exc.refl (b : Nat) (w : World) : Exc b w w := ⟨rfl, rfl, rfl, Nat.le_refl _, fun _ _ _ => rfl⟩
theorem Exc.set_ (h : Exc b w w') (i : Nat) (u : Value) : Exc b w (w'.setCell ⟨b, i, none⟩ u) :=
 ⟨h.os, h.tape, h.output, by rw [World.size_setCell]; exact h.size, fun k hk hb => (Below.heap_setCell w' _ _ k hb).trans (h.block k hk hb)⟩
theorem Exc.below {B : Nat} (h : Exc b w w') (hB : B <= w.heap.size) (hb : B <= b) : Below B w w' :=
 ⟨h.os, h.tape, h.output, h.size, fun k hk => h.block k (by omega) (by omega)⟩
theorem Reads.exc {B size n : Nat} {A : Option Addr} {xs : List Value} (h : Reads w B size A n xs) (he : Exc b w w') (hB : B <= w.heap.size) (hA : ∀ ad, A = some ad -> ad.block ≠ b) : Reads w' B size A n xs :=
 ⟨h.1, fun hn => by
  obtain ⟨ad, e, hb, hc⟩ := h.2 hn
  refine ⟨ad, e, hb, fun j u hu => ?_⟩
  rw [World.cell?_of_block (he.block (ad.add j).block (by rw [Jz]; omega) (by rw [Jz]; exact hA ad e))]
  exact hc j u hu⟩
theorem Blk.exc {g : Nat} {t : TypeId} {cs : Array Value} (h : Blk w g t cs) (he : Exc b w w') (hg : g ≠ b) : Blk w' g t cs := (he.block g h.lt hg).trans h
theorem Own.exc {α : Type} {e : TypeId} {f : α -> Value} {v : Value} {l : List α} (h : Own w e f v l) (he : Exc b w w') (hv : v.ownBlock ≠ some b) : Own w' e f v l := by
 refine ⟨h.1, ?_⟩
 rcases h.2 with h1 | ⟨g, cap, cur, h1, h2, h3, h4⟩
 ·exact .inl h1
 subst h1
 have aH : g < w.heap.size := by
  rcases Nat.lt_or_ge g w.heap.size with aH | hge
  ·exact aH
  rw [Array.getElem?_eq_none hge] at h3; cases h3
 exact .inr ⟨g, cap, cur, rfl, h2, (he.block g aH (fun e => hv (by rw [<- e]; rfl))).trans h3, h4⟩
end
section
variable {P : Program} {t e : TypeId}
theorem Jd3 {z : Value} {size bytes : Nat} (ht : P.underlying t = some (.slice e)) (hi : (P.info? e).map (fun i => (i.zero, i.size, i.bytes)) = some (some z, size, bytes)) (A : Option Addr) (n c : Nat) (k : IntKind) (h : Int) (h0 : 0 <= h) (h1 : h <= c) (w : World) :
  (Instr.slice t (.slice A n c) none (some (.int k h)) none).run P w = .ok (.slice A h.toNat c) w := by
 obtain ⟨i0, o9, aA, o0, aB⟩ := info_parts hi
 cases A with
 | none => simp [Instr.slice, run_underlying ht, Instr.sliceBounds, Instr.sliceBound, asIntOf, sizeOf, typeInfo, o9, h0, h1, o0, Result.andThen]
 | some a =>
  simp [Instr.slice, run_underlying ht, Instr.sliceBounds, Instr.sliceBound, asIntOf, sizeOf, typeInfo, o9, h0, h1, o0, Result.andThen, Addr.add]
end
theorem Jt (W : World) : Below W.heap.size W W.drew := ⟨rfl, rfl, rfl, Nat.le_refl _, fun _ _ => rfl⟩
theorem Jq {a b c : Nat} (h : a < b) (h' : b <= c) : ¬ a = c /\ ¬ c = a := ⟨by omega, by omega⟩
theorem Xr {W wp wk : World} {t : TypeId} {cs : Array Value} (hc : Below W.heap.size W wp) (h : Below (wp.alloc (.cells cs t)).heap.size (wp.alloc (.cells cs t)) wk) :
  Blk wk wp.heap.size t cs /\ W.heap.size <= wp.heap.size /\ Below W.heap.size W wk :=
 ⟨(Blk.new wp t cs).below h (Blk.new wp t cs).lt, hc.size, Ja (Ja hc (Jb _ _)) h⟩
theorem Jhc {W wp wk : World} {t t' : TypeId} {cs cs' : Array Value} (hc : Below W.heap.size W wp) (h : Below ((wp.alloc (.cells cs t)).alloc (.cells cs' t')).heap.size ((wp.alloc (.cells cs t)).alloc (.cells cs' t')) wk) :
  Blk wk wp.heap.size t cs /\ W.heap.size <= wp.heap.size /\ Blk wk (wp.heap.size + 1) t' cs' /\ W.heap.size <= wp.heap.size + 1 /\ wp.heap.size < wp.heap.size + 1 /\ Below W.heap.size W wk :=
 ⟨((Blk.new wp t cs).alloc _).below h ((Blk.new wp t cs).alloc _).lt, hc.size, (Blk.new2 wp _ t' cs').below h (Blk.new2 wp _ t' cs').lt, Nat.le_trans hc.size (Nat.le_succ _), Nat.lt_succ_self _, Ja (Ja hc (Jo _ _ _)) h⟩
theorem Xn {W V wk : World} {t : TypeId} {cs : Array Value} (hc : Below W.heap.size W V.drew) (h : Below (V.drew.alloc (.cells cs t)).heap.size (V.drew.alloc (.cells cs t)) wk) :
  Blk wk V.heap.size t cs /\ W.heap.size <= V.heap.size /\ Below W.heap.size W wk := Xr (wp := V.drew) hc h
theorem Jfq {W V wk : World} {t t' : TypeId} {cs cs' : Array Value} (hc : Below W.heap.size W V.drew) (h : Below ((V.drew.alloc (.cells cs t)).alloc (.cells cs' t')).heap.size ((V.drew.alloc (.cells cs t)).alloc (.cells cs' t')) wk) :
  Blk wk V.heap.size t cs /\ W.heap.size <= V.heap.size /\ Blk wk (V.heap.size + 1) t' cs' /\ W.heap.size <= V.heap.size + 1 /\ V.heap.size < V.heap.size + 1 /\ Below W.heap.size W wk := Jhc (wp := V.drew) hc h
def Jdu (W : World) (t : TypeId) (cs : Array Value) (v : Value) (wc : World) : Prop :=
 ∃ g, v = .pointer (some ⟨g, 0, none⟩) /\ W.heap.size <= g /\ Blk wc g t cs /\ Below W.heap.size W wc
theorem Jgn {W wn : World} {g : Nat} {t : TypeId} {a b x y : Value} (hc : Below W.heap.size W wn) (ca : Blk wn g t #[a, b]) (hg : W.heap.size <= g) :
  Jdu W t #[x, y] (.pointer (some ⟨g, 0, none⟩)) ((wn.setCell ⟨g, 0, none⟩ x).setCell ⟨g, 1, none⟩ y) :=
 ⟨g, rfl, hg, by simpa using (ca.set_ 0 x).set_ 1 y, Xo hc hg x y⟩
theorem Jod {W wn : World} {g : Nat} {t : TypeId} {a b c x y z : Value} (hc : Below W.heap.size W wn) (ca : Blk wn g t #[a, b, c]) (hg : W.heap.size <= g) :
  Jdu W t #[x, y, z] (.pointer (some ⟨g, 0, none⟩)) (((wn.setCell ⟨g, 0, none⟩ x).setCell ⟨g, 1, none⟩ y).setCell ⟨g, 2, none⟩ z) :=
 ⟨g, rfl, hg, by simpa using ((ca.set_ 0 x).set_ 1 y).set_ 2 z, Kw hc hg x y z⟩
theorem Joc {W wn : World} {g : Nat} {t : TypeId} {a b c d e x y z u v : Value} (hc : Below W.heap.size W wn) (ca : Blk wn g t #[a, b, c, d, e]) (hg : W.heap.size <= g) :
  Jdu W t #[x, y, z, u, v] (.pointer (some ⟨g, 0, none⟩)) (((((wn.setCell ⟨g, 0, none⟩ x).setCell ⟨g, 1, none⟩ y).setCell ⟨g, 2, none⟩ z).setCell ⟨g, 3, none⟩ u).setCell ⟨g, 4, none⟩ v) :=
 ⟨g, rfl, hg, by simpa using ((((ca.set_ 0 x).set_ 1 y).set_ 2 z).set_ 3 u).set_ 4 v, Uy hc hg x y z u v⟩
def Born2 (W : World) (t : TypeId) (cs : Array Value) (t' : TypeId) (cs' : Array Value) (v v' : Value) (wc : World) : Prop :=
 ∃ g h, v = .pointer (some ⟨g, 0, none⟩) /\ v' = .pointer (some ⟨h, 0, none⟩) /\ g ≠ h /\ W.heap.size <= g /\ W.heap.size <= h /\ Blk wc g t cs /\ Blk wc h t' cs' /\ Below W.heap.size W wc
theorem Jmz {W wn : World} {g h : Nat} {t t' : TypeId} {a b c d x y z u : Value} (hc : Below W.heap.size W wn) (ca : Blk wn g t #[a, b]) (cd : Blk wn h t' #[c, d]) (j9 : g ≠ h) (hg : W.heap.size <= g) (hh : W.heap.size <= h) :
  Born2 W t #[x, y] t' #[z, u] (.pointer (some ⟨g, 0, none⟩)) (.pointer (some ⟨h, 0, none⟩)) ((((wn.setCell ⟨g, 0, none⟩ x).setCell ⟨g, 1, none⟩ y).setCell ⟨h, 0, none⟩ z).setCell ⟨h, 1, none⟩ u) := by
 refine ⟨g, h, rfl, rfl, j9, hg, hh, ?_, ?_, ?_⟩
 ·have e1 := (((ca.set_ 0 x).set_ 1 y).far (p := ⟨h, 0, none⟩) j9 z).far (p := ⟨h, 1, none⟩) j9 u
  simpa using e1
 ·have e2 := (((cd.far (p := ⟨g, 0, none⟩) (Ne.symm j9) x).far (p := ⟨g, 1, none⟩) (Ne.symm j9) y).set_ 0 z).set_ 1 u
  simpa using e2
 exact (((hc.setCell hg _).setCell hg _).setCell hh _).setCell hh _
theorem Born2.swap {W wc : World} {t t' : TypeId} {cs cs' : Array Value} {v v' : Value} (h : Born2 W t cs t' cs' v v' wc) : Born2 W t' cs' t cs v' v wc := by
 obtain ⟨g, k, h1, h2, h3, h4, h5, h6, h7, h8⟩ := h
 exact ⟨k, g, h2, h1, Ne.symm h3, h5, h4, h7, h6, h8⟩
theorem Jn9 {W wn : World} {t t' : TypeId} {cs cs' : Array Value} (hc : Below W.heap.size W wn) :
  Born2 W t cs t' cs' (.pointer (some ⟨wn.heap.size, 0, none⟩)) (.pointer (some ⟨wn.heap.size + 1, 0, none⟩)) ((wn.alloc (.cells cs t)).alloc (.cells cs' t')) :=
 ⟨_, _, rfl, rfl, by omega, hc.size, Nat.le_trans hc.size (Nat.le_succ _), (Blk.new _ _ _).alloc _, Blk.new2 _ _ _ _, Ja hc (Jo _ _ _)⟩
theorem Jn8 {W wn : World} {t t' : TypeId} {cs cs' : Array Value} (hc : Below W.heap.size W wn) :
  Born2 W t' cs' t cs (.pointer (some ⟨wn.heap.size + 1, 0, none⟩)) (.pointer (some ⟨wn.heap.size, 0, none⟩)) ((wn.alloc (.cells cs t)).alloc (.cells cs' t')) := (Jn9 hc).swap
theorem Jn7 {W wn : World} {g : Nat} {t t' : TypeId} {a b x y : Value} {cs' : Array Value} (hc : Below W.heap.size W wn) (ca : Blk wn g t #[a, b]) (hg : W.heap.size <= g) :
  Born2 W t #[x, y] t' cs' (.pointer (some ⟨g, 0, none⟩)) (.pointer (some ⟨wn.heap.size, 0, none⟩)) (((wn.setCell ⟨g, 0, none⟩ x).setCell ⟨g, 1, none⟩ y).alloc (.cells cs' t')) := by
 have h1 := ((ca.set_ 0 x).set_ 1 y).alloc (.cells cs' t')
 have h2 := Blk.new ((wn.setCell ⟨g, 0, none⟩ x).setCell ⟨g, 1, none⟩ y) t' cs'
 simp only [World.size_setCell] at h2
 have := ca.lt
 exact ⟨_, _, rfl, rfl, by omega, hg, hc.size, by simpa using h1, h2, Ja (Xo hc hg x y) (Jb _ _)⟩
theorem Jn6 {W wn : World} {g : Nat} {t t' : TypeId} {a b x y : Value} {cs' : Array Value} (hc : Below W.heap.size W wn) (ca : Blk wn g t #[a, b]) (hg : W.heap.size <= g) :
  Born2 W t' cs' t #[x, y] (.pointer (some ⟨wn.heap.size, 0, none⟩)) (.pointer (some ⟨g, 0, none⟩)) (((wn.setCell ⟨g, 0, none⟩ x).setCell ⟨g, 1, none⟩ y).alloc (.cells cs' t')) := (Jn7 hc ca hg).swap
section
variable {α : Type} {k : Nat} {f : α -> List Value}
theorem Jei (hf : ∀ a, (f a).length = k) (l : List α) : (l.flatMap f).length = l.length * k := by
 induction l with
 | nil => simp
 | cons a l ih => rw [List.flatMap_cons, List.length_append, hf, ih, List.length_cons, Nat.add_mul, Nat.one_mul]; omega
theorem Jcz (hf : ∀ a, (f a).length = k) (l : List α) : ∀ (i j : Nat) (x : α), l[i]? = some x -> j < k -> (l.flatMap f)[i * k + j]? = (f x)[j]? := by
 induction l with
 | nil => intro i j x h; simp at h
 | cons a l ih =>
  intro i j x h hj
  rw [List.flatMap_cons]
  cases i with
  | zero =>
   simp at h
   subst h
   rw [Nat.zero_mul, Nat.zero_add, List.getElem?_append_left (by rw [hf]; exact hj)]
  | succ i =>
   simp at h
   rw [List.getElem?_append_right (by rw [hf, Nat.add_mul]; omega), hf]
   have e : (i + 1) * k + j - k = i * k + j := by rw [Nat.add_mul]; omega
   rw [e]
   exact ih i j x h hj
def ReadsW (w : World) (B k : Nat) (f : α -> List Value) (A : Option Addr) (n : Nat) (l : List α) : Prop := l.length = n /\ Reads w B k A n (l.flatMap f)
variable {w w' : World} {B n : Nat} {A : Option Addr} {l : List α}
theorem ReadsW.at_ (hf : ∀ a, (f a).length = k) (h : ReadsW w B k f A n l) {i : Nat} (hi : i < n) :
  ∃ ad x, A = some ad /\ ad.block < B /\ l[i]? = some x /\ ∀ j u, (f x)[j]? = some u -> w.cell? (ad.add (i * k + j)) = some u := by
 obtain ⟨hl, hr⟩ := h
 obtain ⟨ad, h1, h2, h3⟩ := hr.2 (by omega)
 have hx : l[i]? = some (l[i]'(by omega)) := List.getElem?_eq_getElem (by omega)
 refine ⟨ad, _, h1, h2, hx, fun j u hu => h3 _ _ ?_⟩
 have hj : j < k := by
  rw [<- hf (l[i]'(by omega))]
  exact (List.getElem?_eq_some_iff.1 hu).1
 rw [Jcz hf l i j _ hx hj, hu]
theorem ReadsW.nil : ReadsW w B k f A 0 [] := ⟨rfl, Reads.none_⟩
theorem ReadsW.len (h : ReadsW w B k f A n l) : l.length = n := h.1
theorem ReadsW.below (h : ReadsW w B k f A n l) (hb : Below B w w') : ReadsW w' B k f A n l := ⟨h.1, h.2.below hb⟩
def OwnW (w : World) (e : TypeId) (k : Nat) (f : α -> List Value) (v : Value) (l : List α) : Prop := w.ownsRow 0 e k v l.length (l.flatMap f)
variable {e : TypeId} {v : Value}
theorem OwnW.nil_ (w : World) (e : TypeId) (k : Nat) (f : α -> List Value) : OwnW w e k f (.slice none 0 0) [] := World.ownsRow_nil w 0 e k
theorem OwnW.form (h : OwnW w e k f v l) : ∃ A c, v = .slice A l.length c /\ l.length <= c /\ c <= maxLen := by
 rcases h.2 with ⟨h1, h2⟩ | ⟨g, cap, cur, h1, _, _, h2, h3, _⟩
 ·exact ⟨none, 0, by rw [h1, h2], by omega, by unfold maxLen; omega⟩
 exact ⟨_, _, h1, h2, h3⟩
theorem OwnW.reads {c m : Nat} (h : OwnW w e k f (.slice A m c) l) : ReadsW w w.heap.size k f A l.length l := by
 have hn : m = l.length := by
  rcases h.2 with ⟨h1, h2⟩ | ⟨g, cap, cur, h1, _⟩
  ·injection h1 with _ h1 _
   omega
  injection h1
 subst hn
 exact ⟨rfl, Reads.of_own h⟩
theorem OwnW.lt (h : OwnW w e k f v l) : ∀ b, v.ownBlock = some b -> b < w.heap.size := fun b hk => (World.ownsRow.lt h b hk).2
theorem OwnW.below (h : OwnW w e k f v l) {B : Nat} (hb : Below B w w') (hB : ∀ b, v.ownBlock = some b -> b < B) : OwnW w' e k f v l := by
 refine ⟨h.1, ?_⟩
 rcases h.2 with h1 | ⟨g, cap, cur, h1, h2, h3, h4⟩
 ·exact .inl h1
 subst h1
 exact .inr ⟨g, cap, cur, rfl, h2, (hb.block g (hB g rfl)).trans h3, h4⟩
theorem OwnW.next (h : OwnW w e k f v l) (hb : Below w.heap.size w w') : OwnW w' e k f v l := h.below hb h.lt
theorem OwnW.alloc (h : OwnW w e k f v l) (o : Obj) : OwnW (w.alloc o) e k f v l := World.ownsRow.alloc h o
end
structure EltW (P : Program) (t e : TypeId) (z : Value) (k bytes : Nat) : Prop where
 under : P.underlying t = some (.slice e)
 info : (P.info? e).map (fun i => (i.zero, i.size, i.bytes)) = some (some z, k, bytes)
 size : z.cells.size = k
section
variable {α : Type} {P : Program} {ops : Array Oper} {rest : List Oper} {o : Oper} {a : Act} {Q : Exit -> Act -> World -> Prop} {t e : TypeId} {z : Value} {k bytes : Nat} {f : α -> List Value}
end
