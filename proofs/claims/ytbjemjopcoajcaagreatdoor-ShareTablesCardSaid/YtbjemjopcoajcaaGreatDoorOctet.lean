/-
  octet.appendCount: a count as bytes of seven bits, the lowest first.
  octet.exact and hand.Few: copies of bytes in new memory.
  octet.Sum: the hash of a list of bytes.
  octet.Seal: a record's bytes.
  How the arguments of a statement are read: slices of bytes.
  octet.readCount.
  octet.Next.
  hand.SameInts over two equal lists, hand.Pick.
-/
import Derived.Test.YtbjemjopcoajcaaGreatDoorProg
import Derived.Test.YtbjemjopcoajcaaGreatDoorMathA
import Derived.Test.YtbjemjopcoajcaaGreatDoorMem
import Derived.Test.YtbjemjopcoajcaaGreatDoorHandPick
import Derived.Deep.RegionWith
import Derived.Deep.RegionHeld3
import Derived.Deep.QuietTactic
import Derived.BigQuiet
/-! octet.appendCount: a count as bytes of seven bits, the lowest first. -/
namespace Go.Proofs.YtbjemjopcoajcaaGreatDoor
open Go.RowKit
set_option linter.unusedSimpArgs false
set_option linter.unusedVariables false

def countF : Nat → Nat → List UInt8
  | 0, n => [UInt8.ofNat n]
  | f + 1, n => if n < 128 then [UInt8.ofNat n] else UInt8.ofNat (n % 128 + 128) :: countF f (n / 128)
def countB (n : Nat) : List UInt8 := countF 9 n
theorem countF_small (f n : Nat) (h : n < 128) : countF f n = [UInt8.ofNat n] := by
  cases f <;> simp [countF, h]
theorem countF_big (f n : Nat) (h : ¬ n < 128) : countF (f + 1) n = UInt8.ofNat (n % 128 + 128) :: countF f (n / 128) := by
  simp [countF, h]
theorem countF_len (f : Nat) : ∀ n, (countF f n).length ≤ f + 1 := by
  induction f with
  | zero => intro n; simp [countF]
  | succ f ih =>
    intro n
    by_cases h : n < 128
    · rw [countF_small _ _ h]; simp
    · rw [countF_big _ _ h]
      have := ih (n / 128)
      simp; omega
theorem or128 : ∀ m : Nat, m < 256 → m ||| 128 = m % 128 + 128 := by decide +kernel
theorem count_walk (n : Nat) : bits .or .u8 ((n : Int) % 256) 128 = ((UInt8.ofNat (n % 128 + 128)).toNat : Int) := by
  rw [show (n : Int) % 256 = ((n % 256 : Nat) : Int) from by omega]
  have h : n % 256 < 256 := Nat.mod_lt _ (by omega)
  have e := or_u8 (n % 256) 128 h (by omega)
  rw [show ((128 : Nat) : Int) = 128 from rfl] at e
  rw [e, or128 _ h, UInt8.toNat_ofNat']
  omega
theorem Tryz.infoU8 : (Tryz.prog.info? 5).map (fun i => (i.zero, i.size, i.bytes)) = some (some (.int .u8 0), 1, 1) := by kernel_rfl

theorem Tryz.eltU8 : Elt Tryz.prog 134 5 (.int .u8 0) 1 := ⟨Tryz.underlying134, Tryz.infoU8, rfl⟩
theorem u8v_one (b : UInt8) : (u8v b).oneCell' = true := rfl

def CountRel (w : World) (v0 : Value) (goal : List UInt8) (m : Nat) (v : Value) (wr : World) : Prop :=
  ∃ f l, m < 128 ^ (f + 1) ∧ l ++ countF f m = goal ∧ Own wr 5 u8v v l ∧ Grew w wr v0 v

end Go.Proofs.YtbjemjopcoajcaaGreatDoor

/-! octet.exact and hand.Few: copies of bytes in new memory. -/
namespace Go.Proofs.YtbjemjopcoajcaaGreatDoor
open Go.RowKit
set_option linter.unusedSimpArgs false
set_option linter.unusedVariables false

/-- v is a slice of new memory that holds the bytes l; nothing that was there has changed -/
def NewB (w w' : World) (v : Value) (l : List UInt8) : Prop := Own w' 5 u8v v l ∧ Below w.heap.size w w' ∧ ∀ k, v.ownBlock = some k → w.heap.size ≤ k

theorem Tryz.sizeU8 : (Tryz.prog.info? 5).map (·.size) = some 1 := by kernel_rfl
theorem Own.ofBlk {α : Type} {w : World} {e : TypeId} {f : α → Value} {l : List α} {g : Nat} (h : Row w g e f l) (hm : l.length ≤ maxLen) : Own w e f (.slice (some ⟨g, 0, none⟩) l.length l.length) l :=
  ⟨by simp, .inr ⟨g, l.length, (l.map f).toArray, rfl, Nat.zero_le _, h, Nat.le_refl _, hm, by simp, by rw [Nat.mul_one, List.take_of_length_le (by simp)]⟩⟩

end Go.Proofs.YtbjemjopcoajcaaGreatDoor

/-! octet.Sum: the hash of a list of bytes. -/
namespace Go.Proofs.YtbjemjopcoajcaaGreatDoor
open Go.RowKit
set_option linter.unusedSimpArgs false
set_option linter.unusedVariables false

def fnvStep (h : Nat) (c : UInt8) : Nat := ((h ^^^ c.toNat) * 1099511628211) % 18446744073709551616
def fnv (bs : List UInt8) : Nat := bs.foldl fnvStep 14695981039346656037
theorem fnvStep_lt (h : Nat) (c : UInt8) : fnvStep h c < 18446744073709551616 := Nat.mod_lt _ (by omega)
theorem foldl_lt (bs : List UInt8) : ∀ h, h < 18446744073709551616 → bs.foldl fnvStep h < 18446744073709551616 := by
  induction bs with
  | nil => intro h hh; exact hh
  | cons c bs ih => intro h _; exact ih _ (fnvStep_lt _ _)
theorem fnv_lt (bs : List UInt8) : fnv bs < 18446744073709551616 := by
  unfold fnv
  exact foldl_lt bs _ (by omega)
theorem take_snoc {α : Type} (l : List α) (k : Nat) (x : α) (h : l[k]? = some x) : l.take (k + 1) = l.take k ++ [x] := by
  rw [List.take_add_one, h]
  rfl
theorem fnv_take (bs : List UInt8) (k : Nat) (x : UInt8) (h : bs[k]? = some x) : fnv (bs.take (k + 1)) = fnvStep (fnv (bs.take k)) x := by
  unfold fnv
  rw [take_snoc bs k x h, List.foldl_append, List.foldl_cons, List.foldl_nil]
theorem fnvStep_walk (h : Nat) (c : UInt8) (hh : h < 18446744073709551616) : IntKind.u64.wrap (bits .xor .u64 (h : Int) (c.toNat : Int) * 1099511628211) = ((fnvStep h c : Nat) : Int) := by
  rw [xor_u64 h c.toNat hh (by have := c.toNat_lt; omega)]
  exact wrap_u64_nat ((h ^^^ c.toNat) * 1099511628211)
theorem wrap_u64_byte (c : UInt8) : IntKind.u64.wrap (c.toNat : Int) = (c.toNat : Int) := by
  rw [wrap_u64_nat, Nat.mod_eq_of_lt (by have := c.toNat_lt; omega)]

end Go.Proofs.YtbjemjopcoajcaaGreatDoor

/-! octet.Seal: a record's bytes. -/
namespace Go.Proofs.YtbjemjopcoajcaaGreatDoor
open Go.RowKit
set_option linter.unusedSimpArgs false
set_option linter.unusedVariables false

/-- the byte number i, from the lowest on -/
def byteAt (h i : Nat) : UInt8 := UInt8.ofNat (h / 256 ^ i % 256)
/-- the first j of the eight bytes of h, the highest first -/
def beTake (h : Nat) : Nat → List UInt8
  | 0 => []
  | j + 1 => beTake h j ++ [byteAt h (7 - j)]
def beBytes (h : Nat) : List UInt8 := beTake h 8
theorem beTake_len (h j : Nat) : (beTake h j).length = j := by
  induction j with
  | zero => rfl
  | succ j ih => simp [beTake, ih]
theorem byte_walk (h i : Nat) : (h : Int) / 2 ^ (8 * i) % 256 = ((byteAt h i).toNat : Int) := by
  unfold byteAt
  rw [UInt8.toNat_ofNat', Nat.mod_mod_of_dvd _ (by decide), show (256 : Nat) ^ i = 2 ^ (8 * i) from by rw [Nat.pow_mul]]
  rw [Int.natCast_emod, Int.natCast_ediv, Int.natCast_pow]
  rfl
def headB (kind : Nat) (body : List UInt8) : List UInt8 := [UInt8.ofNat kind] ++ countB body.length ++ body
def sealB (kind : Nat) (body : List UInt8) : List UInt8 := headB kind body ++ beBytes (fnv (headB kind body))

def SealRel (w : World) (hd : List UInt8) (i : Int) (v : Value) (wr : World) : Prop :=
  ∃ j : Nat, j ≤ 8 ∧ i = 7 - (j : Int) ∧ Own wr 5 u8v v (hd ++ beTake (fnv hd) j) ∧ Below w.heap.size w wr ∧ ∀ k, v.ownBlock = some k → w.heap.size ≤ k

end Go.Proofs.YtbjemjopcoajcaaGreatDoor

/-! How the arguments of a statement are read: slices of bytes. -/
namespace Go.Proofs.YtbjemjopcoajcaaGreatDoor
open Go.RowKit
set_option linter.unusedSimpArgs false
set_option linter.unusedVariables false

/-- a slice of integers that came in: nil, or a row of 'cap' cells, the numbers zs, each fitting its kind -/
def IsRow (k : IntKind) (w : World) (a : Option Addr) (len cap : Nat) (zs : List Int) : Prop :=
  (a = none ∧ len = 0 ∧ cap = 0 ∧ zs = []) ∨
  ∃ x, a = some x ∧ len ≤ cap ∧ cap ≤ maxLen ∧ zs.length = cap ∧ (∀ i, i < zs.length → w.cell? (x.add i) = some (.int k (zs.getD i 0))) ∧ ∀ n ∈ zs, (Lit.int k n).wf = true

theorem cell_lt {w : World} {p : Addr} {v : Value} (h : w.cell? p = some v) : p.block < w.heap.size := by
  rcases Nat.lt_or_ge p.block w.heap.size with h1 | h1
  · exact h1
  · unfold World.cell? at h
    rw [Array.getElem?_eq_none h1] at h
    simp at h

/-- the bytes of a slice that came in -/
theorem IsRow.bytes {w : World} {a : Option Addr} {len cap : Nat} {zs : List Int} (h : IsRow .u8 w a len cap zs) : ∃ bs : List UInt8, Bytes w w.heap.size a len bs ∧ len ≤ cap ∧ cap ≤ 9223372036854775807 := by
  rcases h with ⟨rfl, rfl, rfl, rfl⟩ | ⟨x, rfl, hl, hm, hz, hc, hw⟩
  · exact ⟨[], Reads.none_, by omega, by omega⟩
  · refine ⟨(zs.take len).map (fun z => UInt8.ofNat z.toNat), ⟨by simp [hz]; omega, fun hn => ⟨x, rfl, ?_, fun j u hu => ?_⟩⟩, hl, by unfold maxLen at hm; omega⟩
    · have := cell_lt (hc 0 (by omega))
      rw [block_of_add] at this
      exact this
    · have hj : j < len := by
        have := (List.getElem?_eq_some_iff.1 hu).1
        simp at this
        omega
      rw [hc j (by omega)]
      have hzj : zs.getD j 0 ∈ zs := by
        rw [List.getD_eq_getElem?_getD, List.getElem?_eq_getElem (by omega)]
        exact List.getElem_mem _
      obtain ⟨h0, h1⟩ := bounds_u8 (hw _ hzj)
      rw [List.getElem?_map, List.getElem?_map, List.getElem?_take, if_pos hj, List.getElem?_eq_getElem (by omega)] at hu
      simp only [Option.map_some, Option.some.injEq] at hu
      rw [← hu]
      rw [List.getD_eq_getElem?_getD, List.getElem?_eq_getElem (by omega)] at h0 h1 ⊢
      simp only [Option.getD_some] at h0 h1 ⊢
      unfold u8v
      rw [UInt8.toNat_ofNat', Nat.mod_eq_of_lt (by omega)]
      congr 2
      omega
theorem Own.addr {α : Type} {w : World} {e : TypeId} {f : α → Value} {l : List α} {A : Option Addr} {n c : Nat} (h : Own w e f (.slice A n c) l) (hn : 0 < l.length) : ∃ g, A = some ⟨g, 0, none⟩ := by
  rcases h.2 with ⟨h1, h2⟩ | ⟨g, cap, cur, h1, _⟩
  · omega
  · injection h1 with h1 _ _
    exact ⟨g, h1⟩
theorem Own.store {α : Type} {w : World} {e : TypeId} {f : α → Value} {l : List α} {g c : Nat} (h : Own w e f (.slice (some ⟨g, 0, none⟩) l.length c) l) (k : Nat) (y : α) :
    Own (w.setCell ⟨g, k, none⟩ (f y)) e f (.slice (some ⟨g, 0, none⟩) l.length c) (l.set k y) := by
  have := (World.ownsRow.stored h k (f y)).1
  unfold Own
  rw [List.length_set, List.map_set]
  exact this
theorem Own.cellf {α : Type} {w : World} {e : TypeId} {f : α → Value} {l : List α} {g c : Nat} (h : Own w e f (.slice (some ⟨g, 0, none⟩) l.length c) l) {k : Nat} {x : α} (hx : l[k]? = some x) :
    w.cell? ⟨g, k, none⟩ = some (f x) := by
  have hk : k < l.length := (List.getElem?_eq_some_iff.1 hx).1
  rw [World.ownsRow.cellAt h k (by omega), List.getElem?_map, hx]
  rfl
theorem Own.frozenf {α : Type} {w : World} {e : TypeId} {f : α → Value} {l : List α} {g c : Nat} (h : Own w e f (.slice (some ⟨g, 0, none⟩) l.length c) l) (k : Nat) : w.frozen? ⟨g, k, none⟩ = false := World.ownsRow.frozenAt h k
end Go.Proofs.YtbjemjopcoajcaaGreatDoor

/-! octet.readCount. -/
namespace Go.Proofs.YtbjemjopcoajcaaGreatDoor
open Go.RowKit
set_option linter.unusedSimpArgs false
set_option linter.unusedVariables false

/-- how many bytes at the beginning have their highest bit set -/
def lead : List UInt8 → Nat
  | [] => 0
  | b :: r => if 128 ≤ b.toNat then lead r + 1 else 0
/-- the number of the groups of seven bits, the lowest first -/
def valB : List UInt8 → Nat
  | [] => 0
  | b :: r => b.toNat % 128 + 128 * valB r
theorem lead_le (bs : List UInt8) : lead bs ≤ bs.length := by
  induction bs with
  | nil => simp [lead]
  | cons b r ih => simp only [lead]; split <;> simp <;> omega
theorem lead_hi (bs : List UInt8) : ∀ (k : Nat) (x : UInt8), k < lead bs → bs[k]? = some x → 128 ≤ x.toNat := by
  induction bs with
  | nil => intro k x h; simp [lead] at h
  | cons b r ih =>
    intro k x h hx
    simp only [lead] at h
    split at h
    · cases k with
      | zero => simp at hx; subst hx; assumption
      | succ k => exact ih k x (by omega) (by simpa using hx)
    · omega
theorem lead_lo (bs : List UInt8) : ∀ (x : UInt8), bs[lead bs]? = some x → x.toNat < 128 := by
  induction bs with
  | nil => intro x h; simp [lead] at h
  | cons b r ih =>
    intro x hx
    simp only [lead] at hx
    split at hx
    · exact ih x (by simpa using hx)
    · simp at hx; subst hx; omega
theorem valB_lt (bs : List UInt8) : valB bs < 128 ^ bs.length := by
  induction bs with
  | nil => simp [valB]
  | cons b r ih =>
    simp only [valB, List.length_cons, Nat.pow_succ]
    have : b.toNat % 128 < 128 := Nat.mod_lt _ (by omega)
    omega
theorem valB_drop (bs : List UInt8) (k : Nat) (x : UInt8) (h : bs[k]? = some x) : valB (bs.drop k) = x.toNat % 128 + 128 * valB (bs.drop (k + 1)) := by
  have hk : k < bs.length := (List.getElem?_eq_some_iff.1 h).1
  have hx : bs[k] = x := (List.getElem?_eq_some_iff.1 h).2
  rw [List.drop_eq_getElem_cons hk, hx]
  rfl

/-- readCount: the number, its size, the error -/
def readC (bs : List UInt8) : Nat × Nat × Nat :=
  let s := lead bs
  if s = bs.length then (0, 0, 3)
  else if 0 < s ∧ bs[s]? = some 0 then (0, 0, 2)
  else if 9 < s + 1 then (0, 0, 4)
  else if 4611686018427387904 < valB (bs.take (s + 1)) then (0, 0, 4)
  else (valB (bs.take (s + 1)), s + 1, 0)

theorem or_i64 (a b : Nat) (hb : b < 128) (ha : a < 72057594037927936) : bits .or .i64 ((a : Int) * 128) (b : Int) = ((a * 128 + b : Nat) : Int) := by
  have hx : bits .or .i64 ((a : Int) * 128) (b : Int) = (a : Int) * 128 + (b : Int) :=
    bits_join .i64 63 (by decide) (fun n h0 h1 => IntWalk.i64_in n (by omega)) 7 _ _ (by omega) (by omega) (by omega) (by omega) (by omega) (by omega)
  rw [hx]
  omega
theorem and_u8_127 (x : UInt8) : bits .and .u8 (x.toNat : Int) 127 = ((x.toNat % 128 : Nat) : Int) := by
  have h := x.toNat_lt
  have e := and_u8 x.toNat 127 (by omega) (by omega)
  rw [show ((127 : Nat) : Int) = 127 from rfl] at e
  rw [e, show (127 : Nat) = 2 ^ 7 - 1 from rfl, Nat.and_two_pow_sub_one_eq_mod]

end Go.Proofs.YtbjemjopcoajcaaGreatDoor

/-! octet.Next. -/
namespace Go.Proofs.YtbjemjopcoajcaaGreatDoor
open Go.RowKit
set_option linter.unusedSimpArgs false
set_option linter.unusedVariables false

def beVal (l : List UInt8) : Nat := l.foldl (fun a b => a * 256 + b.toNat) 0
/-- Next: the kind, the body, the size, the error -/
def nextR : List UInt8 → Nat × List UInt8 × Nat × Nat
  | [] => (0, [], 0, 3)
  | b :: r =>
    if b = 0 then (0, [], 0, 2)
    else if (readC r).2.2 ≠ 0 then (0, [], 0, (readC r).2.2)
    else if 4194304 < (readC r).1 then (0, [], 0, 4)
    else if r.length < (readC r).2.1 + (readC r).1 + 8 then (0, [], 0, 3)
    else if beVal ((r.drop ((readC r).2.1 + (readC r).1)).take 8) ≠ fnv (b :: r.take ((readC r).2.1 + (readC r).1)) then (0, [], 0, 13)
    else (b.toNat, (r.drop (readC r).2.1).take (readC r).1, 1 + (readC r).2.1 + (readC r).1 + 8, 0)

theorem readC_bounds (bs : List UInt8) : (readC bs).1 ≤ 4611686018427387904 ∧ (readC bs).2.1 ≤ bs.length ∧ (readC bs).2.1 ≤ 9 ∧ (readC bs).2.2 ≤ 4 := by
  have := lead_le bs
  unfold readC
  simp only []
  split
  · simp
  · split
    · simp
    · split
      · simp
      · split
        · simp
        · simp; omega

theorem nextR_cons (b : UInt8) (r : List UInt8) (hb0 : ¬ b = 0) : nextR (b :: r) = if (readC r).2.2 ≠ 0 then (0, [], 0, (readC r).2.2)
    else if 4194304 < (readC r).1 then (0, [], 0, 4)
    else if r.length < (readC r).2.1 + (readC r).1 + 8 then (0, [], 0, 3)
    else if beVal ((r.drop ((readC r).2.1 + (readC r).1)).take 8) ≠ fnv (b :: r.take ((readC r).2.1 + (readC r).1)) then (0, [], 0, 13)
    else (b.toNat, (r.drop (readC r).2.1).take (readC r).1, 1 + (readC r).2.1 + (readC r).1 + 8, 0) := by
  simp only [nextR]
  rw [if_neg hb0]
theorem NewB.nil_ (w : World) : NewB w w (.slice none 0 0) [] := ⟨Own.nil_ _ _ _, Below.refl _ _, fun k hk => by simp [Value.ownBlock] at hk⟩

theorem below_of_drew {w w' : World} (h : Below w.drew.heap.size w.drew w') : Below w.heap.size w w' := ⟨h.os, h.tape, h.output, h.size, h.block⟩
theorem beVal_take (l : List UInt8) (k : Nat) (x : UInt8) (h : l[k]? = some x) : beVal (l.take (k + 1)) = beVal (l.take k) * 256 + x.toNat := by
  unfold beVal
  rw [take_snoc l k x h, List.foldl_append, List.foldl_cons, List.foldl_nil]
theorem beVal_lt (l : List UInt8) : beVal l < 256 ^ l.length := by
  have : ∀ (l : List UInt8) (a : Nat), l.foldl (fun a b => a * 256 + b.toNat) a < (a + 1) * 256 ^ l.length := by
    intro l
    induction l with
    | nil => intro a; simp
    | cons b r ih =>
      intro a
      have h1 := ih (a * 256 + b.toNat)
      have h2 := b.toNat_lt
      rw [List.foldl_cons, List.length_cons, Nat.pow_succ]
      refine Nat.lt_of_lt_of_le h1 ?_
      rw [Nat.mul_comm (256 ^ r.length) 256, ← Nat.mul_assoc]
      exact Nat.mul_le_mul_right _ (by omega)
  have h := this l 0
  unfold beVal
  simpa using h
theorem or_u64_byte (s : Nat) (x : UInt8) (hs : s < 72057594037927936) : bits .or .u64 ((s : Int) * 256) (x.toNat : Int) = ((s * 256 + x.toNat : Nat) : Int) := by
  have hx := x.toNat_lt
  have := or_u64 (s * 256) x.toNat (by omega) (by omega)
  rw [show ((s * 256 : Nat) : Int) = (s : Int) * 256 from by omega] at this
  rw [this, show s * 256 = 2 ^ 8 * s from by omega, Nat.two_pow_add_eq_or_of_lt (by omega)]

end Go.Proofs.YtbjemjopcoajcaaGreatDoor
