import Derived.Test.YtecnjlcfoobepaaGreatDoorLinkBuildP
import Derived.Test.YtecnjlcfoobepaaGreatDoorHandPick
namespace Go.Proofs.YtecnjlcfoobepaaGreatDoor
open Go.RowKit
set_option linter.unusedSimpArgs false
set_option linter.unusedVariables false
theorem pick_of (z : Int) (m : Nat) (w : World) (b0 : -9223372036854775808 ≤ z) (b1 : z ≤ 9223372036854775807) (hm : 1 ≤ m) (hm2 : m ≤ 4611686018427387904) :
  ∃ n : Nat, n < m ∧ ∀ w, Calls Tryz.prog 14 #[.int .i64 z, .int .i64 (m : Int)] w fun e w' => e = .returned (.int .i64 (n : Int)) ∧ w = w' := by
 have h0 : 0 ≤ z % (m : Int) := Int.emod_nonneg _ (by omega)
 have h1 : z % (m : Int) < (m : Int) := Int.emod_lt_of_pos _ (by omega)
 obtain ⟨n, hn⟩ := Int.eq_ofNat_of_zero_le h0
 refine ⟨n, by omega, fun w => ?_⟩
 have := hand_pick z m w b0 b1 hm hm2
 rw [hn] at this
 exact this
theorem OwnRR.readsRR {w : World} {A : Option Addr} {n c : Nat} {f : List (List Rat)} (h : OwnRR w (.slice A n c) f) : ReadsRR w w.heap.size A n f := OwnS.readS (fun h => OwnR.reads_ h) h
structure ArgZ (w : World) (A : Option Addr) (n c : Nat) (zl : List Int) : Prop where
 rd : ReadsZ w w.heap.size A n zl
 cap : n ≤ c
 most : c ≤ 9223372036854775807
def I64 (z : Int) : Prop := -9223372036854775808 ≤ z ∧ z ≤ 9223372036854775807
end Go.Proofs.YtecnjlcfoobepaaGreatDoor
namespace Go.Proofs.YtecnjlcfoobepaaGreatDoor
open Go.RowKit
set_option linter.unusedSimpArgs false
set_option linter.unusedVariables false
def zi (z : Int) : Value := .int .i64 z
structure FS (w : World) (m2 gg g8 gj : Nat) (vs : Value) (sz : List Int) (go : List Bool) (la : Rat) (tj : TypeId) (ja : Array Value) (wr : World) : Prop where
 size : Own wr 3 zi vs sz
 fresh : ∀ b, vs.ownBlock = some b → w.heap.size ≤ b
 gone : Own wr 4 Value.bool (.slice (some ⟨gg, 0, none⟩) m2 m2) go
 last : Blk wr g8 56 #[.bool (decide (la.num < 0)), .int .u64 (lo la.num.natAbs : Int), .string (mo la.num.natAbs), .int .u64 (lo ((qden la)) : Int), .string (mo ((qden la)))]
 bj : Blk wr gj tj ja
 hg : w.heap.size ≤ gg
 h8 : w.heap.size ≤ g8
 below : Below w.heap.size w wr
section
variable {w wr w1 : World} {m2 gg g8 gj : Nat} {vs vs' : Value} {sz : List Int} {go : List Bool} {la : Rat} {tj : TypeId} {ja : Array Value}
theorem FS.next (h : FS w m2 gg g8 gj vs sz go la tj ja wr) (hb : Below wr.heap.size wr w1) : FS w m2 gg g8 gj vs sz go la tj ja w1 :=
 ⟨h.size.below hb h.size.lt, h.fresh, h.gone.below hb h.gone.lt, h.last.below hb h.last.lt, h.bj.below hb h.bj.lt, h.hg, h.h8, h.below.trans (hb.mono h.below.size)⟩
theorem FS.setGone (h : FS w m2 gg g8 gj vs sz go la tj ja wr) (ht : tj ≠ 4) (i : Nat) (x : Bool) : FS w m2 gg g8 gj vs sz (go.set i x) la tj ja (wr.setCell ⟨gg, i, none⟩ (.bool x)) := by
 obtain ⟨cs, fr, hb⟩ := Own.blk h.gone (g := gg) rfl
 have t1 : TExc [4] 0 wr (wr.setCell ⟨gg, i, none⟩ (.bool x)) := TExc.exc ((Exc.refl gg wr).set_ i (.bool x)) (Nat.zero_le _) hb (by simp)
 exact ⟨h.size.texc t1 (by decide), h.fresh, h.gone.putc i x, h.last.texc t1 (by decide), h.bj.texc t1 (by simpa using ht), h.hg, h.h8, h.below.setCell h.hg _⟩
theorem FS.add {s : Int} (h : FS w m2 gg g8 gj vs sz go la tj ja wr) (ht : tj ≠ 3) (hgr : Grew wr w1 vs vs') (ho : Own w1 3 zi vs' (sz ++ [s])) : FS w m2 gg g8 gj vs' (sz ++ [s]) go la tj ja w1 := by
 have t1 : TExc [3] w.heap.size wr w1 := TExc.grew1 hgr h.size (by simp) h.fresh
 exact ⟨ho, grewL hgr h.fresh h.below.size, h.gone.texc t1 (by decide), h.last.texc t1 (by decide), h.bj.texc t1 (by simpa using ht), h.hg, h.h8, h.below.trans (t1.below h.below.size)⟩
end
structure FInv (n : Nat) (J : Nat → Jn) (k : Nat) (sz : List Int) (go : List Bool) : Prop where
 lens : sz.length = n + k
 leng : go.length = 2 * n
 val : ∀ i, i < n + k → go.getD i true = false → sz.getD i 0 = szAt n J k i
 off : ∀ i, i < n + k → szAt n J k i ≠ 0 → go.getD i true = false
 later : ∀ i, n + k ≤ i → i < 2 * n → go.getD i true = false
 small : ∀ z ∈ sz, -1000 ≤ z ∧ z ≤ 1000
 pos : ∀ i, i < n + k → go.getD i true = false → 0 < szAt n J k i
theorem getD_set {α : Type} {l : List α} {i j : Nat} {x d : α} : (l.set i x).getD j d = if i = j ∧ j < l.length then x else l.getD j d := by
 rw [List.getD_eq_getElem?_getD, List.getD_eq_getElem?_getD, List.getElem?_set]
 by_cases h : i = j
 ·subst h
  by_cases h2 : i < l.length
  ·simp [h2]
  ·simp [h2]
 ·simp [h]
theorem FInv.step {n : Nat} {J : Nat → Jn} {k A B : Nat} {S : Int} {q : Rat} {sz : List Int} {go : List Bool} (h : FInv n J k sz go) (hj : J k = ⟨A, B, S, q⟩) (hAB : A < B) (hB : B < n + k) (hk : n + k < 2 * n) (hS : 0 < S ∧ S ≤ 1000) :
  FInv n J (k + 1) (sz ++ [S]) ((go.set A true).set B true) := by
 have hsz : ∀ i, szAt n J (k + 1) i = if i = n + k then S else if i = A ∨ i = B then 0 else szAt n J k i := fun i => by
  show (if i = n + k then (J k).size else if (i : Int) = (J k).a ∨ (i : Int) = (J k).b then 0 else szAt n J k i) = _
  rw [hj]
  simp only [Int.natCast_inj]
 have hgo : ∀ i, ((go.set A true).set B true).getD i true = false ↔ i ≠ A ∧ i ≠ B ∧ go.getD i true = false := fun i => by
  rw [getD_set, getD_set]
  have hl := h.leng
  by_cases h1 : B = i
  ·subst h1
   simp [hl]
   omega
  ·by_cases h2 : A = i
   ·subst h2
    simp [h1, hl]
    omega
   ·have h3 : ¬ i = A := fun e => h2 e.symm
    have h4 : ¬ i = B := fun e => h1 e.symm
    simp [h1, h2, h3, h4]
 refine ⟨by simp [h.lens]; omega, by simp [h.leng], fun i hi hg => ?_, fun i hi hne => ?_, fun i hi hi2 => ?_, fun z hz => ?_, fun i hi hg => ?_⟩
 ·obtain ⟨h1, h2, h3⟩ := (hgo i).1 hg
  rw [hsz]
  by_cases he : i = n + k
  ·rw [if_pos he, getD_append_last (by rw [h.lens]; exact he)]
  ·rw [if_neg he, if_neg (by omega), getD_append_lt (by rw [h.lens]; omega)]
   exact h.val i (by omega) h3
 ·rw [hsz] at hne
  refine (hgo i).2 ?_
  by_cases he : i = n + k
  ·exact ⟨by omega, by omega, h.later i (by omega) (by omega)⟩
  ·rw [if_neg he] at hne
   by_cases hab : i = A ∨ i = B
   ·rw [if_pos hab] at hne
    exact absurd rfl hne
   ·rw [if_neg hab] at hne
    exact ⟨by omega, by omega, h.off i (by omega) hne⟩
 ·exact (hgo i).2 ⟨by omega, by omega, h.later i (by omega) hi2⟩
 ·rcases List.mem_append.1 hz with hz | hz
  ·exact h.small z hz
  ·obtain rfl := List.mem_singleton.1 hz
   omega
 ·obtain ⟨h1, h2, h3⟩ := (hgo i).1 hg
  rw [hsz]
  by_cases he : i = n + k
  ·rw [if_pos he]
   exact hS.1
  ·rw [if_neg he, if_neg (by omega)]
   exact h.pos i (by omega) h3
theorem FInv.fine {n : Nat} {J : Nat → Jn} {k A B : Nat} {S : Int} {q : Rat} {sz : List Int} {go : List Bool} (h : FInv n J k sz go) (hj : J k = ⟨A, B, S, q⟩) (hAB : A < B) (hB : B < n + k) (ga : go.getD A true = false) (gb : go.getD B true = false)
  (hS : S = sz.getD A 0 + sz.getD B 0) (hq : lastH J k ≤ q) : FineAt n J k := by
 have ha := h.pos A (by omega) ga
 have hb := h.pos B hB gb
 have e1 := h.val A (by omega) ga
 have e2 := h.val B hB gb
 have t1 : ((A : Nat) : Int).toNat = A := Int.toNat_natCast A
 have t2 : ((B : Nat) : Int).toNat = B := Int.toNat_natCast B
 refine ⟨?_, ?_, ?_, ?_, ?_, ?_, ?_⟩ <;> rw [hj]
 ·show (0 : Int) ≤ (A : Int)
  omega
 ·show (A : Int) < (B : Int)
  omega
 ·show (B : Int) < _
  omega
 ·show szAt n J k ((A : Nat) : Int).toNat ≠ 0
  rw [t1]
  omega
 ·show szAt n J k ((B : Nat) : Int).toNat ≠ 0
  rw [t2]
  omega
 ·show S = szAt n J k ((A : Nat) : Int).toNat + szAt n J k ((B : Nat) : Int).toNat
  rw [t1, t2, hS, e1, e2]
 ·exact hq
theorem FInv.not {n : Nat} {J : Nat → Jn} {k A B : Nat} {S : Int} {q : Rat} {sz : List Int} {go : List Bool} (h : FInv n J k sz go) (hj : J k = ⟨A, B, S, q⟩) (hf : FineAt n J k) : A < B ∧ B < n + k ∧ go.getD A true = false ∧ go.getD B true = false ∧ S = sz.getD A 0 + sz.getD B 0 ∧ lastH J k ≤ q := by
 obtain ⟨h1, h2, h3, h4, h5, h6, h7⟩ := hf
 rw [hj] at h1 h2 h3 h4 h5 h6 h7
 have h2 : (A : Int) < (B : Int) := h2
 have h3 : (B : Int) < ((n + k : Nat) : Int) := h3
 have h4 : szAt n J k ((A : Nat) : Int).toNat ≠ 0 := h4
 have h5 : szAt n J k ((B : Nat) : Int).toNat ≠ 0 := h5
 have h6 : S = szAt n J k ((A : Nat) : Int).toNat + szAt n J k ((B : Nat) : Int).toNat := h6
 rw [Int.toNat_natCast] at h4 h5
 rw [Int.toNat_natCast, Int.toNat_natCast] at h6
 have ga := h.off A (by omega) h4
 have gb := h.off B (by omega) h5
 refine ⟨by omega, by omega, ga, gb, ?_, h7⟩
 rw [h.val A (by omega) ga, h.val B (by omega) gb]
 exact h6
structure JB (m : Nat) (j : Jn) : Prop where
 size : -1000 ≤ j.size ∧ j.size ≤ 1000
 high : QS m j.high
section
variable {α : Type} {n i : Nat} {r : Nat → α} {z : α}
end
end Go.Proofs.YtecnjlcfoobepaaGreatDoor
