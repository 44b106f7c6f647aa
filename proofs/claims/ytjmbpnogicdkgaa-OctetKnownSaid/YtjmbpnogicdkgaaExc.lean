/-
  A call that changes one block that was there and no other; slice expressions without a first index.
-/
import Derived.Test.YtjmbpnogicdkgaaOwn
import Derived.Test.YtjmbpnogicdkgaaBox
namespace Go.Proofs.Ytjmbpnogicdkgaa
open Go.RowKit
set_option linter.unusedVariables false
set_option linter.unusedSimpArgs false

/-- of the blocks that were there only block b may have changed -/
structure Exc (b : Nat) (w w' : World) : Prop where
  os : w'.os = w.os
  tape : w'.tape = w.tape
  output : w'.output = w.output
  size : w.heap.size ≤ w'.heap.size
  block : ∀ k, k < w.heap.size → k ≠ b → w'.heap[k]? = w.heap[k]?
section
variable {b : Nat} {w w' w'' : World}
theorem Exc.refl (b : Nat) (w : World) : Exc b w w := ⟨rfl, rfl, rfl, Nat.le_refl _, fun _ _ _ => rfl⟩
theorem Exc.trans (h : Exc b w w') (h' : Exc b w' w'') : Exc b w w'' :=
  ⟨h'.os.trans h.os, h'.tape.trans h.tape, h'.output.trans h.output, Nat.le_trans h.size h'.size, fun k hk hb => (h'.block k (Nat.lt_of_lt_of_le hk h.size) hb).trans (h.block k hk hb)⟩
theorem Exc.of (h : Below w.heap.size w w') : Exc b w w' := ⟨h.os, h.tape, h.output, h.size, fun k hk _ => h.block k hk⟩
theorem Exc.set_ (h : Exc b w w') (i : Nat) (u : Value) : Exc b w (w'.setCell ⟨b, i, none⟩ u) :=
  ⟨h.os, h.tape, h.output, by rw [World.size_setCell]; exact h.size, fun k hk hb => (Below.heap_setCell w' _ _ k hb).trans (h.block k hk hb)⟩
theorem Exc.alloc (h : Exc b w w') (o : Obj) : Exc b w (w'.alloc o) :=
  ⟨h.os, h.tape, h.output, Nat.le_trans h.size (by simp), fun k hk hb => (Below.heap_alloc w' o k (Nat.lt_of_lt_of_le hk h.size)).trans (h.block k hk hb)⟩
theorem Exc.drew (h : Exc b w w') : Exc b w w'.drew := ⟨h.os, h.tape, h.output, h.size, h.block⟩
theorem Exc.below {B : Nat} (h : Exc b w w') (hB : B ≤ w.heap.size) (hb : B ≤ b) : Below B w w' :=
  ⟨h.os, h.tape, h.output, h.size, fun k hk => h.block k (by omega) (by omega)⟩
theorem Reads.exc {B size n : Nat} {A : Option Addr} {xs : List Value} (h : Reads w B size A n xs) (he : Exc b w w') (hB : B ≤ w.heap.size) (hA : ∀ ad, A = some ad → ad.block ≠ b) : Reads w' B size A n xs :=
  ⟨h.1, fun hn => by
    obtain ⟨ad, e, hb, hc⟩ := h.2 hn
    refine ⟨ad, e, hb, fun j u hu => ?_⟩
    rw [World.cell?_of_block (he.block (ad.add j).block (by rw [block_of_add]; omega) (by rw [block_of_add]; exact hA ad e))]
    exact hc j u hu⟩
theorem Blk.exc {g : Nat} {t : TypeId} {cs : Array Value} (h : Blk w g t cs) (he : Exc b w w') (hg : g ≠ b) : Blk w' g t cs := (he.block g h.lt hg).trans h
theorem Own.exc {α : Type} {e : TypeId} {f : α → Value} {v : Value} {l : List α} (h : Own w e f v l) (he : Exc b w w') (hv : v.ownBlock ≠ some b) : Own w' e f v l := by
  refine ⟨h.1, ?_⟩
  rcases h.2 with h1 | ⟨g, cap, cur, h1, h2, h3, h4⟩
  · exact .inl h1
  · subst h1
    have hlt : g < w.heap.size := by
      rcases Nat.lt_or_ge g w.heap.size with hlt | hge
      · exact hlt
      · rw [Array.getElem?_eq_none hge] at h3; cases h3
    exact .inr ⟨g, cap, cur, rfl, h2, (he.block g hlt (fun e => hv (by rw [← e]; rfl))).trans h3, h4⟩
end

section
variable {P : Program} {t e : TypeId}
/-- 'x[:h]' -/
theorem run_front {z : Value} {size bytes : Nat} (ht : P.underlying t = some (.slice e)) (hi : (P.info? e).map (fun i => (i.zero, i.size, i.bytes)) = some (some z, size, bytes)) (A : Option Addr) (n c : Nat) (k : IntKind) (h : Int) (h0 : 0 ≤ h) (h1 : h ≤ c) (w : World) :
    (Instr.slice t (.slice A n c) none (some (.int k h)) none).run P w = .ok (.slice A h.toNat c) w := by
  obtain ⟨i0, hi0, hz0, hz1, hz2⟩ := info_parts hi
  cases A with
  | none => simp [Instr.slice, run_underlying ht, Instr.sliceBounds, Instr.sliceBound, asIntOf, sizeOf, typeInfo, hi0, h0, h1, hz1, Result.andThen]
  | some a =>
    simp [Instr.slice, run_underlying ht, Instr.sliceBounds, Instr.sliceBound, asIntOf, sizeOf, typeInfo, hi0, h0, h1, hz1, Result.andThen, Addr.add]
/-- 'x[:h:m]' -/
theorem run_front3 {z : Value} {size bytes : Nat} (ht : P.underlying t = some (.slice e)) (hi : (P.info? e).map (fun i => (i.zero, i.size, i.bytes)) = some (some z, size, bytes)) (A : Option Addr) (n c : Nat) (k k' : IntKind) (h m : Int) (h0 : 0 ≤ h) (h1 : h ≤ m) (h2 : m ≤ c) (w : World) :
    (Instr.slice t (.slice A n c) none (some (.int k h)) (some (.int k' m))).run P w = .ok (.slice A h.toNat m.toNat) w := by
  obtain ⟨i0, hi0, hz0, hz1, hz2⟩ := info_parts hi
  have h3 : 0 ≤ m := by omega
  have h4 : max m 0 = m := by omega
  cases A with
  | none => simp [Instr.slice, run_underlying ht, Instr.sliceBounds, Instr.sliceBound, asIntOf, sizeOf, typeInfo, hi0, h0, h1, h2, h3, h4, hz1, Result.andThen]
  | some a =>
    simp [Instr.slice, run_underlying ht, Instr.sliceBounds, Instr.sliceBound, asIntOf, sizeOf, typeInfo, hi0, h0, h1, h2, h3, h4, hz1, Result.andThen, Addr.add]
end
theorem cutA_ne {A : Option Addr} {m l size b : Nat} (h : ∀ ad, A = some ad → ad.block ≠ b) : ∀ ad, cutA A m l size = some ad → ad.block ≠ b := by
  intro ad he
  unfold cutA at he
  split at he
  · exact h ad he
  · cases A with
    | none => cases he
    | some a =>
      simp at he
      subst he
      rw [block_of_add]
      exact h a rfl
end Go.Proofs.Ytjmbpnogicdkgaa
