/-
  Lists of steps of chapter 4: the bytes that they lay; one step's cells.
-/
import Derived.Test.YtjmbpnogicdkgaaGreatDoorLay
import Derived.Test.YtjmbpnogicdkgaaGreatDoorStepIn
namespace Go.Proofs.YtjmbpnogicdkgaaGreatDoor
open Go.RowKit
set_option linter.unusedSimpArgs false
set_option linter.unusedVariables false

def stepL (x : StepD) : List UInt8 := stepB (x.what % 5).toNat x.n x.al x.bl x.neg x.s
/-- the bytes of all the steps -/
def allB (l : List StepD) : List UInt8 := l.flatMap stepL
theorem allB_take (l : List StepD) (k : Nat) (x : StepD) (h : l[k]? = some x) : allB (l.take (k + 1)) = allB (l.take k) ++ stepL x := by
  unfold allB
  rw [List.take_add_one, h, List.flatMap_append]
  simp
theorem allB_len (l : List StepD) : (allB l).length ≤ 210 * l.length := by
  induction l with
  | nil => simp [allB]
  | cons x l ih =>
    have := stepB_len (x.what % 5).toNat x.n x.al x.bl x.neg x.s
    have e : allB (x :: l) = stepL x ++ allB l := rfl
    rw [e, List.length_append, List.length_cons]
    unfold stepL
    omega
theorem cell_spot {w : World} {a : Addr} {v : Value} (h : w.cell? a = some v) : a.spot = none := by
  unfold World.cell? at h
  split at h
  · split at h
    · cases h
    · rename_i h1
      simpa using h1
  · cases h
theorem ReadsS.cells {w : World} {B : Nat} {A : Option Addr} {n : Nat} {l : List StepD} (h : ReadsW w B 6 stepC A n l) {k : Nat} (hk : k < n) :
    ∃ ad g o x, A = some ad ∧ ad.add (k * 6) = ⟨g, o, none⟩ ∧ g < B ∧ l[k]? = some x ∧ w.cell? ⟨g, o, none⟩ = some (.int .i64 x.what) ∧ w.cell? ⟨g, o + 1, none⟩ = some (.int .i64 x.n) ∧
      w.cell? ⟨g, o + 2, none⟩ = some (.slice x.A1 x.na x.ca) ∧ w.cell? ⟨g, o + 3, none⟩ = some (.slice x.A2 x.nb x.cb) ∧ w.cell? ⟨g, o + 4, none⟩ = some (.bool x.neg) ∧ w.cell? ⟨g, o + 5, none⟩ = some (.string x.s) := by
  obtain ⟨ad, x, h1, h2, h3, h4⟩ := h.at_ stepC_len hk
  have c0 := h4 0 _ rfl
  have e0 := cell_spot c0
  rw [Nat.add_zero] at c0 e0
  have hb := block_of_add ad (k * 6)
  have hc : ∀ j u, (stepC x)[j + 1]? = some u → w.cell? ((ad.add (k * 6)).add (j + 1)) = some u := fun j u hu => by rw [add_of_add]; exact h4 (j + 1) u hu
  cases hP : ad.add (k * 6) with
  | mk g o sp =>
    rw [hP] at c0 e0 hb hc
    obtain rfl : sp = none := e0
    exact ⟨ad, g, o, x, h1, hP, by have : g = ad.block := hb; omega, h3, c0, hc 0 _ rfl, hc 1 _ rfl, hc 2 _ rfl, hc 3 _ rfl, hc 4 _ rfl⟩
/-- so many steps are laid -/
def LaysRel (W : World) (B b : Nat) (l : List StepD) (k : Nat) (u : Value) (wr : World) : Prop := ∃ v, Pair wr B b v u (allB (l.take k)) (allB (l.take k)) ∧ Below B W wr
theorem Pair.start {w w' : World} {B b : Nat} (h : IsW w b (.slice none 0 0) []) (hB : B ≤ w.heap.size) (hb : B ≤ b) : Pair w B b (.slice none 0 0) (.slice none 0 0) [] [] :=
  ⟨h, Own.nil_ _ _ _, hB, hb, (fun k hk => by cases hk), (fun k hk => by cases hk), (fun e => by cases e), (fun k hk => by cases hk)⟩
/-- a row of bytes does not lie in a Writer's block -/
theorem Own.notW {w : World} {v x : Value} {l : List UInt8} {g : Nat} (h : Own w 5 u8v v l) (hb : Blk w g 99 #[x]) : v.ownBlock ≠ some g := by
  rcases h.2 with ⟨rfl, _⟩ | ⟨b, cap, cur, rfl, _, hh, _⟩
  · simp [Value.ownBlock]
  · intro he
    have e : b = g := by simpa [Value.ownBlock] using he
    subst e
    unfold Blk at hb
    rw [hb] at hh
    injection hh with hh
    injection hh with _ ht
    exact absurd ht (by decide)
theorem IsW.lframe {w w' : World} {a b : Nat} {v x : Value} {l : List UInt8} (h : IsW w a v l) (hf : LFrame w w' b (.slice none 0 0) (.slice none 0 0)) (hne : a ≠ b) (hb : Blk w b 99 #[x]) : IsW w' a v l := by
  refine ⟨(hf a h.1.lt hne (by simp [Value.ownBlock]) (by simp [Value.ownBlock])).trans h.1, h.2.1, ?_⟩
  rcases h.2.2 with h1 | ⟨g, cap, cur, h1, h2, h3, h4⟩
  · exact .inl h1
  · subst h1
    have hlt : g < w.heap.size := by
      rcases Nat.lt_or_ge g w.heap.size with hlt | hge
      · exact hlt
      · rw [Array.getElem?_eq_none hge] at h3; cases h3
    have hg : g ≠ b := fun e => h.2.notW hb (by rw [← e]; rfl)
    exact .inr ⟨g, cap, cur, rfl, h2, (hf g hlt hg (by simp [Value.ownBlock]) (by simp [Value.ownBlock])).trans h3, h4⟩
theorem Blk.lframe {w w' : World} {a b : Nat} {t : TypeId} {cs : Array Value} (h : Blk w a t cs) (hf : LFrame w w' b (.slice none 0 0) (.slice none 0 0)) (hne : a ≠ b) : Blk w' a t cs :=
  (hf a h.lt hne (by simp [Value.ownBlock]) (by simp [Value.ownBlock])).trans h
end Go.Proofs.YtjmbpnogicdkgaaGreatDoor
