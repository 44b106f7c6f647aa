import Derived.Test.YtcoloflmigcphaaGreatDoorRefRow
namespace Go.Proofs.YtcoloflmigcphaaGreatDoor
open Go.RowKit
set_option linter.all false
structure SW where
 A : Option Addr
 n : Nat
 c : Nat
def SW.v (r : SW) : Value := .slice r.A r.n r.c
theorem SW.one (r : SW) : r.v.oneCell' = true := rfl
def OwnS {β : Type} (T : TypeId) (I : World -> Value -> β -> Prop) (w : World) (v : Value) (bl : List β) : Prop := ∃ rl : List SW, Own w T SW.v v rl /\ rl.length = bl.length /\ ∀ (i : Nat) (r : SW) (b : β), rl[i]? = some r -> bl[i]? = some b -> I w r.v b
section
variable {β : Type} {T : TypeId} {I : World -> Value -> β -> Prop}
theorem OwnS.nil (T : TypeId) (I : World -> Value -> β -> Prop) (w : World) : OwnS T I w (.slice none 0 0) [] := ⟨[], Own.nil_ _ _ _, rfl, fun i r o h => by simp at h⟩
end
section
variable {β : Type} {T TT : TypeId} {I : World -> Value -> β -> Prop} {ops : Array Oper} {rest : List Oper} {op : Oper} {a : Act} {Q : Exit -> Act -> World -> Prop}
end
def OwnSA {β : Type} (T : TypeId) (I : World -> Value -> β -> Prop) (L B : Nat) (w : World) (v : Value) (bl : List β) : Prop :=
 ∃ rl : List SW, Own w T SW.v v rl /\ rl.length = bl.length /\ (∀ (i : Nat) (r : SW) (b : β), rl[i]? = some r -> bl[i]? = some b -> I w r.v b) /\
  (∀ (i : Nat) (r : SW), rl[i]? = some r -> ∀ k, r.v.ownBlock = some k -> L <= k /\ k < B) /\
  ∀ (i j : Nat) (r r' : SW), i ≠ j -> rl[i]? = some r -> rl[j]? = some r' -> ∀ k, r.v.ownBlock = some k -> r'.v.ownBlock ≠ some k
section
variable {β : Type} {T : TypeId} {I : World -> Value -> β -> Prop}
theorem OwnSA.nil (T : TypeId) (I : World -> Value -> β -> Prop) (L B : Nat) (w : World) : OwnSA T I L B w (.slice none 0 0) [] := ⟨[], Own.nil_ _ _ _, rfl, fun i r o h => by simp at h, fun i r h => by simp at h, fun i j r r' _ h => by simp at h⟩
end
section
variable {β : Type} {T TT : TypeId} {I : World -> Value -> β -> Prop} {ops : Array Oper} {rest : List Oper} {op : Oper} {a : Act} {Q : Exit -> Act -> World -> Prop}
end
structure RKind {β : Type} (R : World -> Nat -> Option Addr -> Nat -> β -> Prop) : Prop where
 below : ∀ {w w' : World} {B : Nat} {A : Option Addr} {n : Nat} {b : β}, R w B A n b -> Below B w w' -> R w' B A n b
 more : ∀ {w : World} {B B' : Nat} {A : Option Addr} {n : Nat} {b : β}, R w B A n b -> B <= B' -> R w B' A n b
def ReadsS {β : Type} (R : World -> Nat -> Option Addr -> Nat -> β -> Prop) (w : World) (B : Nat) (A : Option Addr) (n : Nat) (bl : List β) : Prop :=
 ∃ rl : List SW, Reads w B 1 A n (rl.map SW.v) /\ rl.length = bl.length /\ ∀ (i : Nat) (r : SW) (b : β), rl[i]? = some r -> bl[i]? = some b -> R w B r.A r.n b
section
variable {β : Type} {R : World -> Nat -> Option Addr -> Nat -> β -> Prop} {w w' : World} {B B' n : Nat} {A : Option Addr} {bl : List β}
theorem ReadsS.len (h : ReadsS R w B A n bl) : bl.length = n := by
 obtain ⟨rl, h1, h2, h3⟩ := h
 rw [<- h2, h1.lenf]
theorem ReadsS.below (K : RKind R) (h : ReadsS R w B A n bl) (hb : Below B w w') : ReadsS R w' B A n bl := by
 obtain ⟨rl, h1, h2, h3⟩ := h
 exact ⟨rl, h1.below hb, h2, fun i r b hr j7 => K.below (h3 i r b hr j7) hb⟩
theorem ReadsS.more (K : RKind R) (h : ReadsS R w B A n bl) (hB : B <= B') : ReadsS R w B' A n bl := by
 obtain ⟨rl, h1, h2, h3⟩ := h
 exact ⟨rl, h1.more hB, h2, fun i r b hr j7 => K.more (h3 i r b hr j7) hB⟩
theorem ReadsS.at_ (h : ReadsS R w B A n bl) {k : Nat} {b : β} (hb : bl[k]? = some b) : ∃ ad A' m c, A = some ad /\ ad.block < B /\ w.cell? (ad.add k) = some (.slice A' m c) /\ R w B A' m b := by
 obtain ⟨rl, h1, h2, h3⟩ := h
 have hk : k < n := by
  have := (List.getElem?_eq_some_iff.1 hb).1
  have := h1.lenf
  omega
 obtain ⟨ad, x, e, aR, hx, hc⟩ := Reads.atf h1 hk
 exact ⟨ad, x.A, x.n, x.c, e, aR, hc, h3 k x b hx hb⟩
theorem ReadsS.nil : ReadsS R w B A 0 [] := ⟨[], Reads.none_, rfl, fun i r b h => by simp at h⟩
end
section
variable {ts : List TypeId} {B : Nat} {w w' w'' : World}
theorem Own.blk {α : Type} {e : TypeId} {f : α -> Value} {v : Value} {l : List α} (h : Own w e f v l) {g : Nat} (hg : v.ownBlock = some g) : ∃ cs fr, w.heap[g]? = some (.cells cs e fr) := by
 rcases h.2 with ⟨h3, h4⟩ | ⟨b, cap, cur, h3, h4, h5, h6⟩
 ·rw [h3] at hg; cases hg
 rw [h3] at hg
 have e1 : b = g := by simpa [Value.ownBlock] using hg
 exact ⟨_, _, by rw [<- e1]; exact h5⟩
end
section
variable {β : Type} {T : TypeId} {I : World -> Value -> β -> Prop} {L B B' : Nat} {w w' : World}
theorem getElem?_set_cases {α : Type} {l : List α} {i j : Nat} {x y : α} (h : (l.set i x)[j]? = some y) : (j = i /\ y = x) \/ (j ≠ i /\ l[j]? = some y) := by
 rw [List.getElem?_set] at h
 by_cases j8 : i = j
 ·rw [if_pos j8] at h
  split at h
  ·exact .inl ⟨j8.symm, (Option.some.inj h).symm⟩
  cases h
 rw [if_neg j8] at h
 exact .inr ⟨fun e => j8 e.symm, h⟩
theorem Jge {α : Type} {l : List α} {i : Nat} {x : α} (h : l[i]? = some x) : l.set i x = l := by
 refine List.ext_getElem? fun j => ?_
 rw [List.getElem?_set]
 by_cases j8 : i = j
 ·subst j8
  rw [if_pos rfl, h, if_pos (List.getElem?_eq_some_iff.1 h).1]
 rw [if_neg j8]
end
