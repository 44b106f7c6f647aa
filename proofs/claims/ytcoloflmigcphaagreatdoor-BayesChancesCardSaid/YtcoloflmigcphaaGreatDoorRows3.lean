import Derived.Test.YtcoloflmigcphaaGreatDoorRefRow
namespace Go.Proofs.YtcoloflmigcphaaGreatDoor
open Go.RowKit
set_option linter.all false
structure SW where
 A : Option Addr
 n : Nat
 c : Nat
def SW.v (r : SW) : Value := .slice r.A r.n r.c
theorem SW.one (r : SW) : r.v.oneCell' = true := rfl
theorem Jny {α β : Type} {w : World} {e T : TypeId} {k : Nat} {f : α -> List Value} {f' : β -> Value} {v u : Value} {l : List α} {rl : List β} (h : OwnW w e k f v l) (h' : Own w T f' u rl) (j6 : e ≠ T) : ∀ b, v.ownBlock = some b -> u.ownBlock ≠ some b := by
 intro b hb aO
 rcases h.2 with ⟨h3, h4⟩ | ⟨g, cap, cur, h3, h4, h5, h6⟩
 ·rw [h3] at hb; cases hb
 rcases h'.2 with ⟨o9, aA⟩ | ⟨g', cap', cur', o9, aA, p9, aH⟩
 ·rw [o9] at aO; cases aO
 rw [h3] at hb
 rw [o9] at aO
 simp [Value.ownBlock] at hb aO
 subst hb
 subst aO
 rw [h5] at p9
 injection p9 with h7
 injection h7 with h8 h9 h10
 exact j6 h9
structure Only1 (w w' : World) (u : Value) : Prop where
 size : w.heap.size <= w'.heap.size
 block : ∀ k, k < w.heap.size -> some k ≠ u.ownBlock -> w'.heap[k]? = w.heap[k]?
theorem Only1.of {w w' : World} {u u' : Value} (h : Grew w w' u u') : Only1 w w' u := ⟨h.size, fun k hk j6 => h.block k hk j6⟩
theorem Only1.exc {w w' : World} {g n c : Nat} (h : Exc g w w') : Only1 w w' (.slice (some ⟨g, 0, none⟩) n c) := ⟨h.size, fun k hk j6 => h.block k hk (fun e => j6 (by rw [e]; rfl))⟩
theorem OwnW.only {α β : Type} {w w' : World} {e T : TypeId} {k : Nat} {f : α -> List Value} {f' : β -> Value} {v u : Value} {l : List α} {rl : List β} (h : OwnW w e k f v l) (h' : Own w T f' u rl) (j6 : e ≠ T) (ho : Only1 w w' u) : OwnW w' e k f v l := by
 refine ⟨h.1, ?_⟩
 rcases h.2 with h3 | ⟨g, cap, cur, h3, h4, h5, h6⟩
 ·exact .inl h3
 exact .inr ⟨g, cap, cur, h3, h4, (ho.block g (h.lt g (by rw [h3]; rfl)) (fun e2 => Jny h h' j6 g (by rw [h3]; rfl) e2.symm)).trans h5, h6⟩
theorem IsN.only {β : Type} {w w' : World} {T : TypeId} {f' : β -> Value} {u v : Value} {rl : List β} {n : Nat} (h : IsN w w.heap.size v n) (h' : Own w T f' u rl) (j6 : T ≠ 163) (ho : Only1 w w' u) : IsN w' w'.heap.size v n := by
 obtain ⟨A, c, h1, h2, h3, h4, h5⟩ := h
 rcases Nat.eq_zero_or_pos (Jd n).length with h0 | h0
 ·exact ⟨A, c, h1, h2, h3, ⟨h4.1, fun hn => absurd hn (by omega)⟩, fun hn => absurd hn (by omega)⟩
 obtain ⟨ad, hA, aR, hc⟩ := h4.2 h0
 obtain ⟨cs, fr, aP⟩ := h5 h0 ad hA
 have aB : some ad.block ≠ u.ownBlock := by
  intro e
  rcases h'.2 with ⟨h6, _⟩ | ⟨g, cap, cur, h6, _, h7, _⟩
  ·rw [h6] at e
   cases e
  rw [h6] at e
  have e2 : ad.block = g := by simpa [Value.ownBlock] using e
  rw [e2, h7] at aP
  injection aP with aP
  injection aP with _ ht
  exact absurd ht j6
 have s9 := ho.block ad.block (by omega) aB
 have hs := ho.size
 refine ⟨A, c, h1, h2, h3, ⟨h4.1, fun _ => ⟨ad, hA, by omega, fun j x hx => ?_⟩⟩, fun _ ad' aS => ?_⟩
 ·rw [World.cell?_of_block (w := w) (by rw [Jz]; exact s9)]
  exact hc j x hx
 rw [hA] at aS
 obtain rfl := Option.some.inj aS
 exact ⟨cs, fr, s9.trans aP⟩
theorem IsQ.only {β : Type} {w w' : World} {T : TypeId} {f' : β -> Value} {u V : Value} {rl : List β} {q : Rat} (h : IsQ w w.heap.size V q) (h' : Own w T f' u rl) (j6 : T ≠ 163) (ho : Only1 w w' u) : IsQ w' w'.heap.size V q := by
 obtain ⟨v, v', h1, h2, h3⟩ := h
 exact ⟨v, v', h1, h2.only h' j6 ho, h3.only h' j6 ho⟩
theorem OwnR.only {β : Type} {w w' : World} {T : TypeId} {f' : β -> Value} {u v : Value} {rl : List β} {ql : List Rat} (h : OwnR w v ql) (h' : Own w T f' u rl) (j6 : T ≠ 163) (aQ : 28 ≠ T) (ho : Only1 w w' u) : OwnR w' v ql := by
 obtain ⟨sl, h1, h2⟩ := h
 exact ⟨sl, h1.only h' aQ ho, h2.mono fun V q hq => hq.only h' j6 ho⟩
structure Kind {β : Type} (T : TypeId) (I : World -> Value -> β -> Prop) : Prop where
 next : ∀ {w w' : World} {v : Value} {b : β}, I w v b -> Below w.heap.size w w' -> I w' v b
 only : ∀ {w w' : World} {v u : Value} {b : β} {rl : List SW}, I w v b -> Own w T SW.v u rl -> Only1 w w' u -> I w' v b
 form : ∀ {w : World} {v : Value} {b : β}, I w v b -> ∃ A n c, v = .slice A n c
def OwnS {β : Type} (T : TypeId) (I : World -> Value -> β -> Prop) (w : World) (v : Value) (bl : List β) : Prop := ∃ rl : List SW, Own w T SW.v v rl /\ rl.length = bl.length /\ ∀ (i : Nat) (r : SW) (b : β), rl[i]? = some r -> bl[i]? = some b -> I w r.v b
section
variable {β : Type} {T : TypeId} {I : World -> Value -> β -> Prop}
theorem OwnS.nil (T : TypeId) (I : World -> Value -> β -> Prop) (w : World) : OwnS T I w (.slice none 0 0) [] := ⟨[], Own.nil_ _ _ _, rfl, fun i r o h => by simp at h⟩
theorem OwnS.lt {w : World} {v : Value} {bl : List β} (h : OwnS T I w v bl) : ∀ b, v.ownBlock = some b -> b < w.heap.size := by
 obtain ⟨rl, h1, _⟩ := h
 exact h1.lt
theorem OwnS.next (K : Kind T I) {w w' : World} {v : Value} {bl : List β} (h : OwnS T I w v bl) (hb : Below w.heap.size w w') : OwnS T I w' v bl := by
 obtain ⟨rl, h1, h2, h3⟩ := h
 exact ⟨rl, h1.below hb h1.lt, h2, fun i r b hr j7 => K.next (h3 i r b hr j7) hb⟩
theorem OwnS.form {w : World} {v : Value} {bl : List β} (h : OwnS T I w v bl) : ∃ A c, v = .slice A bl.length c := by
 obtain ⟨rl, h1, h2, h3⟩ := h
 obtain ⟨A, c, h4, _, _⟩ := h1.form
 exact ⟨A, c, by rw [h4, h2]⟩
theorem OwnS.addr {w : World} {A : Option Addr} {n c : Nat} {bl : List β} (h : OwnS T I w (.slice A n c) bl) (hn : 0 < bl.length) : ∃ g, A = some ⟨g, 0, none⟩ := by
 obtain ⟨rl, h1, h2, h3⟩ := h
 exact Own.addr h1 (by omega)
theorem OwnS.at_ {w : World} {g n c : Nat} {bl : List β} (h : OwnS T I w (.slice (some ⟨g, 0, none⟩) n c) bl) {i : Nat} {b : β} (hb : bl[i]? = some b) :
  ∃ A m k, w.cell? ⟨g, i, none⟩ = some (.slice A m k) /\ I w (.slice A m k) b := by
 obtain ⟨rl, h1, h2, h3⟩ := h
 have hi : i < rl.length := by rw [h2]; exact (List.getElem?_eq_some_iff.1 hb).1
 have hn : n = rl.length := by
  obtain ⟨A', c', h4, _, _⟩ := Own.form h1
  injection h4
 subst hn
 have hr : rl[i]? = some rl[i] := List.getElem?_eq_getElem hi
 exact ⟨_, _, _, Own.cellf h1 hr, h3 i _ b hr hb⟩
theorem OwnS.frozen {w : World} {g n c : Nat} {bl : List β} (h : OwnS T I w (.slice (some ⟨g, 0, none⟩) n c) bl) (j : Nat) : w.frozen? ⟨g, j, none⟩ = false := by
 obtain ⟨rl, h1, h2, h3⟩ := h
 have hn : n = rl.length := by
  obtain ⟨A', c', h4, _, _⟩ := Own.form h1
  injection h4
 subst hn
 exact World.ownsRow.frozenAt h1 j
theorem OwnS.snoc (K : Kind T I) {w w' : World} {v v' : Value} {bl : List β} {b : β} {A : Option Addr} {n c : Nat} {rl : List SW} (h1 : Own w T SW.v v rl) (h2 : rl.length = bl.length) (h3 : ∀ (i : Nat) (r : SW) (b : β), rl[i]? = some r -> bl[i]? = some b -> I w r.v b) (aE : I w (.slice A n c) b)
  (h4 : Own w' T SW.v v' (rl ++ [⟨A, n, c⟩])) (aK : Grew w w' v v') : OwnS T I w' v' (bl ++ [b]) := by
 refine ⟨rl ++ [⟨A, n, c⟩], h4, by simp [h2], fun i r p hr hp => ?_⟩
 by_cases hi : i < rl.length
 ·rw [List.getElem?_append_left hi] at hr
  rw [List.getElem?_append_left (by omega)] at hp
  exact K.only (h3 i r p hr hp) h1 (Only1.of aK)
 have aL : i = rl.length := by
  have := (List.getElem?_eq_some_iff.1 hr).1
  simp at this
  omega
 subst aL
 rw [List.getElem?_append_right zd, Nat.sub_self] at hr
 rw [h2, List.getElem?_append_right zd, Nat.sub_self] at hp
 obtain rfl := Option.some.inj hr
 obtain rfl := Option.some.inj hp
 exact K.only aE h1 (Only1.of aK)
end
section
variable {β : Type} {T TT : TypeId} {I : World -> Value -> β -> Prop} {ops : Array Oper} {rest : List Oper} {op : Oper} {a : Act} {Q : Exit -> Act -> World -> Prop}
end
theorem OwnW.blk {α : Type} {w : World} {e : TypeId} {k : Nat} {f : α -> List Value} {v : Value} {l : List α} (h : OwnW w e k f v l) {g : Nat} (hg : v.ownBlock = some g) : ∃ cs fr, w.heap[g]? = some (.cells cs e fr) := by
 rcases h.2 with ⟨h3, h4⟩ | ⟨b, cap, cur, h3, h4, h5, h6⟩
 ·rw [h3] at hg; cases hg
 rw [h3] at hg
 have e1 : b = g := by simpa [Value.ownBlock] using hg
 exact ⟨_, _, by rw [<- e1]; exact h5⟩
def OwnSA {β : Type} (T : TypeId) (I : World -> Value -> β -> Prop) (L B : Nat) (w : World) (v : Value) (bl : List β) : Prop :=
 ∃ rl : List SW, Own w T SW.v v rl /\ rl.length = bl.length /\ (∀ (i : Nat) (r : SW) (b : β), rl[i]? = some r -> bl[i]? = some b -> I w r.v b) /\
  (∀ (i : Nat) (r : SW), rl[i]? = some r -> ∀ k, r.v.ownBlock = some k -> L <= k /\ k < B) /\
  ∀ (i j : Nat) (r r' : SW), i ≠ j -> rl[i]? = some r -> rl[j]? = some r' -> ∀ k, r.v.ownBlock = some k -> r'.v.ownBlock ≠ some k
section
variable {β : Type} {T : TypeId} {I : World -> Value -> β -> Prop}
theorem OwnSA.plain {L B : Nat} {w : World} {v : Value} {bl : List β} (h : OwnSA T I L B w v bl) : OwnS T I w v bl := by
 obtain ⟨rl, h1, h2, h3, _⟩ := h
 exact ⟨rl, h1, h2, h3⟩
theorem OwnSA.nil (T : TypeId) (I : World -> Value -> β -> Prop) (L B : Nat) (w : World) : OwnSA T I L B w (.slice none 0 0) [] := ⟨[], Own.nil_ _ _ _, rfl, fun i r o h => by simp at h, fun i r h => by simp at h, fun i j r r' _ h => by simp at h⟩
theorem OwnSA.next (K : Kind T I) {L B : Nat} {w w' : World} {v : Value} {bl : List β} (h : OwnSA T I L B w v bl) (hb : Below w.heap.size w w') : OwnSA T I L B w' v bl := by
 obtain ⟨rl, h1, h2, h3, h4, h5⟩ := h
 exact ⟨rl, h1.below hb h1.lt, h2, fun i r b hr j7 => K.next (h3 i r b hr j7) hb, h4, h5⟩
theorem OwnSA.more {L B B' : Nat} {w : World} {v : Value} {bl : List β} (h : OwnSA T I L B w v bl) (hB : B <= B') : OwnSA T I L B' w v bl := by
 obtain ⟨rl, h1, h2, h3, h4, h5⟩ := h
 exact ⟨rl, h1, h2, h3, fun i r hr k hk => ⟨(h4 i r hr k hk).1, Nat.lt_of_lt_of_le (h4 i r hr k hk).2 hB⟩, h5⟩
theorem OwnSA.snoc (K : Kind T I) {L B B' : Nat} {w w' : World} {v v' : Value} {bl : List β} {b : β} {A : Option Addr} {n c : Nat} {rl : List SW} (h1 : Own w T SW.v v rl) (h2 : rl.length = bl.length) (h3 : ∀ (i : Nat) (r : SW) (b : β), rl[i]? = some r -> bl[i]? = some b -> I w r.v b)
  (h5 : ∀ (i : Nat) (r : SW), rl[i]? = some r -> ∀ k, r.v.ownBlock = some k -> L <= k /\ k < B) (h6 : ∀ (i j : Nat) (r r' : SW), i ≠ j -> rl[i]? = some r -> rl[j]? = some r' -> ∀ k, r.v.ownBlock = some k -> r'.v.ownBlock ≠ some k)
  (aE : I w (.slice A n c) b) (o0 : ∀ k, (Value.slice A n c).ownBlock = some k -> B <= k /\ k < B') (hB : B <= B') (hL : L <= B)
  (h4 : Own w' T SW.v v' (rl ++ [⟨A, n, c⟩])) (aK : Grew w w' v v') : OwnSA T I L B' w' v' (bl ++ [b]) := by
 obtain ⟨rl', g1, g2, g3⟩ := OwnS.snoc K h1 h2 h3 aE h4 aK
 have aM : ∀ (i : Nat) (r : SW), (rl ++ [⟨A, n, c⟩])[i]? = some r -> (i < rl.length /\ rl[i]? = some r) \/ (i = rl.length /\ r = ⟨A, n, c⟩) := by
  intro i r hr
  by_cases hi : i < rl.length
  ·rw [List.getElem?_append_left hi] at hr
   exact .inl ⟨hi, hr⟩
  have aL : i = rl.length := by
   have := (List.getElem?_eq_some_iff.1 hr).1
   simp at this
   omega
  subst aL
  rw [List.getElem?_append_right zd, Nat.sub_self] at hr
  exact .inr ⟨rfl, (Option.some.inj hr).symm⟩
 refine ⟨rl ++ [⟨A, n, c⟩], h4, by simp [h2], fun i r p hr hp => ?_, fun i r hr k hk => ?_, fun i j r r' j8 hr aN k hk => ?_⟩
 ·rcases aM i r hr with ⟨hi, j9⟩ | ⟨hi, rfl⟩
  ·rw [List.getElem?_append_left (by omega)] at hp
   exact K.only (h3 i r p j9 hp) h1 (Only1.of aK)
  subst hi
  rw [h2, List.getElem?_append_right zd, Nat.sub_self] at hp
  obtain rfl := Option.some.inj hp
  exact K.only aE h1 (Only1.of aK)
 ·rcases aM i r hr with ⟨hi, j9⟩ | ⟨hi, rfl⟩
  ·exact ⟨(h5 i r j9 k hk).1, Nat.lt_of_lt_of_le (h5 i r j9 k hk).2 hB⟩
  exact ⟨nt hL (o0 k hk).1, (o0 k hk).2⟩
 rcases aM i r hr with ⟨hi, j9⟩ | ⟨hi, rfl⟩
 ·rcases aM j r' aN with ⟨hj, y9⟩ | ⟨hj, rfl⟩
  ·exact h6 i j r r' j8 j9 y9 k hk
  intro e
  have q1 := (h5 i r j9 k hk).2
  have q2 := (o0 k e).1
  omega
 rcases aM j r' aN with ⟨hj, y9⟩ | ⟨hj, rfl⟩
 ·intro e
  have q1 := (h5 j r' y9 k e).2
  have q2 := (o0 k hk).1
  omega
 omega
end
section
variable {β : Type} {T TT : TypeId} {I : World -> Value -> β -> Prop} {ops : Array Oper} {rest : List Oper} {op : Oper} {a : Act} {Q : Exit -> Act -> World -> Prop}
end
theorem ReadsR.more {w : World} {B B' : Nat} {A : Option Addr} {n : Nat} {ql : List Rat} (h : ReadsR w B A n ql) (hB : B <= B') : ReadsR w B' A n ql := by
 obtain ⟨rl, h1, h2⟩ := h
 exact ⟨rl, h1.more hB, h2.mono fun V q h => h.more hB⟩
structure RKind {β : Type} (R : World -> Nat -> Option Addr -> Nat -> β -> Prop) : Prop where
 below : ∀ {w w' : World} {B : Nat} {A : Option Addr} {n : Nat} {b : β}, R w B A n b -> Below B w w' -> R w' B A n b
 more : ∀ {w : World} {B B' : Nat} {A : Option Addr} {n : Nat} {b : β}, R w B A n b -> B <= B' -> R w B' A n b
def ReadsS {β : Type} (R : World -> Nat -> Option Addr -> Nat -> β -> Prop) (w : World) (B : Nat) (A : Option Addr) (n : Nat) (bl : List β) : Prop :=
 ∃ rl : List SW, Reads w B 1 A n (rl.map SW.v) /\ rl.length = bl.length /\ ∀ (i : Nat) (r : SW) (b : β), rl[i]? = some r -> bl[i]? = some b -> R w B r.A r.n b
section
variable {β : Type} {R : World -> Nat -> Option Addr -> Nat -> β -> Prop} {w w' : World} {B B' n : Nat} {A : Option Addr} {bl : List β}
theorem ReadsS.len (h : ReadsS R w B A n bl) : bl.length = n := by
 obtain ⟨rl, h1, h2, h3⟩ := h
 rw [<- h2, h1.lenf]
theorem ReadsS.below (K : RKind R) (h : ReadsS R w B A n bl) (hb : Below B w w') : ReadsS R w' B A n bl := by
 obtain ⟨rl, h1, h2, h3⟩ := h
 exact ⟨rl, h1.below hb, h2, fun i r b hr j7 => K.below (h3 i r b hr j7) hb⟩
theorem ReadsS.more (K : RKind R) (h : ReadsS R w B A n bl) (hB : B <= B') : ReadsS R w B' A n bl := by
 obtain ⟨rl, h1, h2, h3⟩ := h
 exact ⟨rl, h1.more hB, h2, fun i r b hr j7 => K.more (h3 i r b hr j7) hB⟩
theorem ReadsS.at_ (h : ReadsS R w B A n bl) {k : Nat} {b : β} (hb : bl[k]? = some b) : ∃ ad A' m c, A = some ad /\ ad.block < B /\ w.cell? (ad.add k) = some (.slice A' m c) /\ R w B A' m b := by
 obtain ⟨rl, h1, h2, h3⟩ := h
 have hk : k < n := by
  have := (List.getElem?_eq_some_iff.1 hb).1
  have := h1.lenf
  omega
 obtain ⟨ad, x, e, aR, hx, hc⟩ := Reads.atf h1 hk
 exact ⟨ad, x.A, x.n, x.c, e, aR, hc, h3 k x b hx hb⟩
theorem ReadsS.nil : ReadsS R w B A 0 [] := ⟨[], Reads.none_, rfl, fun i r b h => by simp at h⟩
end
structure TExc (ts : List TypeId) (B : Nat) (w w' : World) : Prop where
 os : w'.os = w.os
 tape : w'.tape = w.tape
 output : w'.output = w.output
 size : w.heap.size <= w'.heap.size
 block : ∀ k, k < w.heap.size -> (k < B \/ ∃ cs t fr, w.heap[k]? = some (.cells cs t fr) /\ t ∉ ts) -> w'.heap[k]? = w.heap[k]?
section
variable {ts : List TypeId} {B : Nat} {w w' w'' : World}
theorem TExc.refl (ts : List TypeId) (B : Nat) (w : World) : TExc ts B w w := ⟨rfl, rfl, rfl, Nat.le_refl _, fun _ _ _ => rfl⟩
theorem TExc.trans (h : TExc ts B w w') (h' : TExc ts B w' w'') : TExc ts B w w'' :=
 ⟨h'.os.trans h.os, h'.tape.trans h.tape, h'.output.trans h.output, nt h.size h'.size, fun k hk hc => by
  have e := h.block k hk hc
  refine (h'.block k (Nat.lt_of_lt_of_le hk h.size) ?_).trans e
  rcases hc with hc | ⟨cs, t, fr, h1, h2⟩
  ·exact .inl hc
  exact .inr ⟨cs, t, fr, e.trans h1, h2⟩⟩
theorem TExc.of (h : Below w.heap.size w w') : TExc ts B w w' := ⟨h.os, h.tape, h.output, h.size, fun k hk _ => h.block k hk⟩
theorem TExc.below (h : TExc ts B w w') (hB : B <= w.heap.size) : Below B w w' := ⟨h.os, h.tape, h.output, h.size, fun k hk => h.block k (by omega) (.inl hk)⟩
theorem TExc.exc {g : Nat} (h : Exc g w w') (hB : B <= g) {cs : Array Value} {t : TypeId} {fr : Nat × Nat} (ht : w.heap[g]? = some (.cells cs t fr)) (hm : t ∈ ts) : TExc ts B w w' :=
 ⟨h.os, h.tape, h.output, h.size, fun k hk hc => h.block k hk fun e => by
  subst e
  rcases hc with hc | ⟨cs', t', fr', h1, h2⟩
  ·omega
  rw [ht] at h1
  injection h1 with h1
  injection h1 with _ h1 _
  exact h2 (h1 ▸ hm)⟩
theorem Own.blk {α : Type} {e : TypeId} {f : α -> Value} {v : Value} {l : List α} (h : Own w e f v l) {g : Nat} (hg : v.ownBlock = some g) : ∃ cs fr, w.heap[g]? = some (.cells cs e fr) := by
 rcases h.2 with ⟨h3, h4⟩ | ⟨b, cap, cur, h3, h4, h5, h6⟩
 ·rw [h3] at hg; cases hg
 rw [h3] at hg
 have e1 : b = g := by simpa [Value.ownBlock] using hg
 exact ⟨_, _, by rw [<- e1]; exact h5⟩
end
structure KindX {β : Type} (T : TypeId) (I : World -> Value -> β -> Prop) : Prop extends Kind T I where
 blk : ∀ {w : World} {v : Value} {b : β} {g : Nat}, I w v b -> v.ownBlock = some g -> ∃ cs t fr, w.heap[g]? = some (.cells cs t fr) /\ t ≠ T
 other : ∀ {w w' : World} {v u : Value} {b b' : β}, I w v b -> I w u b' -> w.heap.size <= w'.heap.size -> (∀ k, k < w.heap.size -> some k ≠ u.ownBlock -> w'.heap[k]? = w.heap[k]?) -> (∀ k, v.ownBlock = some k -> u.ownBlock ≠ some k) -> I w' v b
section
variable {β : Type} {T : TypeId} {I : World -> Value -> β -> Prop} {L B B' : Nat} {w w' : World}
theorem OwnSA.form {v : Value} {bl : List β} (h : OwnSA T I L B w v bl) : ∃ A c, v = .slice A bl.length c := h.plain.form
theorem OwnSA.addr {A : Option Addr} {n c : Nat} {bl : List β} (h : OwnSA T I L B w (.slice A n c) bl) (hn : 0 < bl.length) : ∃ g, A = some ⟨g, 0, none⟩ := h.plain.addr hn
theorem getElem?_set_cases {α : Type} {l : List α} {i j : Nat} {x y : α} (h : (l.set i x)[j]? = some y) : (j = i /\ y = x) \/ (j ≠ i /\ l[j]? = some y) := by
 rw [List.getElem?_set] at h
 by_cases j8 : i = j
 ·rw [if_pos j8] at h
  split at h
  ·exact .inl ⟨j8.symm, (Option.some.inj h).symm⟩
  cases h
 rw [if_neg j8] at h
 exact .inr ⟨fun e => j8 e.symm, h⟩
theorem Jge {α : Type} {l : List α} {i : Nat} {x : α} (h : l[i]? = some x) : l.set i x = l := by
 refine List.ext_getElem? fun j => ?_
 rw [List.getElem?_set]
 by_cases j8 : i = j
 ·subst j8
  rw [if_pos rfl, h, if_pos (List.getElem?_eq_some_iff.1 h).1]
 rw [if_neg j8]
theorem OwnSA.at_ (K : KindX T I) {g n c : Nat} {bl : List β} (h : OwnSA T I L B w (.slice (some ⟨g, 0, none⟩) n c) bl) {i : Nat} {b : β} (hb : bl[i]? = some b) :
  ∃ A m k, w.cell? ⟨g, i, none⟩ = some (.slice A m k) /\ I w (.slice A m k) b /\ (∀ x, (Value.slice A m k).ownBlock = some x -> L <= x /\ x < B) /\
   ∀ x, A = some ⟨x, 0, none⟩ -> x ≠ g /\ ∀ w' b', Exc x w w' -> I w' (.slice A m k) b' -> OwnSA T I L B w' (.slice (some ⟨g, 0, none⟩) n c) (bl.set i b') := by
 obtain ⟨rl, h1, h2, h3, h4, h5⟩ := h
 have hi : i < rl.length := by rw [h2]; exact (List.getElem?_eq_some_iff.1 hb).1
 have hn : n = rl.length := by
  obtain ⟨A', c', h4, _, _⟩ := Own.form h1
  injection h4
 subst hn
 have hr : rl[i]? = some rl[i] := List.getElem?_eq_getElem hi
 have hI := h3 i _ b hr hb
 refine ⟨_, _, _, Own.cellf h1 hr, hI, fun x hx => h4 i _ hr x hx, fun x hx => ?_⟩
 have aT : (rl[i]).v.ownBlock = some x := by unfold SW.v; rw [hx]; rfl
 have aU : x ≠ g := by
  intro e
  subst e
  obtain ⟨cs, t, fr, k1, k2⟩ := K.blk hI aT
  obtain ⟨cs', fr', k3⟩ := Own.blk h1 (g := x) rfl
  rw [k1] at k3
  injection k3 with k3
  injection k3 with _ k3 _
  exact k2 k3
 refine ⟨aU, fun w' b' he aC => ⟨rl, ?_, by rw [List.length_set, h2], fun j r b'' aN j0 => ?_, h4, h5⟩⟩
 ·exact Own.exc h1 he (fun e => aU (by simpa [Value.ownBlock] using e.symm))
 rcases getElem?_set_cases j0 with ⟨rfl, rfl⟩ | ⟨hj, aD⟩
 ·obtain rfl := Option.some.inj (hr.symm.trans aN)
  exact aC
 refine K.other (h3 j r b'' aN aD) hI he.size (fun k hk j6 => he.block k hk fun e => j6 (by rw [e]; exact aT.symm)) (h5 j i r _ hj aN hr)
theorem OwnSA.put (K : KindX T I) {g n c : Nat} {bl : List β} (h : OwnSA T I L B w (.slice (some ⟨g, 0, none⟩) n c) bl) {i : Nat} {b : β} {A : Option Addr} {m k : Nat} (aE : I w (.slice A m k) b) (o0 : ∀ x, (Value.slice A m k).ownBlock = some x -> B <= x /\ x < B') (hB : B <= B') (hL : L <= B) :
  OwnSA T I L B' (w.setCell ⟨g, i, none⟩ (.slice A m k)) (.slice (some ⟨g, 0, none⟩) n c) (bl.set i b) := by
 obtain ⟨rl, h1, h2, h3, h4, h5⟩ := h
 have hn : n = rl.length := by
  obtain ⟨A', c', h4, _, _⟩ := Own.form h1
  injection h4
 subst hn
 have aF := World.ownsRow.stored h1 i (.slice A m k)
 have aG : Exc g w (w.setCell ⟨g, i, none⟩ (.slice A m k)) := (Exc.refl g w).set_ i _
 have aV : Only1 w (w.setCell ⟨g, i, none⟩ (.slice A m k)) (.slice (some ⟨g, 0, none⟩) rl.length c) := Only1.exc aG
 refine ⟨rl.set i ⟨A, m, k⟩, ?_, by simp [h2], fun j r b'' hr j0 => ?_, fun j r hr x hx => ?_, fun j j' r r' hj hr aN x hx => ?_⟩
 ·unfold Own
  rw [List.length_set, List.map_set]
  exact aF.1
 ·rcases getElem?_set_cases hr with ⟨rfl, rfl⟩ | ⟨hj, j9⟩
  ·have e : b'' = b := by
    rw [List.getElem?_set, if_pos rfl] at j0
    split at j0
    ·exact (Option.some.inj j0).symm
    cases j0
   subst e
   exact K.only aE h1 aV
  rw [List.getElem?_set, if_neg (fun e => hj e.symm)] at j0
  exact K.only (h3 j r b'' j9 j0) h1 aV
 ·rcases getElem?_set_cases hr with ⟨rfl, rfl⟩ | ⟨hj, j9⟩
  ·exact ⟨nt hL (o0 x hx).1, (o0 x hx).2⟩
  exact ⟨(h4 j r j9 x hx).1, Nat.lt_of_lt_of_le (h4 j r j9 x hx).2 hB⟩
 rcases getElem?_set_cases hr with ⟨rfl, rfl⟩ | ⟨aI, j9⟩ <;> rcases getElem?_set_cases aN with ⟨rfl, rfl⟩ | ⟨aJ, y9⟩
 ·omega
 ·intro e
  have q1 := (h4 j' r' y9 x e).2
  have q2 := (o0 x hx).1
  omega
 ·intro e
  have q1 := (h4 j r j9 x hx).2
  have q2 := (o0 x e).1
  omega
 exact h5 j j' r r' hj j9 y9 x hx
theorem OwnSA.frozen {g n c : Nat} {bl : List β} (h : OwnSA T I L B w (.slice (some ⟨g, 0, none⟩) n c) bl) (j : Nat) : w.frozen? ⟨g, j, none⟩ = false := h.plain.frozen j
end
