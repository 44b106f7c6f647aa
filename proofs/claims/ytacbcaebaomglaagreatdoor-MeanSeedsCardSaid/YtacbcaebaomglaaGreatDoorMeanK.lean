import Derived.Test.YtacbcaebaomglaaGreatDoorMeanU
namespace Go.Proofs.YtacbcaebaomglaaGreatDoor
set_option maxRecDepth 100000
set_option maxHeartbeats 8000000
open Go.RowKit
set_option linter.all false
theorem Jn7 {α : Type} {P : Program} {ops : Array Oper} {o : Oper} {a : Act} {K : Act -> World -> Prop} {Q : Exit -> Act -> World -> Prop} {Z : Prop} {t e : TypeId} {z : Value} {k bytes : Nat} {f : α -> List Value} (E : EltW P t e z k bytes) (hk : 0 < k) (aC : o.guard = none) (s x : Operand)
  (ho : o.op = .call { callee := .builtin .append, args := #[s, x], argTypes := #[t, t] })
  (w : World) (v : Value) (l : List α) (B : Nat) (A : Option Addr) (n c : Nat) (l2 : List α) (hs : a.eval s = v) (j7 : OwnW w e k f v l) (hx : a.eval x = .slice A n c)
  (hr : ReadsW w B k f A n l2) (bZ : ∀ m, ∀ u ∈ f m, u.oneCell' = true) (dR : l.length + n <= maxLen) (hb : (l.length + n) * bytes <= 140737488355328)
  (h : ∀ v' w1, OwnW w1 e k f v' (l ++ l2) -> Grew w w1 v v' -> K (a.put o.dst v') w1) : if Region.wanted o (yielded ops a.tmps) = true then Oper.wp P o a w K Q else Z := by
 obtain ⟨i0, dS, bS, bT, dT⟩ := info_parts E.info
 refine Vp _ aC s x t ho 0 e i0 z k bytes E.under dS bS bT dT E.size hk v l.length (l.flatMap f) hs j7 B A n c (l2.flatMap f) hx hr.2
  (by intro u hu; simp at hu; obtain ⟨m, _, hm⟩ := hu; exact bZ m u hm) dR hb (Nat.zero_le _) ?_
 intro v' w' bB bU dU
 refine h v' w' ?_ (Grew.of_grown bU dU)
 have hl := hr.len
 unfold OwnW
 rw [List.length_append, List.flatMap_append, hl]
 exact bB
section
variable {ops : Array Oper} {o : Oper} {a : Act} {K : Act -> World -> Prop} {Q : Exit -> Act -> World -> Prop} {Z : Prop}
theorem Jn8 (aC : o.guard = none) (s x : Operand)
  (ho : o.op = .call { callee := .builtin .append, args := #[s, x], argTypes := #[31, 31] })
  (wr : World) (v : Value) (l : List Rat) (q : Rat) (hs : a.eval s = v) (j7 : OwnQ wr v l) (hx : a.eval x = .slice (some ⟨wr.heap.size, 0, none⟩) 1 1) (hl : l.length <= 1000000)
  (h : ∀ v' w1, OwnQ w1 v' (l ++ [q]) -> Grew wr w1 v v' -> K (a.put o.dst v') w1) : if Region.wanted o (yielded ops a.tmps) = true then Oper.wp Tryz.prog o a (wr.alloc (.cells #[.bool (decide (q.num < 0)), .int .u64 (lo q.num.natAbs : Int), .string (mo q.num.natAbs), .int .u64 (lo ((qden q)) : Int), .string (mo ((qden q)))] 65)) K Q else Z := by
 refine Jn7 Tryz.eltQ (by omega) aC s x ho _ v l (wr.heap.size + 1) (some ⟨wr.heap.size, 0, none⟩) 1 1 [q] hs (j7.alloc _) hx (Jj2 wr q) Ji4 (by unfold maxLen; omega) (by omega) ?_
 intro v' w1 h1 h2
 refine h v' w1 h1 ?_
 refine ⟨h2.os, h2.tape, h2.output, nt (by simp) h2.size, fun k hk cA => (h2.block k (by simp; omega) cA).trans (Below.heap_alloc wr _ k hk), fun k hk => ?_⟩
 rcases h2.own k hk with h3 | h3
 ·exact .inl h3
 exact .inr (by simp at h3; omega)
end
def Qj (wd : Nat) (x f : List (List Rat)) : Nat -> List (List Rat)
 | 0 => f
 | i + 1 => if Zq wd (Qj wd x f i) x = 0 then Qj wd x f i else Xr wd (Qj wd x f i) x
def Ze (wd : Nat) (x f : List (List Rat)) : Nat -> List Rat
 | 0 => [Zk f x]
 | i + 1 => if Zq wd (Qj wd x f i) x = 0 then Ze wd x f i else Ze wd x f i ++ [Zk (Xr wd (Qj wd x f i) x) x]
section
variable {wd : Nat} {x f : List (List Rat)}
theorem Jfa {l : List Rat} (hl : l ∈ Xr wd f x) : ∃ g, g < f.length /\ l = Xi wd f x g := by
 obtain ⟨g, hg, rfl⟩ := List.mem_map.1 hl
 exact ⟨g, List.mem_range.1 hg, rfl⟩
theorem Jff {g : Nat} (hf : ∀ l ∈ f, l.length = wd) (hg : g < f.length) : (Xi wd f x g).length = wd := by
 unfold Xi
 split
 ·exact hf _ (by rw [List.getD_eq_getElem?_getD, List.getElem?_eq_getElem hg]; exact List.getElem_mem _)
 simp [Kb]
theorem Jhg (hf : ∀ l ∈ f, l.length = wd) : ∀ l ∈ Xr wd f x, l.length = wd := by
 intro l hl
 obtain ⟨g, hg, rfl⟩ := Jfa hl
 exact Jff hf hg
theorem Jdj {mx m : Nat} (hmx : 1 <= mx) (hx : x.length <= 1000) (hm : x.length * (mx + 1) + 65 <= m) (hsx : ∀ l ∈ x, ∀ y ∈ l, QS mx y) (hsf : ∀ l ∈ f, ∀ y ∈ l, QS m y) : ∀ l ∈ Xr wd f x, ∀ y ∈ l, QS m y := by
 intro l hl y hy
 obtain ⟨g, hg, rfl⟩ := Jfa hl
 unfold Xi at hy
 split at hy
 ·exact hsf _ (by rw [List.getD_eq_getElem?_getD, List.getElem?_eq_getElem hg]; exact List.getElem_mem _) y hy
 obtain ⟨c, -, rfl⟩ := List.mem_map.1 hy
 exact (Jmp (Jah hmx hsx g c x.length) (nt (Jai f x g _) hx)).mono (by omega)
theorem Jb0 (hf : ∀ l ∈ f, l.length = wd) : ∀ i, ∀ l ∈ Qj wd x f i, l.length = wd
 | 0 => hf
 | i + 1 => by
  unfold Qj
  split
  ·exact Jb0 hf i
  exact Jhg (Jb0 hf i)
theorem Jb2 {mx m : Nat} (hmx : 1 <= mx) (hx : x.length <= 1000) (hm : x.length * (mx + 1) + 65 <= m) (hsx : ∀ l ∈ x, ∀ y ∈ l, QS mx y) (hsf : ∀ l ∈ f, ∀ y ∈ l, QS m y) : ∀ i, ∀ l ∈ Qj wd x f i, ∀ y ∈ l, QS m y
 | 0 => hsf
 | i + 1 => by
  unfold Qj
  split
  ·exact Jb2 hmx hx hm hsx hsf i
  exact Jdj hmx hx hm hsx (Jb2 hmx hx hm hsx hsf i)
theorem Jag : ∀ i, (Ze wd x f i).length <= i + 1
 | 0 => Nat.le_refl _
 | i + 1 => by
  unfold Ze
  split
  ·exact nt (Jag i) (by omega)
  rw [List.length_append]; have := Jag i; simp; omega
theorem Jcp {i : Nat} (h : Zq wd (Qj wd x f i) x = 0) : ∀ j, i <= j -> Qj wd x f j = Qj wd x f i /\ Ze wd x f j = Ze wd x f i
 | 0, hj => by
  obtain rfl : i = 0 := by omega
  exact ⟨rfl, rfl⟩
 | j + 1, hj => by
  rcases Nat.eq_or_lt_of_le hj with e | hlt
  ·subst e; exact ⟨rfl, rfl⟩
  obtain ⟨h1, h2⟩ := Jcp h j (by omega)
  have h3 : Zq wd (Qj wd x f j) x = 0 := by rw [h1]; exact h
  exact ⟨by rw [<- h1]; exact if_pos h3, by rw [<- h2]; exact if_pos h3⟩
end
theorem Ks (w : World) (q : Rat) : OwnQ (w.alloc (.cells #[.bool (decide (q.num < 0)), .int .u64 (lo q.num.natAbs : Int), .string (mo q.num.natAbs), .int .u64 (lo ((qden q)) : Int), .string (mo ((qden q)))] 65)) (.slice (some ⟨w.heap.size, 0, none⟩) 1 1) [q] := by
 refine ⟨by simp [Jcc], .inr ⟨w.heap.size, 1, #[.bool (decide (q.num < 0)), .int .u64 (lo q.num.natAbs : Int), .string (mo q.num.natAbs), .int .u64 (lo ((qden q)) : Int), .string (mo ((qden q)))], rfl, Nat.zero_le _, heap_alloc_new w _, Nat.le_refl _, by unfold maxLen; omega, by simp, by simp [qC]⟩⟩
theorem Jl2 {a b g : Nat} (h : a + 2 <= b) (h' : b <= g) : ¬ a = g := by omega
theorem Jl1 {a b g : Nat} (h : a + 2 <= b) (h' : b <= g) : ¬ g = a := by omega
theorem Jeg {B g : Nat} {w w' : World} (h : Below B w w') (hg : B <= g) (x y z : Value) : Below B w (((w'.setCell ⟨g, 0, none⟩ x).setCell ⟨g, 1, none⟩ y).setCell ⟨g, 2, none⟩ z) := ((h.setCell hg x).setCell hg y).setCell hg z
theorem OwnSA.excB {T t : TypeId} {L B x g n c : Nat} {w w' : World} {cs : Array Value} {bl : List (List Rat)} (h : OwnSA T OwnQ L B w (.slice (some ⟨g, 0, none⟩) n c) bl) (he : Exc x w w') (hb : Blk w x t cs) (hT : t ≠ T) (hQ : t ≠ 65) : OwnSA T OwnQ L B w' (.slice (some ⟨g, 0, none⟩) n c) bl := by
 obtain ⟨rl, h1, h2, h3, h4, h5⟩ := h
 have hg : x ≠ g := fun e => by
  subst e
  obtain ⟨cs', fr', k3⟩ := Own.blk h1 (g := x) rfl
  rw [hb] at k3
  injection k3 with k3
  injection k3 with _ k3 _
  exact hT k3
 refine ⟨rl, h1.exc he (fun e => hg (Yv e).symm), h2, fun i r b hr bC => ?_, h4, h5⟩
 refine OwnQ.excm (h3 i r b hr bC) he fun e => ?_
 obtain ⟨cs', fr', k3⟩ := OwnW.blk (h3 i r b hr bC) e
 rw [hb] at k3
 injection k3 with k3
 injection k3 with _ k3 _
 exact hQ k3
theorem OwnQ.form3m {w : World} {v : Value} {l : List Rat} (h : OwnQ w v l) : ∃ A c, v = .slice A l.length c := by
 obtain ⟨A, c, h1, -⟩ := OwnW.form h
 exact ⟨A, c, h1⟩
theorem OwnQ.formNm {w : World} {v : Value} {l : List Rat} {n : Nat} (h : OwnQ w v l) (hn : l.length = n) : ∃ A c, v = .slice A n c := by
 obtain ⟨A, c, h1, -⟩ := OwnW.form h
 exact ⟨A, c, by rw [h1, hn]⟩
structure MF (w : World) (B : Nat) (A A' : Option Addr) (n n' wd m mx : Nat) (f x : List (List Rat)) : Prop where
 mx0 : MX w B A A' n n' wd m f x
 hmx : 1 <= mx
 hsm : n' * (mx + 1) + 65 <= m
 hsx : ∀ l ∈ x, ∀ y ∈ l, QS mx y
 hwd1 : 1 <= wd
section
variable {w w' : World} {B : Nat} {A A' : Option Addr} {n n' wd m mx : Nat} {f x : List (List Rat)}
theorem MF.next (h : MF w B A A' n n' wd m mx f x) (hb : Below w.heap.size w w') : MF w' B A A' n n' wd m mx f x := ⟨h.mx0.next hb, h.hmx, h.hsm, h.hsx, h.hwd1⟩
theorem MF.with_ (h : MF w B A A' n n' wd m mx f x) (i gd : Nat) {L : Nat} (ho : OwnSA 31 OwnQ L w.heap.size w (.slice (some ⟨gd, 0, none⟩) n n) (Qj wd x f i)) : MX w w.heap.size (some ⟨gd, 0, none⟩) A' n n' wd m (Qj wd x f i) x := by
 have hx := h.mx0.hx.len
 refine ⟨OwnS.readS (fun h => OwnQ.reads_ h) ho.plain, h.mx0.hx.more Xh h.mx0.hB, Nat.le_refl _, h.mx0.hn, h.mx0.hn2, h.mx0.hn', h.mx0.hwd, Jb0 h.mx0.hlf i, h.mx0.hlx, h.mx0.hm, h.mx0.hm2, ?_, h.mx0.hsx, h.mx0.hT⟩
 exact Jb2 h.hmx (by have := h.mx0.hn'; omega) (by rw [hx]; exact h.hsm) h.hsx h.mx0.hsf i
end
def DeepAt (w : World) (n : Nat) (f : List (List Rat)) (v : Value) (wr : World) : Prop := ∃ gd, v = .slice (some ⟨gd, 0, none⟩) n n /\ w.heap.size <= gd /\ OwnSA 31 OwnQ w.heap.size wr.heap.size wr (.slice (some ⟨gd, 0, none⟩) n n) f
theorem DeepAt.next {w wr wr' : World} {n : Nat} {f : List (List Rat)} {v : Value} (h : DeepAt w n f v wr) (hb : Below wr.heap.size wr wr') : DeepAt w n f v wr' := by
 obtain ⟨gd, h1, h2, h3⟩ := h
 exact ⟨gd, h1, h2, (OwnSA.next (Qm (by decide)).toKind h3 hb).more hb.size⟩
structure FT (w : World) (n g9 gd : Nat) (kv : Value) (cs : List (List Rat)) (ks : List Rat) (wr : World) : Prop where
 run : Blk wr g9 33 #[.slice (some ⟨gd, 0, none⟩) n n, .slice none 0 0, kv]
 res : Blk wr (w.heap.size + 1) 33 #[.slice none 0 0, .slice none 0 0, .slice none 0 0]
 rows : OwnSA 31 OwnQ w.heap.size wr.heap.size wr (.slice (some ⟨gd, 0, none⟩) n n) cs
 costs : OwnQ wr kv ks
 fresh : ∀ b, kv.ownBlock = some b -> w.heap.size + 2 <= b
 bel : Below w.heap.size w wr
 h9 : w.heap.size + 2 <= g9
 hd : w.heap.size <= gd
section
variable {w wr wr' : World} {n g9 gd : Nat} {kv : Value} {cs : List (List Rat)} {ks : List Rat}
theorem FT.after (h : FT w n g9 gd kv cs ks wr) (hb : Below wr.heap.size wr wr') : FT w n g9 gd kv cs ks wr' :=
 ⟨h.run.below hb h.run.lt, h.res.below hb h.res.lt, (OwnSA.next (Qm (by decide)).toKind h.rows hb).more hb.size, OwnW.next h.costs hb, h.fresh, h.bel.trans (hb.mono h.bel.size), h.h9, h.hd⟩
theorem FT.setModel (h : FT w n g9 gd kv cs ks wr) {gd2 : Nat} {cB : List (List Rat)} {L : Nat} (hL : w.heap.size <= L) (dV : w.heap.size <= gd2) (ho : OwnSA 31 OwnQ L wr.heap.size wr (.slice (some ⟨gd2, 0, none⟩) n n) cB) :
  FT w n g9 gd2 kv cB ks (wr.setCell ⟨g9, 0, none⟩ (.slice (some ⟨gd2, 0, none⟩) n n)) /\ OwnSA 31 OwnQ L (wr.setCell ⟨g9, 0, none⟩ (.slice (some ⟨gd2, 0, none⟩) n n)).heap.size (wr.setCell ⟨g9, 0, none⟩ (.slice (some ⟨gd2, 0, none⟩) n n)) (.slice (some ⟨gd2, 0, none⟩) n n) cB := by
 have hx : Exc g9 wr (wr.setCell ⟨g9, 0, none⟩ (.slice (some ⟨gd2, 0, none⟩) n n)) := (Exc.refl _ _).set_ _ _
 have hs : (wr.setCell ⟨g9, 0, none⟩ (.slice (some ⟨gd2, 0, none⟩) n n)).heap.size = wr.heap.size := by simp
 have h9 := h.h9
 have o1 := OwnSA.excB ho hx h.run (by decide) (by decide)
 refine ⟨⟨by simpa using h.run.set_ 0 (.slice (some ⟨gd2, 0, none⟩) n n), h.res.exc hx (by omega), by rw [hs]; exact OwnSA.low o1 hL, OwnQ.excm h.costs hx (fun e => ?_), h.fresh, h.bel.setCell (show w.heap.size <= g9 by omega) _, h9, dV⟩, by rw [hs]; exact o1⟩
 obtain ⟨cs', fr', k3⟩ := OwnW.blk h.costs e
 have k4 := h.run
 rw [Blk, k3] at k4
 injection k4 with k4
 injection k4 with _ k4 _
 exact absurd k4 (by decide)
end
theorem Exc.grow {w1 w7 : World} {gk nk ck : Nat} {v' : Value} (h : Grew w1 w7 (.slice (some ⟨gk, 0, none⟩) nk ck) v') : Exc gk w1 w7 :=
 ⟨h.os, h.tape, h.output, h.size, fun k hk cA => h.block k hk fun e => cA (Option.some.inj (e.trans rfl))⟩
theorem Own.ne_blk {x t : TypeId} {k g : Nat} {α : Type} {f : α -> List Value} {v : Value} {l : List α} {w : World} {cs : Array Value} (h : OwnW w x k f v l) (hb : Blk w g t cs) (ht : t ≠ x) : v.ownBlock ≠ some g := fun e => by
 obtain ⟨cs', fr', k3⟩ := OwnW.blk h e
 rw [Blk, k3] at hb
 injection hb with hb
 injection hb with _ hb _
 exact ht hb.symm
theorem FT.setCosts {w w1 w7 : World} {n g9 gd gk nk ck L : Nat} {v7 : Value} {cs : List (List Rat)} {ks ks' : List Rat} (h : FT w n g9 gd (.slice (some ⟨gk, 0, none⟩) nk ck) cs ks w1) (hr : OwnSA 31 OwnQ L w1.heap.size w1 (.slice (some ⟨gd, 0, none⟩) n n) cs) (cC : gk < L) (eL : L <= gd) (hL : w.heap.size <= L)
  (hg : Grew w1 w7 (.slice (some ⟨gk, 0, none⟩) nk ck) v7) (ho : OwnQ w7 v7 ks') : FT w n g9 gd v7 cs ks' (w7.setCell ⟨g9, 2, none⟩ v7) := by
 have hx := Exc.grow hg
 have h9 := h.h9
 have hk := h.fresh gk rfl
 have l1 := h.res.lt
 have n9 : g9 ≠ gk := fun e => Own.ne_blk h.costs h.run (by decide) (by rw [e]; rfl)
 have r9 := h.run.exc hx n9
 have s1 := h.res.exc hx (by omega)
 have hy : Exc g9 w7 (w7.setCell ⟨g9, 2, none⟩ v7) := (Exc.refl _ _).set_ _ _
 have hs : (w7.setCell ⟨g9, 2, none⟩ v7).heap.size = w7.heap.size := by simp
 have o1 := (OwnSA.excQ (by decide) hr hx (.inl cC) (by omega)).more hg.size
 have o2 := OwnSA.excB o1 hy r9 (by decide) (by decide)
 have b1 : Below w.heap.size w w7 := h.bel.trans (hx.below h.bel.size (by omega))
 refine ⟨by simpa using r9.set_ 2 v7, s1.exc hy (by omega), by rw [hs]; exact OwnSA.low o2 hL, OwnQ.excm ho hy (Own.ne_blk ho r9 (by decide)), fun b hb => ?_, b1.setCell (show w.heap.size <= g9 by omega) _, h9, h.hd⟩
 rcases hg.own b hb with e | e
 ·have : gk = b := Option.some.inj e
  omega
 omega
theorem Jd9 {wd : Nat} {x f : List (List Rat)} : ∀ i, 0 < (Ze wd x f i).length
 | 0 => by show 0 < ([Zk f x] : List Rat).length; simp
 | i + 1 => by
  unfold Ze
  split
  ·exact Jd9 i
  rw [List.length_append]; have := Jd9 (wd := wd) (x := x) (f := f) i; omega
section
variable {w w2 w4 : World} {n c1c : Nat} {A1 : Option Addr} {f : List (List Rat)} {q : Rat}
theorem Jd6 (e9 : Below w.heap.size w w2) (hs : w.heap.size + 2 <= w2.heap.size) {wz : World} {g9 gs : Nat} (hR : DeepAt w2 n f (.slice A1 n c1c) w4) (hc : Below w2.heap.size w2 w4)
  (hz : Below w2.heap.size w2 wz) (cD : ∀ gd, OwnSA 31 OwnQ w2.heap.size w4.heap.size w4 (.slice (some ⟨gd, 0, none⟩) n n) f -> OwnSA 31 OwnQ w2.heap.size wz.heap.size wz (.slice (some ⟨gd, 0, none⟩) n n) f)
  (run : Blk wz g9 33 #[.slice A1 n c1c, .slice none 0 0, .slice (some ⟨gs, 0, none⟩) 1 1]) (res : Blk wz (w.heap.size + 1) 33 #[.slice none 0 0, .slice none 0 0, .slice none 0 0]) (cost : OwnQ wz (.slice (some ⟨gs, 0, none⟩) 1 1) [q]) (h9 : w2.heap.size <= g9) (eM : w2.heap.size <= gs) :
  ∃ g gd kv, Value.pointer (some ⟨g9, 0, none⟩) = .pointer (some ⟨g, 0, none⟩) /\ FT w n g gd kv f [q] wz := by
 obtain ⟨gd, hv, aC, ho⟩ := hR
 injection hv with e1 e2 e3
 subst e1 e3
 exact ⟨g9, gd, _, rfl, run, res, OwnSA.low (cD gd ho) (by omega), cost, fun b hb => by have := Yv hb; omega, e9.trans (hz.mono e9.size), by omega, by omega⟩
theorem ft_1 (e9 : Below w.heap.size w w2) (hs : w.heap.size + 2 <= w2.heap.size) (c1 : Blk w4 (w.heap.size + 1) 33 #[.slice none 0 0, .slice none 0 0, .slice none 0 0]) (hR : DeepAt w2 n f (.slice A1 n c1c) w4) (hc : Below w2.heap.size w2 w4) :
  ∃ g gd kv, Value.pointer (some ⟨w4.heap.size + 1, 0, none⟩) = .pointer (some ⟨g, 0, none⟩) /\ FT w n g gd kv f [q] ((w4.alloc (.cells #[.bool (decide (q.num < 0)), .int .u64 (lo q.num.natAbs : Int), .string (mo q.num.natAbs), .int .u64 (lo ((qden q)) : Int), .string (mo ((qden q)))] 65)).alloc (.cells #[.slice A1 n c1c, .slice none 0 0, .slice (some ⟨w4.heap.size, 0, none⟩) 1 1] 33)) :=
 Jd6 e9 hs hR hc (Ja hc (Jj _ _ _)) (fun gd h => (OwnSA.next (Qm (by decide)).toKind h (Jj _ _ _)).more (Jj _ _ _).size) (Blk.new2 _ _ _ _) ((c1.alloc _).alloc _) (OwnW.alloc (Ks w4 q) _) (Nat.le_succ_of_le hc.size) hc.size
theorem ft_2 (e9 : Below w.heap.size w w2) (hs : w.heap.size + 2 <= w2.heap.size) (c1 : Blk w4 (w.heap.size + 1) 33 #[.slice none 0 0, .slice none 0 0, .slice none 0 0]) (hR : DeepAt w2 n f (.slice A1 n c1c) w4) (hc : Below w2.heap.size w2 w4) :
  ∃ g gd kv, Value.pointer (some ⟨w4.heap.size, 0, none⟩) = .pointer (some ⟨g, 0, none⟩) /\ FT w n g gd kv f [q] ((w4.alloc (.cells #[.slice A1 n c1c, .slice none 0 0, .slice (some ⟨w4.heap.size + 1, 0, none⟩) 1 1] 33)).alloc (.cells #[.bool (decide (q.num < 0)), .int .u64 (lo q.num.natAbs : Int), .string (mo q.num.natAbs), .int .u64 (lo ((qden q)) : Int), .string (mo ((qden q)))] 65)) := by
 have hq := Ks (w4.alloc (.cells #[.slice A1 n c1c, .slice none 0 0, .slice (some ⟨w4.heap.size + 1, 0, none⟩) 1 1] 33)) q
 rw [World.size_alloc] at hq
 exact Jd6 e9 hs hR hc (Ja hc (Jj _ _ _)) (fun gd h => (OwnSA.next (Qm (by decide)).toKind h (Jj _ _ _)).more (Jj _ _ _).size) ((Blk.new _ _ _).alloc _) ((c1.alloc _).alloc _) hq hc.size (Nat.le_succ_of_le hc.size)
theorem ft_3 (e9 : Below w.heap.size w w2) (hs : w.heap.size + 2 <= w2.heap.size) (c1 : Blk w4 (w.heap.size + 1) 33 #[.slice none 0 0, .slice none 0 0, .slice none 0 0]) (hR : DeepAt w2 n f (.slice A1 n c1c) w4) (hc : Below w2.heap.size w2 w4) {gR : Nat} (cR : Blk w4 gR 33 #[.slice none 0 0, .slice none 0 0, .slice none 0 0]) (hg : w2.heap.size <= gR) :
  ∃ g gd kv, Value.pointer (some ⟨gR, 0, none⟩) = .pointer (some ⟨g, 0, none⟩) /\ FT w n g gd kv f [q] ((((w4.alloc (.cells #[.bool (decide (q.num < 0)), .int .u64 (lo q.num.natAbs : Int), .string (mo q.num.natAbs), .int .u64 (lo ((qden q)) : Int), .string (mo ((qden q)))] 65)).setCell ⟨gR, 0, none⟩ (.slice A1 n c1c)).setCell ⟨gR, 1, none⟩ (.slice none 0 0)).setCell ⟨gR, 2, none⟩ (.slice (some ⟨w4.heap.size, 0, none⟩) 1 1)) := by
 have hx : Exc gR (w4.alloc (.cells #[.bool (decide (q.num < 0)), .int .u64 (lo q.num.natAbs : Int), .string (mo q.num.natAbs), .int .u64 (lo ((qden q)) : Int), .string (mo ((qden q)))] 65)) ((((w4.alloc (.cells #[.bool (decide (q.num < 0)), .int .u64 (lo q.num.natAbs : Int), .string (mo q.num.natAbs), .int .u64 (lo ((qden q)) : Int), .string (mo ((qden q)))] 65)).setCell ⟨gR, 0, none⟩ (.slice A1 n c1c)).setCell ⟨gR, 1, none⟩ (.slice none 0 0)).setCell ⟨gR, 2, none⟩ (.slice (some ⟨w4.heap.size, 0, none⟩) 1 1)) := (((Exc.refl _ _).set_ _ _).set_ _ _).set_ _ _
 have cE : Blk ((((w4.alloc (.cells #[.bool (decide (q.num < 0)), .int .u64 (lo q.num.natAbs : Int), .string (mo q.num.natAbs), .int .u64 (lo ((qden q)) : Int), .string (mo ((qden q)))] 65)).setCell ⟨gR, 0, none⟩ (.slice A1 n c1c)).setCell ⟨gR, 1, none⟩ (.slice none 0 0)).setCell ⟨gR, 2, none⟩ (.slice (some ⟨w4.heap.size, 0, none⟩) 1 1)) gR 33 #[.slice A1 n c1c, .slice none 0 0, .slice (some ⟨w4.heap.size, 0, none⟩) 1 1] := by
  simpa using (((cR.alloc (.cells #[.bool (decide (q.num < 0)), .int .u64 (lo q.num.natAbs : Int), .string (mo q.num.natAbs), .int .u64 (lo ((qden q)) : Int), .string (mo ((qden q)))] 65)).set_ 0 (.slice A1 n c1c)).set_ 1 (.slice none 0 0)).set_ 2 (.slice (some ⟨w4.heap.size, 0, none⟩) 1 1)
 have lR := cR.lt
 refine Jd6 e9 hs hR hc (Jeg (Ja hc (Jb _ _)) hg _ _ _) (fun gd h => ?_) cE ((c1.alloc _).exc hx (by omega)) (OwnQ.excm (Ks w4 q) hx (fun e => by have := Yv e; omega)) hg hc.size
 have h1 := (OwnSA.next (Qm (by decide)).toKind h (Jb w4 (.cells #[.bool (decide (q.num < 0)), .int .u64 (lo q.num.natAbs : Int), .string (mo q.num.natAbs), .int .u64 (lo ((qden q)) : Int), .string (mo ((qden q)))] 65))).more (Jb w4 (.cells #[.bool (decide (q.num < 0)), .int .u64 (lo q.num.natAbs : Int), .string (mo q.num.natAbs), .int .u64 (lo ((qden q)) : Int), .string (mo ((qden q)))] 65)).size
 have dW : ((((w4.alloc (.cells #[.bool (decide (q.num < 0)), .int .u64 (lo q.num.natAbs : Int), .string (mo q.num.natAbs), .int .u64 (lo ((qden q)) : Int), .string (mo ((qden q)))] 65)).setCell ⟨gR, 0, none⟩ (.slice A1 n c1c)).setCell ⟨gR, 1, none⟩ (.slice none 0 0)).setCell ⟨gR, 2, none⟩ (.slice (some ⟨w4.heap.size, 0, none⟩) 1 1)).heap.size = (w4.alloc (.cells #[.bool (decide (q.num < 0)), .int .u64 (lo q.num.natAbs : Int), .string (mo q.num.natAbs), .int .u64 (lo ((qden q)) : Int), .string (mo ((qden q)))] 65)).heap.size := by simp
 rw [dW]
 exact OwnSA.excB h1 hx (cR.alloc (.cells #[.bool (decide (q.num < 0)), .int .u64 (lo q.num.natAbs : Int), .string (mo q.num.natAbs), .int .u64 (lo ((qden q)) : Int), .string (mo ((qden q)))] 65)) (by decide) (by decide)
end
theorem Jfj (A A' : Option Addr) (n c n' c' wd B m mx most : Nat) (f x : List (List Rat)) (w : World) (h : MF w B A A' n n' wd m mx f x) (cW : most <= 200) (p8 : Xd f = 0) (bD : Qt f x = 0) :
  Calls Tryz.prog 15 #[.slice A' n' c', .agg #[.slice A n c], .int .i64 (most : Int)] w fun e w' => ∃ gd gg kv, e = .returned (.tuple #[.agg #[.slice (some ⟨gd, 0, none⟩) n n, .slice (some ⟨gg, 0, none⟩) n' n', kv], .int .i64 0]) /\ w.heap.size <= gd /\ Jc6 w gd n (Qj wd x f most) w' /\ OwnQ w' kv (Ze wd x f most) /\ Own w' 3 iv (.slice (some ⟨gg, 0, none⟩) n' n') (Jl (Qj wd x f most) x) /\ Below w.heap.size w w' := by
 have hn := h.mx0.hn
 have hn2 := h.mx0.hn2
 have hn' := h.mx0.hn'
 have HCK := lh (fun w' (hb : Below w.heap.size w w') => Yb A n c B f w' (h.next hb).mx0.hf (h.next hb).mx0.hB (by omega))
 have HRF := lh (fun w' (hb : Below w.heap.size w w') => Zb A A' n c n' c' B f x w' (h.next hb).mx0.hf (h.next hb).mx0.hx (h.next hb).mx0.hB (by omega) (by omega))
 rw [p8] at HCK
 rw [bD] at HRF
 have H := lh h
 clear h p8 bD
 obtain ⟨b0, b1, hB, hZ⟩ := bx2 w 30 #[.slice A n c] 33 #[.slice none 0 0, .slice none 0 0, .slice none 0 0]
 go_enter Tryz.func15, Tryz.ntmps15
 have x0 := b0.c1
 have HB0 := lh hB
 have HZ := lh hZ.out
 clear hB hZ
 have q1 : ¬ (most : Int) < 0 := by omega
 have q2 : ¬ (200 : Int) < (most : Int) := by omega
 go_wp2_with fail
 generalize ((w.alloc (.cells #[.slice A n c] 30)).alloc (.cells #[.slice none 0 0, .slice none 0 0, .slice none 0 0] 33)) = W at *
 refine (HCK.out _ HB0.out).mono ?_
 rintro e w1 ⟨rfl, e8⟩
 have b0 := b0.below e8 b0.lt
 have b1 := b1.below e8 b1.lt
 have HB1 := lh (HB0.out.trans (e8.mono HB0.out.size))
 clear x0 e8 HB0 HCK
 have x0 := b0.c1
 go_wp2_with fail
 refine (HRF.out _ HB1.out).mono ?_
 rintro e w2 ⟨rfl, e9⟩
 have b0 := b0.below e9 b0.lt
 have b1 := b1.below e9 b1.lt
 have HB2 := lh (HB1.out.trans (e9.mono HB1.out.size))
 have HS2 : Hid (w.heap.size + 2 <= w2.heap.size) := lh (by have := b1.lt; omega)
 clear x0 e9 HB1 HRF HZ
 go_upto_region 6 with fail
 have hm2 := H.out.next HB2.out
 have HDP : Hid (∀ w', Below w2.heap.size w2 w' -> Calls Tryz.prog 58 #[.slice A n c] w' fun e w'' => ∃ v, e = .returned v /\ (∃ A c, v = .slice A n c) /\ DeepAt w2 n f v w'' /\ Below w'.heap.size w' w'') := lh fun w' hb => by
  refine (Jfl A n c wd B f w' (hm2.next hb).mx0.hf (hm2.next hb).mx0.hB (by omega) H.out.hwd1 (by have := H.out.mx0.hwd; omega) H.out.mx0.hlf).mono ?_
  rintro e w3 ⟨gd, rfl, aC, ho, bE⟩
  exact ⟨_, rfl, ⟨_, _, rfl⟩, ⟨gd, rfl, nt hb.size aC, OwnSA.low ho hb.size⟩, bE⟩
 have u4 := fun w' (hb : Below w2.heap.size w2 w') => Jbh A A' n c n' c' wd B m f x w' (hm2.next hb).mx0
 obtain ⟨q, hq⟩ : ∃ q, Zk f x = q := ⟨_, rfl⟩
 rw [hq] at u4
 unfold qV at u4
 have HCO := lh u4
 have HQ := lh hq
 have b0 := At1.mk' b0.c1
 clear u4 hq hm2
 go_cut [9] (fun v wc => ∃ g9 gd kv, v = .pointer (some ⟨g9, 0, none⟩) /\ FT w n g9 gd kv (Qj wd x f 0) (Ze wd x f 0) wc)
 case first =>
  obtain ⟨dX, dY⟩ := b0.c2; have c0 := b0.drew; have bV := c0.lt; have c1 := b1.drew; have hc := Ji w2; obtain ⟨x7, x8⟩ := c0.c2
  go_region_held3 (fun w' => w'.cell? ⟨w.heap.size, 0, none⟩ = some (.slice A n c)) (go_keep) (first | (go_at_call 58; (first | with_reducible refine (HDP.out _ hc).mono ?_ | with_reducible refine (HDP.out _ (Ja hc (Jb _ _))).mono ?_ | with_reducible refine (HDP.out _ (Ja hc (Jj _ _ _))).mono ?_ | with_reducible refine (HDP.out _ (Ja (Jb _ _) (Ji _))).mono ?_); rintro e w3 ⟨v1, rfl, ⟨A1, c1c, dZ⟩, p9, j6⟩; subst dZ; (try clear x7 x8); (first | have c0 := c0.ya j6 | have c0 := c0.yb j6 | have c0 := c0.yc j6 | have c0 := ((b0.alloc (.cells #[.slice none 0 0, .slice none 0 0, .slice none 0 0] 33)).drew).ya j6); obtain ⟨x7, x8⟩ := c0.c2; (try clear bV); have bV := c0.lt; (first | have c1 := c1.ya j6 | have c1 := c1.yb j6 | have c1 := c1.yc j6 | have c1 := ((b1.alloc (.cells #[.slice none 0 0, .slice none 0 0, .slice none 0 0] 33)).drew).ya j6); (try have cR := cR.yy j6); (try (first | (have cR := Blk.below (w := (w2.alloc (.cells #[.slice none 0 0, .slice none 0 0, .slice none 0 0] 33)).drew) (Blk.new w2 33 #[.slice none 0 0, .slice none 0 0, .slice none 0 0]) j6 (Blk.new w2 33 #[.slice none 0 0, .slice none 0 0, .slice none 0 0]).lt; have cRg := Nat.le_refl w2.heap.size) | (have cR := (Blk.new _ 33 #[.slice none 0 0, .slice none 0 0, .slice none 0 0]).below j6 (Blk.new _ 33 #[.slice none 0 0, .slice none 0 0, .slice none 0 0]).lt; have cRg := hc.size) | (have cR := (Blk.new2 _ _ 33 #[.slice none 0 0, .slice none 0 0, .slice none 0 0]).below j6 (Blk.new2 _ _ 33 #[.slice none 0 0, .slice none 0 0, .slice none 0 0]).lt; have cRg := Nat.le_succ_of_le hc.size) | (have cR := ((Blk.new _ 33 #[.slice none 0 0, .slice none 0 0, .slice none 0 0]).alloc _).below j6 ((Blk.new _ 33 #[.slice none 0 0, .slice none 0 0, .slice none 0 0]).alloc _).lt; have cRg := hc.size))); (try (have cRn := Jl2 HS2.out cRg; have cRm := Jl1 HS2.out cRg)); (try (first | have kS := OwnW.next kS j6 | have kS := OwnW.next (OwnW.alloc kS _) j6 | have kS := OwnW.next (OwnW.alloc (OwnW.alloc kS _) _) j6)); (try (first | have kS := OwnW.next (Ks _ q) j6 | have kS := OwnW.next (OwnW.alloc (Ks _ q) _) j6)); (try clear aD aE aF aG aH aI aJ aK aL); (try obtain ⟨aD, aE, aF, aG, aH, aI, aJ, aK, aL⟩ := cR.f3); (first | have hc := Ja hc j6 | have hc := Ja (Ja hc (Jb _ _)) j6 | have hc := Ja (Ja hc (Jj _ _ _)) j6 | have hc := Ja (Ja (Jb _ _) (Ji _)) j6)) | (go_at_call 59; (first | with_reducible refine (HCO.out _ hc).mono ?_ | with_reducible refine (HCO.out _ (Ja hc (Jb _ _))).mono ?_ | with_reducible refine (HCO.out _ (Ja hc (Jj _ _ _))).mono ?_ | with_reducible refine (HCO.out _ (Ja (Jb _ _) (Ji _))).mono ?_); rintro e w4 ⟨rfl, j0⟩; (try clear x7 x8); (first | have c0 := c0.ya j0 | have c0 := c0.yb j0 | have c0 := c0.yc j0 | have c0 := ((b0.alloc (.cells #[.slice none 0 0, .slice none 0 0, .slice none 0 0] 33)).drew).ya j0); obtain ⟨x7, x8⟩ := c0.c2; (try clear bV); have bV := c0.lt; (first | have c1 := c1.ya j0 | have c1 := c1.yb j0 | have c1 := c1.yc j0 | have c1 := ((b1.alloc (.cells #[.slice none 0 0, .slice none 0 0, .slice none 0 0] 33)).drew).ya j0); (try have cR := cR.yy j0); (try (first | (have cR := Blk.below (w := (w2.alloc (.cells #[.slice none 0 0, .slice none 0 0, .slice none 0 0] 33)).drew) (Blk.new w2 33 #[.slice none 0 0, .slice none 0 0, .slice none 0 0]) j0 (Blk.new w2 33 #[.slice none 0 0, .slice none 0 0, .slice none 0 0]).lt; have cRg := Nat.le_refl w2.heap.size) | (have cR := (Blk.new _ 33 #[.slice none 0 0, .slice none 0 0, .slice none 0 0]).below j0 (Blk.new _ 33 #[.slice none 0 0, .slice none 0 0, .slice none 0 0]).lt; have cRg := hc.size) | (have cR := (Blk.new2 _ _ 33 #[.slice none 0 0, .slice none 0 0, .slice none 0 0]).below j0 (Blk.new2 _ _ 33 #[.slice none 0 0, .slice none 0 0, .slice none 0 0]).lt; have cRg := Nat.le_succ_of_le hc.size) | (have cR := ((Blk.new _ 33 #[.slice none 0 0, .slice none 0 0, .slice none 0 0]).alloc _).below j0 ((Blk.new _ 33 #[.slice none 0 0, .slice none 0 0, .slice none 0 0]).alloc _).lt; have cRg := hc.size))); (try (have cRn := Jl2 HS2.out cRg; have cRm := Jl1 HS2.out cRg)); (try (first | have kS := OwnW.next kS j0 | have kS := OwnW.next (OwnW.alloc kS _) j0 | have kS := OwnW.next (OwnW.alloc (OwnW.alloc kS _) _) j0)); (try (first | have kS := OwnW.next (Ks _ q) j0 | have kS := OwnW.next (OwnW.alloc (Ks _ q) _) j0)); (try (first | have p9 := p9.next j0 | have p9 := (p9.next (Jb _ _)).next j0 | have p9 := (p9.next (Jj _ _ _)).next j0)); (try clear aD aE aF aG aH aI aJ aK aL); (try obtain ⟨aD, aE, aF, aG, aH, aI, aJ, aK, aL⟩ := cR.f3); (try clear cF cG cH cI cJ cK cL cM cN); (try obtain ⟨cF, cG, cH, cI, cJ, cK, cL, cM, cN⟩ := (cR.alloc (.cells #[.bool (decide (q.num < 0)), .int .u64 (lo q.num.natAbs : Int), .string (mo q.num.natAbs), .int .u64 (lo ((qden q)) : Int), .string (mo ((qden q)))] 65)).f3); (first | have hc := Ja hc j0 | have hc := Ja (Ja hc (Jb _ _)) j0 | have hc := Ja (Ja hc (Jj _ _ _)) j0 | have hc := Ja (Ja (Jb _ _) (Ji _)) j0)))
  all_goals
   go_wp2
   go_meet
   have hk : Ze wd x f 0 = [q] := by show [Zk f x] = [q]; rw [HQ.out]
   rw [hk]
   first
    | exact ft_1 HB2.out HS2.out c1 p9 hc
    | exact ft_2 HB2.out HS2.out c1 p9 hc
    | exact ft_3 HB2.out HS2.out c1 p9 hc cR cRg
 case rest =>
  obtain ⟨g9, gd0, kv0, rfl, j8⟩ := hcut
  rename World => w3
  have HFT := lh j8
  clear j8 b0 b1 HDP HCO HQ HS2 HB2
  go_upto_block 0 with fail
  go_cut [] (fun wc => ∃ gd kv, FT w n g9 gd kv (Qj wd x f most) (Ze wd x f most) wc)
  case first =>
   go_wp2_with fail
   go_loopw [41] (fun p wr => ∃ (i gd : Nat) (kv : Value), i <= most /\ p = .int .i64 (i : Int) /\ FT w n g9 gd kv (Qj wd x f i) (Ze wd x f i) wr) (fun p _ => most - (intOf p).toNat)
   case atStart => exact ⟨0, gd0, kv0, by omega, rfl, HFT.out⟩
   case round =>
    obtain ⟨i, gd, kv, hi, rfl, j8⟩ := hrel
    rename World => wr
    clear HFT
    by_cases eN : i < most
    ·have k1 : (i : Int) < (most : Int) := by omega
     have cZ := (H.out.next j8.bel)
     have hmx := cZ.with_ i gd j8.rows
     have cO := fun w' (hb : Below wr.heap.size wr w') => Jdz (some ⟨gd, 0, none⟩) A' n n n' c' wd wr.heap.size m (Qj wd x f i) x w' (hmx.next hb) H.out.hwd1
     obtain ⟨M, hM⟩ : ∃ M, Zq wd (Qj wd x f i) x = M := ⟨_, rfl⟩
     rw [hM] at cO
     have HST := lh (cO wr (Below.refl _ _))
     have HF := lh j8
     have HM := lh hM
     obtain ⟨x0, x1, x2⟩ := j8.run.c3
     clear cO j8 hM cZ hmx
     go_upto_region 9 with fail
     go_cut [10, 11] (fun v m wc => m = .int .i64 (M : Int) /\ ∃ g10 gd2, v = .pointer (some ⟨g10, 0, none⟩) /\ Blk wc g10 30 #[.slice (some ⟨gd2, 0, none⟩) n n] /\ wr.heap.size <= gd2 /\ OwnSA 31 OwnQ wr.heap.size wc.heap.size wc (.slice (some ⟨gd2, 0, none⟩) n n) (Xr wd (Qj wd x f i) x) /\ Below wr.heap.size wr wc /\ wr.heap.size <= g10)
     case first =>
      go_wp2_with fail
      refine HST.out.mono ?_
      rintro e w5 ⟨gd2, rfl, x9, aZ, o0⟩
      go_wp2
      go_meet
      exact ⟨rfl, w5.heap.size, gd2, rfl, Blk.new _ _ _, x9, (OwnSA.next (Qm (by decide)).toKind aZ (Jb _ _)).more (Jb _ _).size, Ja o0 (Jb _ _), o0.size⟩
     case rest =>
      obtain ⟨rfl, g10, gd2, rfl, b10, x9, aZ, o0, eA⟩ := hcut
      rename World => w5
      have j9 := HF.out.after o0
      have lk := OwnW.lt HF.out.costs
      clear x0 x1 x2 HST
      by_cases bW : M = 0
      ·subst bW
       have hs := Jcp HM.out most (by omega)
       have HF5 : Hid (FT w n g9 gd kv (Qj wd x f most) (Ze wd x f most) w5) := lh (by rw [hs.1, hs.2]; exact j9)
       clear j9 hs aZ o0 b10 HF HM lk
       go_wp2
       go_meet
       exact ⟨gd, kv, HF5.out⟩
      have q1 : ((M : Int) == 0) = false := by simp; omega
      have q2 : ¬ (M : Int) = 0 := by omega
      have q3 : ((M : Int) != 0) = true := by simp; omega
      have hC : Qj wd x f (i + 1) = Xr wd (Qj wd x f i) x := if_neg (by rw [HM.out]; exact bW)
      have hK : Ze wd x f (i + 1) = Ze wd x f i ++ [Zk (Qj wd x f (i + 1)) x] := by rw [hC]; exact if_neg (by rw [HM.out]; exact bW)
      rw [<- hC] at aZ
      have lwr := HF.out.bel.size
      have hsm := j9.setModel lwr (nt lwr x9) aZ
      have HSM := lh hsm
      have y0 := b10.c1
      obtain ⟨r0, r1, r2, r3, r4, r5, r6, r7, r8⟩ := j9.run.f3
      have n10 : g10 ≠ g9 := fun e => by have := HF.out.run.lt; omega
      have HB10 := lh b10
      have HK := lh hK
      have lf5 := o0.size
      clear j9 hsm aZ o0 b10 hC hK HM bW
      go_upto_region 11 with fail
      go_cut [] (fun wc => FT w n g9 gd2 kv (Qj wd x f (i + 1)) (Ze wd x f i) wc /\ OwnSA 31 OwnQ wr.heap.size wc.heap.size wc (.slice (some ⟨gd2, 0, none⟩) n n) (Qj wd x f (i + 1)) /\ Blk wc g10 30 #[.slice (some ⟨gd2, 0, none⟩) n n])
      case first =>
       go_wp2
       go_meet
       exact ⟨HSM.out.1, HSM.out.2, HB10.out.far (p := ⟨g9, 0, none⟩) n10 _⟩
      case rest =>
       obtain ⟨t8, dA, b10⟩ := hcut
       rename World => w6
       clear y0 r0 r1 r2 r3 r4 r5 r6 r7 r8 HSM HB10
       obtain ⟨Ak, ck, hv⟩ := OwnQ.form3m t8.costs
       subst hv
       obtain ⟨gk, rfl, -⟩ := OwnQ.addr' t8.costs (Jd9 i)
       obtain ⟨nk, bA⟩ : ∃ nk, (Ze wd x f i).length = nk := ⟨_, rfl⟩
       rw [bA] at t8 lk HF
       have cC := lk gk rfl
       have bF := (H.out.next t8.bel).with_ (i + 1) gd2 t8.rows
       have u4 := fun w' (hb : Below w6.heap.size w6 w') => Jbh (some ⟨gd2, 0, none⟩) A' n n n' c' wd w6.heap.size m (Qj wd x f (i + 1)) x w' (bF.next hb)
       obtain ⟨q, hq⟩ : ∃ q, Zk (Qj wd x f (i + 1)) x = q := ⟨_, rfl⟩
       rw [hq] at u4 HK
       unfold qV at u4
       have HCO := lh u4
       have eB : nk <= i + 1 := by rw [<- bA]; exact Jag i
       obtain ⟨nk2, bG⟩ : ∃ nk2, (Ze wd x f i ++ [q]).length = nk2 := ⟨_, rfl⟩
       have HN2 := lh bG
       have HLK : Hid ((Ze wd x f i).length <= 1000000) := lh (by omega)
       have b9 := t8.run
       have b10 := At1.mk' b10.c1
       have HF6 := lh t8
       have HO6 := lh dA
       have n9 : g9 ≠ gk := fun e => Own.ne_blk t8.costs t8.run (by decide) (by rw [e]; rfl)
       clear t8 dA bF u4 hq bA bG eB lk HF
       go_upto_region 12 with fail
       obtain ⟨eC, eD, eE⟩ := b9.c3; have c9 := b9.drew; have dB := c9.lt; obtain ⟨dC, dD⟩ := b10.c2; have c10 := b10.drew; have bH := c10.lt; have hc := Ji w6; go_region_law (first | (go_simp; go_at_call 59; (with_reducible refine (HCO.out _ hc).mono ?_); rintro e w1 ⟨rfl, aA⟩; (try clear bI bJ bK); obtain ⟨c9, bI, bJ, bK⟩ := c9.zc3 aA; (try clear dB); have dB := c9.lt; (try clear bL bM); obtain ⟨c10, bL, bM⟩ := c10.zc2 aA; (try clear bH); have bH := c10.lt; have hc := Ja hc aA) | (refine Jn8 rfl (.tmp 55) (.tmp 59) rfl w1 _ (Ze wd x f i) q (by simp [Act.eval, Act.put]) (OwnW.next HF6.out.costs hc) (by simp [Act.eval, Act.put]) HLK.out ?_; intro v7 w7 cP cQ; obtain ⟨A7, ck7, eF⟩ := OwnQ.formNm cP HN2.out; subst eF; have eG := Exc.grow cQ; have HO7 := lh cP; have HG7 := lh cQ; clear bI bJ bK; obtain ⟨r0, r1, r2, r3, r4, r5, r6, r7, r8⟩ := (c9.exc eG n9).f3; clear cP cQ))
       all_goals
        go_wp2
        have hz := (HF6.out.after hc).setCosts ((OwnSA.next (Qm (by decide)).toKind HO6.out hc).more hc.size) cC x9 lwr HG7.out HO7.out
        rw [<- HK.out] at hz
        exact ⟨⟨i + 1, gd2, _, by omega, by go_num, hz⟩, by simp [intOf]; omega⟩
    obtain rfl : i = most := by omega
    have k1 : ¬ (i : Int) < (i : Int) := by omega
    have HFT := lh j8
    clear j8
    go_wp2
    go_meet
    exact ⟨gd, kv, HFT.out⟩
  case rest =>
   obtain ⟨gd, kv, j8⟩ := hcut
   rename World => w4
   clear HFT
   have hmx := (H.out.next j8.bel).with_ most gd j8.rows
   have HG := lh (Vk (some ⟨gd, 0, none⟩) A' n n n' c' wd w4.heap.size m (Qj wd x f most) x w4 hmx)
   have HF := lh j8
   obtain ⟨x0, x1, x2⟩ := j8.run.c3
   obtain ⟨Ak, ck, hv⟩ := OwnQ.form3m j8.costs
   obtain ⟨nk, bA⟩ : ∃ nk, (Ze wd x f most).length = nk := ⟨_, rfl⟩
   rw [bA] at hv
   subst hv
   clear j8 hmx bA
   go_upto_region 14 with fail
   go_cut [] (fun wc => ∃ gg, Blk wc g9 33 #[.slice (some ⟨gd, 0, none⟩) n n, .slice (some ⟨gg, 0, none⟩) n' n', .slice Ak nk ck] /\ Blk wc (w.heap.size + 1) 33 #[.slice none 0 0, .slice none 0 0, .slice none 0 0] /\
    OwnSA 31 OwnQ w.heap.size wc.heap.size wc (.slice (some ⟨gd, 0, none⟩) n n) (Qj wd x f most) /\ OwnQ wc (.slice Ak nk ck) (Ze wd x f most) /\ Own wc 3 iv (.slice (some ⟨gg, 0, none⟩) n' n') (Jl (Qj wd x f most) x) /\ Below w.heap.size w wc)
   case first =>
    go_wp2_with fail
    refine HG.out.mono ?_
    rintro e w5 ⟨gg, rfl, eO, dE, o0⟩
    have j9 := HF.out.after o0
    have n9 : g9 ≠ gg := by have := HF.out.run.lt; omega
    have hy : Exc g9 w5 (w5.setCell ⟨g9, 1, none⟩ (.slice (some ⟨gg, 0, none⟩) n' n')) := (Exc.refl _ _).set_ _ _
    have hs : (w5.setCell ⟨g9, 1, none⟩ (.slice (some ⟨gg, 0, none⟩) n' n')).heap.size = w5.heap.size := by simp
    have h9 := j9.h9
    have HZ : Hid (Blk (w5.setCell ⟨g9, 1, none⟩ (.slice (some ⟨gg, 0, none⟩) n' n')) g9 33 #[.slice (some ⟨gd, 0, none⟩) n n, .slice (some ⟨gg, 0, none⟩) n' n', .slice Ak nk ck] /\ Blk (w5.setCell ⟨g9, 1, none⟩ (.slice (some ⟨gg, 0, none⟩) n' n')) (w.heap.size + 1) 33 #[.slice none 0 0, .slice none 0 0, .slice none 0 0] /\
      OwnSA 31 OwnQ w.heap.size (w5.setCell ⟨g9, 1, none⟩ (.slice (some ⟨gg, 0, none⟩) n' n')).heap.size (w5.setCell ⟨g9, 1, none⟩ (.slice (some ⟨gg, 0, none⟩) n' n')) (.slice (some ⟨gd, 0, none⟩) n n) (Qj wd x f most) /\ OwnQ (w5.setCell ⟨g9, 1, none⟩ (.slice (some ⟨gg, 0, none⟩) n' n')) (.slice Ak nk ck) (Ze wd x f most) /\ Own (w5.setCell ⟨g9, 1, none⟩ (.slice (some ⟨gg, 0, none⟩) n' n')) 3 iv (.slice (some ⟨gg, 0, none⟩) n' n') (Jl (Qj wd x f most) x) /\ Below w.heap.size w (w5.setCell ⟨g9, 1, none⟩ (.slice (some ⟨gg, 0, none⟩) n' n'))) :=
     lh ⟨by simpa using j9.run.set_ 1 (.slice (some ⟨gg, 0, none⟩) n' n'), j9.res.exc hy (by omega), by rw [hs]; exact OwnSA.excB j9.rows hy j9.run (by decide) (by decide), OwnQ.excm j9.costs hy (Own.ne_blk j9.costs j9.run (by decide)), dE.exc hy (fun e => n9 (Yv e).symm), j9.bel.setCell (show w.heap.size <= g9 by omega) _⟩
    obtain ⟨r0, r1, r2, r3, r4, r5, r6, r7, r8⟩ := j9.run.f3
    clear j9 dE o0 hy hs
    go_wp2
    go_meet
    exact ⟨gg, HZ.out⟩
   case rest =>
    obtain ⟨gg, h1, h2, h3, h4, h5, h6⟩ := hcut
    rename World => w6
    have hd := HF.out.hd
    have h9 := HF.out.h9
    clear HG HF x0 x1 x2
    obtain ⟨x0, x1, x2⟩ := h1.c3
    obtain ⟨s0, s1, s2, s3, s4, s5, s6, s7, s8⟩ := h2.f3
    have H3 := lh h3
    have H4 := lh h4
    have H5 := lh h5
    have H6 := lh h6
    have H2 := lh h2
    clear h1 h2 h3 h4 h5 h6
    go_wp2
    refine bodyPost_ret (v := .tuple #[.agg #[.slice (some ⟨gd, 0, none⟩) n n, .slice (some ⟨gg, 0, none⟩) n' n', .slice Ak nk ck], .int .i64 0]) (by simp [results, Tryz.results15, go_sem, s6, s7, s8]) rfl ?_
    have hy : Exc (w.heap.size + 1) w6 (((w6.setCell ⟨w.heap.size + 1, 0, none⟩ (.slice (some ⟨gd, 0, none⟩) n n)).setCell ⟨w.heap.size + 1, 1, none⟩ (.slice (some ⟨gg, 0, none⟩) n' n')).setCell ⟨w.heap.size + 1, 2, none⟩ (.slice Ak nk ck)) := (((Exc.refl _ _).set_ _ _).set_ _ _).set_ _ _
    have hs : (((w6.setCell ⟨w.heap.size + 1, 0, none⟩ (.slice (some ⟨gd, 0, none⟩) n n)).setCell ⟨w.heap.size + 1, 1, none⟩ (.slice (some ⟨gg, 0, none⟩) n' n')).setCell ⟨w.heap.size + 1, 2, none⟩ (.slice Ak nk ck)).heap.size = w6.heap.size := by simp
    refine ⟨gd, gg, _, rfl, hd, ?_, OwnQ.excm H4.out hy (Own.ne_blk H4.out H2.out (by decide)), H5.out.exc hy (fun e => ?_), Jeg H6.out (show w.heap.size <= w.heap.size + 1 by omega) _ _ _⟩
    ·unfold Jc6
     rw [hs]
     exact OwnSA.excB H3.out hy H2.out (by decide) (by decide)
    obtain ⟨cs', fr', k3⟩ := Own.blk H5.out e
    have k4 := H2.out
    rw [Blk, k3] at k4
    injection k4 with k4
    injection k4 with _ k4 _
    exact absurd k4 (by decide)
theorem Jhw (w : World) (r : RC) (q : Rat) (hq : IsQ w w.heap.size r.v q) : OwnR (w.alloc (.cells #[.bool r.g, .slice r.A r.l r.c, .slice r.A' r.l' r.c'] 56)) (.slice (some ⟨w.heap.size, 0, none⟩) 1 1) [q] := by
 refine ⟨[r], ⟨by simp [RC.len], .inr ⟨w.heap.size, 1, #[.bool r.g, .slice r.A r.l r.c, .slice r.A' r.l' r.c'], rfl, Nat.zero_le _, heap_alloc_new w _, Nat.le_refl _, by unfold maxLen; omega, by simp, by simp [RC.cs]⟩⟩, rfl, fun i r' q' h1 h2 => ?_⟩
 match i, h1, h2 with
 | 0, h1, h2 =>
  obtain rfl := Option.some.inj h1
  obtain rfl := Option.some.inj h2
  exact (hq.next zd (Jb _ _)).more (Jb _ _).size
 | n + 1, h1, h2 => simp at h1
def Ja8 (zs : List Int) : List (List Rat) := zs.map fun (z : Int) => [(z : Rat)]
theorem Jh7 (A : Option Addr) (n c B : Nat) (zs : List Int) (w : World) (h : ReadsZ w B A n zs) (hB : B <= w.heap.size) (hn : n <= 1000) :
  Calls Tryz.prog 51 #[.slice A n c] w fun e w' => ∃ v, e = .returned v /\ Zs w' v (Ja8 zs) /\ (∀ b, v.ownBlock = some b -> w.heap.size <= b) /\ Below w.heap.size w w' := by
 have H := lh h
 have HLN := lh h.len
 clear h
 go_enter Tryz.func51, Tryz.ntmps51
 go_wp2_with fail
 go_loopw [3, 4] (fun v i wr => ∃ k : Nat, k <= n /\ i = .int .i64 (k : Int) /\ Zs wr v (Ja8 (zs.take k)) /\ (∀ b, v.ownBlock = some b -> w.heap.size <= b) /\ Below w.heap.size w wr) (fun _ i _ => n - (intOf i).toNat)
 case atStart => exact ⟨0, by omega, rfl, OwnS.nil _ _ _, (fun b h => by cases h), Below.refl _ _⟩
 case round =>
  obtain ⟨k, hk, rfl, j7, bX, q8⟩ := hrel
  rename World => wr
  by_cases eH : k < n
  ·have k1 : (k : Int) < (n : Int) := by omega
   obtain ⟨ad, z, rfl, hz, dF, bS, bT⟩ := (H.out.below (q8.mono hB)).cell eH
   have dG : Ja8 (zs.take (k + 1)) = Ja8 (zs.take k) ++ [[(z : Rat)]] := by unfold Ja8; rw [List.take_add_one, hz]; simp
   have dH := Jb9 z wr bS bT
   generalize (z : Rat) = q at *
   have HOF := lh dH
   have HSC := lh dG
   have HO := lh j7
   have HFR := lh bX
   have HBL := lh q8
   have HLK := lh (show (Ja8 (zs.take k)).length <= 1000000 by unfold Ja8; rw [List.length_map, List.length_take]; omega)
   clear dG dH hz j7 bX q8 bS bT
   go_wp2_with fail
   refine HOF.out.mono ?_
   rintro e w1 ⟨v1, rfl, p9, aA⟩
   obtain ⟨g1, A1, l1, c1c, A1', l1', c1c', rfl⟩ := p9.shape
   have bN := OwnS.next Tryz.kindRR (OwnS.next Tryz.kindRR HO.out aA) (Jb w1 (.cells #[.bool g1, .slice A1 l1 c1c, .slice A1' l1' c1c'] 56))
   have cS := Jhw w1 ⟨g1, A1, l1, c1c, A1', l1', c1c'⟩ q p9
   have s9 := (HBL.out.trans (aA.mono HBL.out.size)).trans ((Jb w1 (.cells #[.bool g1, .slice A1 l1 c1c, .slice A1' l1' c1c'] 56)).mono (nt HBL.out.size aA.size))
   clear HOF aA
   go_wp2_with (at_builtin; refine Jns Tryz.kindRR Tryz.eltM rfl (.tmp 11) (.tmp 18) rfl (w1.alloc (.cells #[.bool g1, .slice A1 l1 c1c, .slice A1' l1' c1c'] 56)) _ (Ja8 (zs.take k)) (some ⟨w1.heap.size, 0, none⟩) 1 1 [q] rfl bN cS (by simp [Act.eval, Act.put]) HLK.out ?_; intro v' w2 aB bU)
   have bO := s9.trans (bU.below s9.size HFR.out)
   have cT := bU.fresh s9.size HFR.out
   rw [<- HSC.out] at aB
   exact ⟨⟨k + 1, by omega, by go_num, aB, cT, bO⟩, by simp [intOf]; omega⟩
  obtain rfl : k = n := by omega
  have k1 : ¬ (k : Int) < (k : Int) := by omega
  rw [List.take_of_length_le (by have := HLN.out; omega)] at j7
  have HO := lh j7
  have HFR := lh bX
  have HBL := lh q8
  clear j7 bX q8
  go_wp2
  go_ret
  exact ⟨_, rfl, HO.out, HFR.out, HBL.out⟩
theorem OwnQQ.excM {T t : TypeId} {x : Nat} {w w' : World} {v : Value} {cs : Array Value} {bl : List (List Rat)} (h : OwnS T OwnQ w v bl) (he : Exc x w w') (hb : Blk w x t cs) (hT : t ≠ T) (hQ : t ≠ 65) : OwnS T OwnQ w' v bl := by
 obtain ⟨rl, h1, h2, h3⟩ := h
 refine ⟨rl, h1.exc he (fun e => ?_), h2, fun i r b hr bC => OwnQ.excm (h3 i r b hr bC) he (Own.ne_blk (h3 i r b hr bC) hb hQ)⟩
 obtain ⟨cs', fr', k3⟩ := Own.blk h1 e
 rw [Blk, k3] at hb
 injection hb with hb
 injection hb with _ hb _
 exact hT hb.symm
theorem Jjb (A : Option Addr) (n c B : Nat) (xl : List (List Rat)) (w : World) (h : Zx w B A n xl) (dI : B <= w.heap.size) (hn : n <= 1000) (hl : ∀ l ∈ xl, l.length <= 1000000 /\ ∀ x ∈ l, QS 549755813888 x) (hT : Tab w) :
  Calls Tryz.prog 17 #[.slice A n c] w fun e w' => ∃ v, e = .returned (.agg #[v]) /\ OwnQQ w' v xl /\ (∀ b, v.ownBlock = some b -> w.heap.size <= b) /\ Below w.heap.size w w' := by
 have HI := lh (fun w' (hb : Below w.heap.size w w') => Jaf A n c B xl w' (h.below Xf (hb.mono dI)) (nt dI hb.size) hn hl (hT.next hb))
 clear h hl hT
 obtain ⟨b0, hB, hZ⟩ := bx1 w 30 #[.slice none 0 0]
 go_enter Tryz.func17, Tryz.ntmps17
 go_wp2_with fail
 generalize (w.alloc (.cells #[.slice none 0 0] 30)) = W at *
 refine (HI.out _ hB).mono ?_
 rintro e w1 ⟨v, rfl, ho, hf, e8⟩
 have b0 := b0.below e8 b0.lt
 have HO := lh ho
 have HF := lh hf
 have HB1 := lh (hB.trans (e8.mono hB.size))
 have HSZ := lh (show W.heap.size <= w1.heap.size from e8.size)
 obtain ⟨A1, c1, hv⟩ := OwnS.form ho
 subst hv
 obtain ⟨f0, f1, f2⟩ := b0.f1
 have aM := hB.size
 clear ho hf e8 hB
 go_wp2
 refine bodyPost_ret (v := .agg #[.slice A1 xl.length c1]) (by simp [results, Tryz.results17, go_sem, f2]) rfl ?_
 have hy : Exc w.heap.size w1 (w1.setCell ⟨w.heap.size, 0, none⟩ (.slice A1 xl.length c1)) := (Exc.refl _ _).set_ _ _
 refine ⟨_, rfl, ?_, fun b hb => nt aM (HF.out b hb), HB1.out.setCell (show w.heap.size <= w.heap.size from Nat.le_refl _) _⟩
 have hz := hZ.out
 exact OwnQQ.excM HO.out hy b0 (by decide) (by decide)
def knX : List (List Rat) := Ja8 [0, 1, 9, 10]
def knF : List (List Rat) := Ja8 [0, 1]
theorem Joh : Qj 1 knX knF 10 = [[Rat.divInt 1 2], [Rat.divInt 19 2]] := by kernel_rfl
theorem Jnm : Ze 1 knX knF 10 = [145, Rat.divInt 158 9, 1] := by kernel_rfl
theorem Jmc : Jl [[Rat.divInt 1 2], [Rat.divInt 19 2]] knX = [0, 0, 1, 1] := by kernel_rfl
theorem Jmd : Xd knF = 0 := by kernel_rfl
theorem Jkz : Qt knF knX = 0 := by kernel_rfl
theorem Jhh {k : Nat} {f : List (List Rat)} (h : (f.all fun l => l.all fun y => decide (Je y.num.natAbs <= k) && decide (Je y.den <= k)) = true) : ∀ l ∈ f, ∀ y ∈ l, QS k y := by
 intro l hl y hy
 have h2 := List.all_eq_true.1 (List.all_eq_true.1 h l hl) y hy
 simp at h2
 exact ⟨h2.1, h2.2⟩
theorem Jjd : ∀ l ∈ knX, ∀ y ∈ l, QS 8 y := Jhh (by kernel_rfl)
theorem Jme : ∀ l ∈ knF, ∀ y ∈ l, QS 8 y := Jhh (by kernel_rfl)
theorem Jbs {f : List (List Rat)} (h : (f.all fun l => decide (l.length = 1)) = true) : ∀ l ∈ f, l.length = 1 := fun l hl => of_decide_eq_true (List.all_eq_true.1 h l hl)
theorem Jo4 (w : World) (zs : List Int) (hz : ∀ z ∈ zs, -9223372036854775808 <= z /\ z <= 9223372036854775807) (hl : zs.length <= 1000) : ReadsZ (w.alloc (.cells (zs.map zv).toArray 2)) (w.heap.size + 1) (some ⟨w.heap.size, 0, none⟩) zs.length zs := by
 have h := (Own.lit w 2 zv zs (by unfold maxLen; omega)).reads
 rw [World.size_alloc] at h
 exact ⟨h, hz⟩
theorem Ug (w : World) (hT : Tab w) : Calls Tryz.prog 20 #[] w (Ret (.bool true) w) := by
 have HL4 : Hid (∀ w, Calls Tryz.prog 51 #[.slice (some ⟨w.heap.size, 0, none⟩) 4 4] (w.alloc (.cells #[.int .i64 0, .int .i64 1, .int .i64 9, .int .i64 10] 2)) fun e w' => ∃ A c, e = .returned (.slice A 4 c) /\ Zs w' (.slice A 4 c) knX /\ Below w.heap.size w w') := lh fun w => by
  refine (Jh7 (some ⟨w.heap.size, 0, none⟩) 4 4 (w.heap.size + 1) [0, 1, 9, 10] _ (Jo4 w [0, 1, 9, 10] (by decide) (by decide)) (by simp) (by omega)).mono ?_
  rintro e w' ⟨v, rfl, ho, -, hb⟩
  obtain ⟨A, c, hv⟩ := OwnS.form ho
  have hv : v = .slice A 4 c := hv
  subst hv
  exact ⟨A, c, rfl, ho, Ja (Jb w _) hb⟩
 have HL2 : Hid (∀ w, Calls Tryz.prog 51 #[.slice (some ⟨w.heap.size, 0, none⟩) 2 2] (w.alloc (.cells #[.int .i64 0, .int .i64 1] 2)) fun e w' => ∃ A c, e = .returned (.slice A 2 c) /\ Zs w' (.slice A 2 c) knF /\ Below w.heap.size w w') := lh fun w => by
  refine (Jh7 (some ⟨w.heap.size, 0, none⟩) 2 2 (w.heap.size + 1) [0, 1] _ (Jo4 w [0, 1] (by decide) (by decide)) (by simp) (by omega)).mono ?_
  rintro e w' ⟨v, rfl, ho, -, hb⟩
  obtain ⟨A, c, hv⟩ := OwnS.form ho
  have hv : v = .slice A 2 c := hv
  subst hv
  exact ⟨A, c, rfl, ho, Ja (Jb w _) hb⟩
 have HIN : Hid (∀ (w : World) (A : Option Addr) (c : Nat), Zs w (.slice A 4 c) knX -> Tab w -> Calls Tryz.prog 16 #[.slice A 4 c] w fun e w' => ∃ A c, e = .returned (.slice A 4 c) /\ OwnQQ w' (.slice A 4 c) knX /\ Below w.heap.size w w') := lh fun w A c h hT => by
  refine (Jaf A 4 c w.heap.size knX w (OwnS.readS (fun h => OwnR.reads_ h) h) zd (by omega) (fun l hl => ⟨by rw [Jbs (by kernel_rfl) l hl]; omega, fun y hy => (Jjd l hl y hy).mono (by omega)⟩) hT).mono ?_
  rintro e w' ⟨v, rfl, ho, -, hb⟩
  obtain ⟨A, c, hv⟩ := OwnS.form ho
  have hv : v = .slice A 4 c := hv
  subst hv
  exact ⟨A, c, rfl, ho, hb⟩
 have HOF : Hid (∀ (w : World) (A : Option Addr) (c : Nat), Zs w (.slice A 2 c) knF -> Tab w -> Calls Tryz.prog 17 #[.slice A 2 c] w fun e w' => ∃ A c, e = .returned (.agg #[.slice A 2 c]) /\ OwnQQ w' (.slice A 2 c) knF /\ Below w.heap.size w w') := lh fun w A c h hT => by
  refine (Jjb A 2 c w.heap.size knF w (OwnS.readS (fun h => OwnR.reads_ h) h) zd (by omega) (fun l hl => ⟨by rw [Jbs (by kernel_rfl) l hl]; omega, fun y hy => (Jme l hl y hy).mono (by omega)⟩) hT).mono ?_
  rintro e w' ⟨v, rfl, ho, -, hb⟩
  obtain ⟨A, c, hv⟩ := OwnS.form ho
  have hv : v = .slice A 2 c := hv
  subst hv
  exact ⟨A, c, rfl, ho, hb⟩
 have HFIT : Hid (∀ (w : World) (A A' : Option Addr) (c c' : Nat), OwnQQ w (.slice A 2 c) knF -> OwnQQ w (.slice A' 4 c') knX -> Tab w -> Calls Tryz.prog 15 #[.slice A' 4 c', .agg #[.slice A 2 c], .int .i64 10] w fun e w' => ∃ gd gg gk ck ga ca, e = .returned (.tuple #[.agg #[.slice (some ⟨gd, 0, none⟩) 2 2, .slice (some ⟨gg, 0, none⟩) 4 4, .slice (some ⟨gk, 0, none⟩) 3 ck], .int .i64 0]) /\
   w'.cell? ⟨gd, 0, none⟩ = some (.slice (some ⟨ga, 0, none⟩) 1 ca) /\ gd < w'.heap.size /\ AtQ w' ga 0 (Rat.divInt 1 2) /\ AtQ w' gk (2 * 5) 1 /\ At1 w' gg 1 (.int .i64 0) /\ Below w.heap.size w w') := lh fun w A A' c c' hf hx hT => by
  have eI : MF w w.heap.size A A' 2 4 1 200 8 knF knX := ⟨⟨OwnS.readS (fun h => OwnQ.reads_ h) hf, OwnS.readS (fun h => OwnQ.reads_ h) hx, Nat.le_refl _, by omega, by omega, by omega, by omega, Jbs (by kernel_rfl), Jbs (by kernel_rfl), by omega, by omega, fun l hl y hy => (Jme l hl y hy).mono (by omega), fun l hl y hy => (Jjd l hl y hy).mono (by omega), hT⟩, by omega, by omega, Jjd, by omega⟩
  refine (Jfj A A' 2 c 4 c' 1 w.heap.size 200 8 10 knF knX w eI (by omega) Jmd Jkz).mono ?_
  rintro e w' ⟨gd, gg, kv, rfl, aC, hm, hk, hg, hb⟩
  rw [Joh] at hm hg
  rw [Jnm] at hk
  rw [Jmc] at hg
  obtain ⟨Ak, ck, hv⟩ := OwnQ.form3m hk
  have hv : kv = .slice Ak 3 ck := hv
  subst hv
  obtain ⟨gk, rfl, -⟩ := OwnQ.addr' hk (by decide)
  obtain ⟨A9, m9, cp9, dJ, dK, -, -⟩ := OwnSA.at_ (Qm (T := 31) (by decide)) hm (i := 0) rfl
  obtain ⟨ga, rfl, cU⟩ := OwnQ.addr' dK (by decide)
  have cU : m9 = 1 := cU
  subst cU
  exact ⟨gd, gg, gk, ck, ga, cp9, rfl, dJ, Zv dJ, OwnQ.at_ dK (k := 0) rfl, OwnQ.at_ hk (k := 2) rfl, At1.mk' (Own.cellf hg (k := 1) rfl), hb⟩
 have y8 := fun w => Jdd 1 1 1 w (by omega) (by omega) (by omega) (by omega) (by omega) (by kernel_rfl) ⟨Nat.le_of_ble_eq_true (by kernel_rfl), Nat.le_of_ble_eq_true (by kernel_rfl)⟩
 have y9 := fun w => Jdd (Rat.divInt 1 2) 1 2 w (by omega) (by omega) (by omega) (by omega) (by omega) rfl ⟨Nat.le_of_ble_eq_true (by kernel_rfl), Nat.le_of_ble_eq_true (by kernel_rfl)⟩
 generalize hy1 : (1 : Rat) = y1 at y8 HFIT
 generalize hy2 : Rat.divInt 1 2 = y2 at y9 HFIT
 clear hy1 hy2
 unfold qV at y8 y9
 have HI1 := lh y8
 have HI2 := lh y9
 have HT := lh hT
 clear y8 y9 hT
 go_enter Tryz.func20, Tryz.ntmps20
 go_wp2_with fail
 refine (HL4.out w).mono ?_
 rintro e w1 ⟨A1, c1, rfl, dL, e8⟩
 have HO1 := lh dL
 have HB1 := lh e8
 clear dL e8
 go_wp2_with fail
 refine (HIN.out w1 A1 c1 HO1.out (HT.out.next HB1.out)).mono ?_
 rintro e w2 ⟨A2, c2, rfl, dM, e9⟩
 have HO2 := lh dM
 have HB2 := lh (Ja HB1.out e9)
 clear dM e9 HO1 HB1
 go_wp2_with fail
 refine (HL2.out w2).mono ?_
 rintro e w3 ⟨A3, c3, rfl, dN, bE⟩
 have HO3 := lh dN
 have HO2 := lh (OwnS.next Tryz.kindQQ HO2.out bE)
 have HB3 := lh (Ja HB2.out bE)
 clear dN bE HB2
 go_wp2_with fail
 refine (HOF.out w3 A3 c3 HO3.out (HT.out.next HB3.out)).mono ?_
 rintro e w4 ⟨A4, c4, rfl, dO, cV⟩
 have HO4 := lh dO
 have HO2 := lh (OwnS.next Tryz.kindQQ HO2.out cV)
 have HB4 := lh (Ja HB3.out cV)
 clear dO cV HB3 HO3
 go_wp2_with fail
 refine (HFIT.out w4 A4 A2 c4 c2 HO4.out HO2.out (HT.out.next HB4.out)).mono ?_
 rintro e w5 ⟨gd, gg, gk, ck, ga, ca, rfl, hc, hl, h1, h2, h3, o0⟩
 have ha := Jb w5 (.cells #[.slice (some ⟨gd, 0, none⟩) 2 2, .slice (some ⟨gg, 0, none⟩) 4 4, .slice (some ⟨gk, 0, none⟩) 3 ck] 33)
 have b0 := Blk.new w5 33 #[.slice (some ⟨gd, 0, none⟩) 2 2, .slice (some ⟨gg, 0, none⟩) 4 4, .slice (some ⟨gk, 0, none⟩) 3 ck]
 have HB5 := lh ((Ja HB4.out o0).trans (ha.mono (Ja HB4.out o0).size))
 have HSZ := lh (Nat.le_refl w5.heap.size)
 have hd := At1.mk' hc
 have hd := hd.alloc (.cells #[.slice (some ⟨gd, 0, none⟩) 2 2, .slice (some ⟨gg, 0, none⟩) 4 4, .slice (some ⟨gk, 0, none⟩) 3 ck] 33)
 have h1 := h1.alloc (.cells #[.slice (some ⟨gd, 0, none⟩) 2 2, .slice (some ⟨gg, 0, none⟩) 4 4, .slice (some ⟨gk, 0, none⟩) 3 ck] 33)
 have h2 := h2.alloc (.cells #[.slice (some ⟨gd, 0, none⟩) 2 2, .slice (some ⟨gg, 0, none⟩) 4 4, .slice (some ⟨gk, 0, none⟩) 3 ck] 33)
 have h3 := h3.alloc (.cells #[.slice (some ⟨gd, 0, none⟩) 2 2, .slice (some ⟨gg, 0, none⟩) 4 4, .slice (some ⟨gk, 0, none⟩) 3 ck] 33)
 obtain ⟨t0, t1, t2⟩ := b0.c3
 obtain ⟨r0, r1, r2, r3, r4⟩ := h2.c5
 simp only [Nat.reduceMul, Nat.reduceAdd] at r0 r1 r2 r3 r4
 have s0 := h3.c2.1
 have s1 := hd.c2.1
 clear hc hl o0 ha HO4 HO2 HB4 HFIT HOF HIN HL4 HL2 HT
 generalize hW : w5.alloc (.cells #[.slice (some ⟨gd, 0, none⟩) 2 2, .slice (some ⟨gg, 0, none⟩) 4 4, .slice (some ⟨gk, 0, none⟩) 3 ck] 33) = W at b0 HB5 hd h1 h2 h3 t0 t1 t2 r0 r1 r2 r3 r4 s0 s1
 have B0 := lh b0
 go_upto_region 2 with fail
 clear hW b0
 go_wp2_with fail
 refine (HI1.out _).mono ?_
 rintro e w6 ⟨rfl, bP⟩
 have hd := hd.below bP hd.lt
 have h1 := h1.below bP h1.lt
 have b0 := B0.out.below bP B0.out.lt
 have HB6 := lh (Ja HB5.out bP)
 clear t0 t1 t2 r0 r1 r2 r3 r4 s0 s1 bP h2 h3
 obtain ⟨t0, t1, t2⟩ := b0.c3
 obtain ⟨r0, r1, r2, r3, r4⟩ := h1.c5
 simp only [Nat.reduceMul, Nat.reduceAdd, Nat.zero_add] at r0 r1 r2 r3 r4
 have s1 := hd.c2.1
 go_wp2_with fail
 refine (HI2.out _).mono ?_
 rintro e w7 ⟨rfl, dP⟩
 have HB7 := lh (Ja HB6.out dP)
 clear t0 t1 t2 r0 r1 r2 r3 r4 s1 dP
 go_wp2
 go_ret
 exact ⟨rfl, HB7.out⟩
theorem Ji9 (f : List (List Rat)) (x : List Rat) : Zi f x 1 = 0 := by
 show (if _ then 0 else Zi f x 0) = 0
 split <;> rfl
theorem Jcv (A A' : Option Addr) (n c wd c' B m : Nat) (f : List (List Rat)) (x : List Rat) (w : World) (h : Zx w B A n f) (h' : ReadsR w B A' wd x) (hB : B <= w.heap.size) (hn : 1 <= n) (hn2 : n <= 300) (hwd : wd <= 20) (hl : ∀ l ∈ f, l.length = wd) (hm : 1 <= m) (hm2 : m <= 1000000) (hs : ∀ l ∈ f, ∀ y ∈ l, QS m y) (hx : ∀ y ∈ x, QS m y) :
  Calls Tryz.prog 41 #[.slice A n c, .slice A' wd c'] w fun e w' => ∃ V, e = .returned (.tuple #[.int .i64 (Qk f x : Int), V]) /\ IsQ w' w'.heap.size V (Xs f x) /\ Below w.heap.size w w' := by
 have aM := h.len
 have HFAR : Hid (∀ (w' : World) (A1 : Option Addr) (c1 : Nat) (l : List Rat), Below w.heap.size w w' -> ReadsR w B A1 wd l -> l ∈ f -> Calls Tryz.prog 90 #[.slice A1 wd c1, .slice A' wd c'] w' (Jak (Xk l x) w')) :=
  lh fun w' A1 c1 l hb hr hlf => Jnf A1 A' wd c1 c' B m l x w' (hr.below (hb.mono hB)) (h'.below (hb.mono hB)) (nt hB hb.size) (by omega) hm (by omega) (hs l hlf) hx
 have HSZ : Hid (∀ l ∈ f, QS 200000000 (Xk l x)) := lh fun l hlf => by
  have := Yq (hs l hlf) hx hm l.length
  refine QS.mono (show QS _ (Xk l x) from this) ?_
  have h1 := hl l hlf
  have := Nat.mul_le_mul (show l.length <= 20 by omega) (show 4 * m + 3 <= 4000003 by omega)
  omega
 have H := lh h
 have HL := lh hl
 have HBB := lh hB
 clear h h' hs hx hl hB
 obtain ⟨b0, hB, hZ⟩ := bx1 w 56 #[.bool false, .slice none 0 0, .slice none 0 0]
 go_enter Tryz.func41, Tryz.ntmps41
 go_upto_region 1 with fail
 generalize (w.alloc (.cells #[.bool false, .slice none 0 0, .slice none 0 0] 56)) = W at *
 have HI := lh (And.intro b0 hB)
 clear b0 hB hZ
 go_wp2_with fail
 go_loopw [6, 7] (fun v p wr => ∃ (k i : Nat), 1 <= k /\ k <= n /\ i < n /\ v = .int .i64 (i : Int) /\ p = .int .i64 (k : Int) /\ Hid (Zi f x k = i) /\ Blk wr w.heap.size 56 #[.bool false, .slice none 0 0, .slice none 0 0] /\ Below w.heap.size w wr) (fun _ p _ => n - (intOf p).toNat)
 case atStart => exact ⟨1, 0, by omega, hn, by omega, rfl, rfl, lh (Ji9 f x), HI.out.1, HI.out.2⟩
 case round =>
  obtain ⟨k, i, iA, hk, hi, rfl, rfl, cO, c0, eV⟩ := hrel
  clear HI
  rename World => wr
  have iB : B <= wr.heap.size := nt HBB.out eV.size
  by_cases eH : k < n
  ·have k1 : (k : Int) < (n : Int) := by omega
   have k2 : (i : Int) < (n : Int) := by omega
   obtain ⟨l, eB⟩ : ∃ l, f[k]? = some l := ⟨_, List.getElem?_eq_getElem (by omega)⟩
   obtain ⟨l', fF⟩ : ∃ l, f[i]? = some l := ⟨_, List.getElem?_eq_getElem (by omega)⟩
   obtain ⟨ad, A1, m1, d1, rfl, fY, bR, eZ⟩ := H.out.at_ eB
   obtain ⟨ad2, A2, m2, d2, gU, eW, fB, fC⟩ := H.out.at_ fF
   obtain rfl := Option.some.inj gU
   obtain rfl : m1 = wd := by rw [<- eZ.len]; exact HL.out l (List.mem_of_getElem? eB)
   obtain rfl : m2 = m1 := by rw [<- fC.len]; exact HL.out l' (List.mem_of_getElem? fF)
   have fA := Xq (eV.mono HBB.out) bR fY
   have fD := Xq (eV.mono HBB.out) fB eW
   obtain ⟨g1, o1, gV, -⟩ := Xy fA
   obtain ⟨g2, o2, gW, -⟩ := Xy fD
   rw [gV] at fA
   rw [gW] at fD
   have b1 := At1.mk' fA
   have b2 := At1.mk' fD
   have eJ := fun w' (hb : Below wr.heap.size wr w') => HFAR.out w' A1 d1 l (eV.trans (hb.mono eV.size)) eZ (List.mem_of_getElem? eB)
   have fP := fun w' (hb : Below wr.heap.size wr w') => HFAR.out w' A2 d2 l' (eV.trans (hb.mono eV.size)) fC (List.mem_of_getElem? fF)
   have s1 := HSZ.out l (List.mem_of_getElem? eB)
   have s2 := HSZ.out l' (List.mem_of_getElem? fF)
   have gD : f.getD k [] = l := by rw [List.getD_eq_getElem?_getD, eB]; rfl
   have hid : f.getD i [] = l' := by rw [List.getD_eq_getElem?_getD, fF]; rfl
   have fR : Zi f x (k + 1) = if Xk l x < Xk l' x then k else i := by
    show (if Xk (f.getD k []) x < Xk (f.getD (Zi f x k) []) x then k else Zi f x k) = _
    rw [cO.out, gD, hid]
   have fW := Jii (Xk l x) (Xk l' x)
   have fS := fun (w' : World) (V1 V2 : Value) (h1 : IsQ w' w'.heap.size V1 (Xk l x)) (h2 : IsQ w' w'.heap.size V2 (Xk l' x)) => Jhs (Xk l x) (Xk l' x) _ V1 V2 w' h1 h2 zd (s1.mono (by omega)) (s2.mono (by omega))
   generalize Xk l x = q1 at *
   generalize Xk l' x = q2 at *
   generalize Vq q1 q2 = r at *
   have HF1 := lh eJ
   have HF2 := lh fP
   have HCM := lh fS
   have HN := lh fR
   have HBW := lh eV
   have HC := lh c0
   clear eJ fP fS fR eV c0 gD hid s1 s2 eB fF eZ fC bR fB fA fD cO
   go_upto_region 5 with fail
   by_cases hr : r < 0
   ·have HN2 := lh (HN.out.trans (if_pos (fW.1 hr)))
    clear fW HN
    obtain ⟨aN, aO⟩ := b1.c2; have c1 := b1.drew; have eX := c1.lt; obtain ⟨fI, fJ⟩ := b2.c2; have c2 := b2.drew; have eU := c2.lt; have hc := Ji wr; go_region_held3 (fun w' => w'.cell? ⟨g1, o1, none⟩ = some (.slice A1 m2 d1) /\ w'.cell? ⟨g2, o2, none⟩ = some (.slice A2 m2 d2)) (go_keep) (first | (go_at_call 90; (with_reducible refine (HF1.out _ hc).mono ?_); rintro e w1 ⟨v1, rfl, p9, aA⟩; obtain ⟨g1, A1, l1, c1c, A1', l1', c1c', dZ⟩ := p9.shape; subst dZ; (try clear eR eS); obtain ⟨c1, eR, eS⟩ := c1.zc2 aA; (try clear eX); have eX := c1.lt; (try clear eP eQ); obtain ⟨c2, eP, eQ⟩ := c2.zc2 aA; (try clear eU); have eU := c2.lt; have hc := Ja hc aA) | (go_at_call 90; (with_reducible refine (HF2.out _ hc).mono ?_); rintro e w2 ⟨v2, rfl, fK, eY⟩; obtain ⟨g2, A2, l2, c2c, A2', l2', c2c', fH⟩ := fK.shape; subst fH; (try clear eR eS); obtain ⟨c1, eR, eS⟩ := c1.zc2 eY; (try clear eX); have eX := c1.lt; (try clear eP eQ); obtain ⟨c2, eP, eQ⟩ := c2.zc2 eY; (try clear eU); have eU := c2.lt; have p9 := (p9.next zd eY).more eY.size; have hc := Ja hc eY) | (go_at_call 89; (with_reducible refine (HCM.out _ _ _ p9 fK).mono ?_); rintro e w3 ⟨rfl, j6⟩; (try clear eR eS); obtain ⟨c1, eR, eS⟩ := c1.zc2 j6; (try clear eX); have eX := c1.lt; (try clear eP eQ); obtain ⟨c2, eP, eQ⟩ := c2.zc2 j6; (try clear eU); have eU := c2.lt; have p9 := (p9.next zd j6).more j6.size; have fK := (fK.next zd j6).more j6.size; have hc := Ja hc j6))
    all_goals
     go_wp2
     exact ⟨⟨k + 1, k, by omega, by omega, by omega, rfl, by go_num, HN2, HC.out.below hc HC.out.lt, HBW.out.trans (hc.mono HBW.out.size)⟩, by simp [intOf]; omega⟩
   have HN2 := lh (HN.out.trans (if_neg fun h => hr (fW.2 h)))
   clear fW HN
   obtain ⟨aN, aO⟩ := b1.c2; have c1 := b1.drew; have eX := c1.lt; obtain ⟨fI, fJ⟩ := b2.c2; have c2 := b2.drew; have eU := c2.lt; have hc := Ji wr; go_region_held3 (fun w' => w'.cell? ⟨g1, o1, none⟩ = some (.slice A1 m2 d1) /\ w'.cell? ⟨g2, o2, none⟩ = some (.slice A2 m2 d2)) (go_keep) (first | (go_at_call 90; (with_reducible refine (HF1.out _ hc).mono ?_); rintro e w1 ⟨v1, rfl, p9, aA⟩; obtain ⟨g1, A1, l1, c1c, A1', l1', c1c', dZ⟩ := p9.shape; subst dZ; (try clear eR eS); obtain ⟨c1, eR, eS⟩ := c1.zc2 aA; (try clear eX); have eX := c1.lt; (try clear eP eQ); obtain ⟨c2, eP, eQ⟩ := c2.zc2 aA; (try clear eU); have eU := c2.lt; have hc := Ja hc aA) | (go_at_call 90; (with_reducible refine (HF2.out _ hc).mono ?_); rintro e w2 ⟨v2, rfl, fK, eY⟩; obtain ⟨g2, A2, l2, c2c, A2', l2', c2c', fH⟩ := fK.shape; subst fH; (try clear eR eS); obtain ⟨c1, eR, eS⟩ := c1.zc2 eY; (try clear eX); have eX := c1.lt; (try clear eP eQ); obtain ⟨c2, eP, eQ⟩ := c2.zc2 eY; (try clear eU); have eU := c2.lt; have p9 := (p9.next zd eY).more eY.size; have hc := Ja hc eY) | (go_at_call 89; (with_reducible refine (HCM.out _ _ _ p9 fK).mono ?_); rintro e w3 ⟨rfl, j6⟩; (try clear eR eS); obtain ⟨c1, eR, eS⟩ := c1.zc2 j6; (try clear eX); have eX := c1.lt; (try clear eP eQ); obtain ⟨c2, eP, eQ⟩ := c2.zc2 j6; (try clear eU); have eU := c2.lt; have p9 := (p9.next zd j6).more j6.size; have fK := (fK.next zd j6).more j6.size; have hc := Ja hc j6))
   all_goals
    go_wp2
    exact ⟨⟨k + 1, i, by omega, by omega, by omega, rfl, by go_num, HN2, HC.out.below hc HC.out.lt, HBW.out.trans (hc.mono HBW.out.size)⟩, by simp [intOf]; omega⟩
  obtain rfl : k = n := by omega
  have k1 : ¬ (k : Int) < (k : Int) := by omega
  have k2 : (i : Int) < (k : Int) := by omega
  have fZ : Qk f x = i := by unfold Qk; rw [aM]; exact cO.out
  obtain ⟨l', fF⟩ : ∃ l, f[i]? = some l := ⟨_, List.getElem?_eq_getElem (by omega)⟩
  obtain ⟨ad, A2, m2, d2, rfl, eW, fB, fC⟩ := H.out.at_ fF
  obtain rfl : m2 = wd := by rw [<- fC.len]; exact HL.out l' (List.mem_of_getElem? fF)
  have fD := Xq (eV.mono HBB.out) fB eW
  have fP := HFAR.out wr A2 d2 l' eV fC (List.mem_of_getElem? fF)
  have gE : Xs f x = Xk l' x := by unfold Xs; rw [fZ, List.getD_eq_getElem?_getD, fF]; rfl
  rw [<- gE] at fP
  have HE := lh fZ
  have HF := lh fP
  have HBW := lh eV
  have HC := lh c0
  clear fP eV c0 cO fF fC fB fZ gE
  go_wp2_with fail
  refine HF.out.mono ?_
  rintro e w1 ⟨V, rfl, hR, e8⟩
  obtain ⟨g9, A9, l9, c9, A9', l9', c9', rfl⟩ := hR.shape
  have c0 := HC.out.below e8 HC.out.lt
  have HR9 := lh hR
  have HB1 := lh (HBW.out.trans (e8.mono HBW.out.size))
  clear e8 HBW fD hR
  obtain ⟨f0, f1, f2, f3, f4, f5, f6, f7, f8⟩ := c0.f3
  go_wp2
  refine bodyPost_ret (v := .tuple #[.int .i64 (i : Int), .agg #[.bool g9, .slice A9 l9 c9, .slice A9' l9' c9']]) (by simp [results, Tryz.results41, go_sem, f6, f7, f8]) rfl ?_
  refine ⟨_, by rw [HE.out], ?_, ((HB1.out.setCell zd _).setCell zd _).setCell zd _⟩
  rw [World.size_setCell, World.size_setCell, World.size_setCell]
  exact HR9.out.set3 c0 _ _ _ _ _ _ _
theorem Ue (z : Int) (m : Nat) (w : World) (b0 : -9223372036854775808 <= z) (b1 : z <= 9223372036854775807) (hm : 1 <= m) (hm2 : m <= 4611686018427387904) :
  ∃ n : Nat, n < m /\ ∀ w, Calls Tryz.prog 14 #[.int .i64 z, .int .i64 (m : Int)] w fun e w' => e = .returned (.int .i64 (n : Int)) /\ w = w' := by
 have h0 : 0 <= z % (m : Int) := Int.emod_nonneg _ (by omega)
 have h1 : z % (m : Int) < (m : Int) := Int.emod_lt_of_pos _ (by omega)
 obtain ⟨n, hn⟩ := Int.eq_ofNat_of_zero_le h0
 refine ⟨n, by omega, fun w => ?_⟩
 have := Jcn z m w b0 b1 hm hm2
 rw [hn] at this
 exact this
structure ArgZ (w : World) (A : Option Addr) (n c : Nat) (zl : List Int) : Prop where
 rd : ReadsZ w w.heap.size A n zl
 cap : n <= c
 most : c <= 9223372036854775807
def I64 (z : Int) : Prop := -9223372036854775808 <= z /\ z <= 9223372036854775807
theorem ReadsR.cut {w : World} {B n : Nat} {A : Option Addr} {ql : List Rat} (h : ReadsR w B A n ql) {u c : Nat} (hu : u <= n) (hc : n <= c) : ReadsR w B (Jb3 A c u 3) (n - u) (ql.drop u) := by
 obtain ⟨rl, h1, h2⟩ := h
 refine ⟨rl.drop u, ⟨by rw [List.length_drop, h1.1], ?_⟩, by rw [List.length_drop, List.length_drop, h2.1], fun i r q hr hq => ?_⟩
 ·have h3 := Reads.cut h1.2 hu hc
  have e : (rl.flatMap RC.cs).drop (u * 3) = (rl.drop u).flatMap RC.cs := by
   have : ∀ (l : List RC) u, (l.flatMap RC.cs).drop (u * 3) = (l.drop u).flatMap RC.cs := by
    intro l
    induction l with
    | nil => intro u; simp
    | cons r l ih =>
     intro u
     cases u with
     | zero => simp
     | succ u =>
      rw [List.flatMap_cons, List.drop_succ_cons, <- ih u, show (u + 1) * 3 = (RC.cs r).length + u * 3 from by rw [RC.len]; omega, List.drop_append]
      simp
   exact this rl u
  rw [e] at h3
  exact h3
 rw [List.getElem?_drop] at hr hq
 exact h2.2 _ r q hr hq
theorem Jfv {f : List (List Rat)} {wd : Nat} (h : ∀ l ∈ f, l.length = wd) (hw : 1 <= wd) (eY : wd <= 20) : Ui f = true := Jig fun k r hr => by
 have h1 := h r (List.mem_of_getElem? hr)
 cases f with
 | nil => simp at hr
 | cons a t =>
  have h2 := h a (by simp)
  refine ⟨?_, by omega, by omega⟩
  show r.length = a.length
  omega
section
variable (A A' : Option Addr) (n c n' c' B : Nat) (f x : List (List Rat)) (w : World)
end
section
variable (A A' : Option Addr) (n c n' c' B : Nat) (f x : List (List Rat)) (w : World)
end
structure MD (w : World) (B : Nat) (A A' : Option Addr) (n n' wd m : Nat) (f x : List (List Rat)) : Prop where
 hf : Zx w B A n f
 hx : Zx w B A' n' x
 hB : B <= w.heap.size
 hn : 1 <= n
 hn2 : n <= 300
 hn' : n' <= 300
 hwd : wd <= 20
 hlf : ∀ l ∈ f, l.length = wd
 hlx : ∀ l ∈ x, l.length = wd
 hm : 1 <= m
 hm2 : m <= 1000000
 hsf : ∀ l ∈ f, ∀ y ∈ l, QS m y
 hsx : ∀ l ∈ x, ∀ y ∈ l, QS m y
section
variable {w w' : World} {B : Nat} {A A' : Option Addr} {n n' wd m : Nat} {f x : List (List Rat)}
theorem MD.next (h : MD w B A A' n n' wd m f x) (hb : Below w.heap.size w w') : MD w' B A A' n n' wd m f x :=
 ⟨h.hf.below Xf (hb.mono h.hB), h.hx.below Xf (hb.mono h.hB), nt h.hB hb.size, h.hn, h.hn2, h.hn', h.hwd, h.hlf, h.hlx, h.hm, h.hm2, h.hsf, h.hsx⟩
theorem MD.near (h : MD w B A A' n n' wd m f x) (c : Nat) {A1 : Option Addr} {c1 : Nat} {r : List Rat} (hr : ReadsR w B A1 wd r) (hx : r ∈ x) : ∀ w', Below w.heap.size w w' ->
  Calls Tryz.prog 41 #[.slice A n c, .slice A1 wd c1] w' fun e w'' => ∃ V, e = .returned (.tuple #[.int .i64 (Qk f r : Int), V]) /\ IsQ w'' w''.heap.size V (Xs f r) /\ Below w'.heap.size w' w'' := fun w' hb =>
 Jcv A A1 n c wd c1 B m f r w' (h.hf.below Xf (hb.mono h.hB)) (hr.below (hb.mono h.hB)) (nt h.hB hb.size) h.hn h.hn2 h.hwd h.hlf h.hm h.hm2 h.hsf (h.hsx r hx)
end
