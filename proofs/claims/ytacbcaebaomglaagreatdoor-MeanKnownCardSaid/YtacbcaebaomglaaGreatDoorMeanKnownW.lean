import Derived.Test.YtacbcaebaomglaaGreatDoorMeanU
namespace Go.Proofs.YtacbcaebaomglaaGreatDoor
set_option maxRecDepth 100000
set_option maxHeartbeats 8000000
open Go.RowKit
set_option linter.all false
theorem Jk8 {α : Type} {P : Program} {ops : Array Oper} {o : Oper} {a : Act} {K : Act -> World -> Prop} {Q : Exit -> Act -> World -> Prop} {Z : Prop} {t e : TypeId} {z : Value} {k bytes : Nat} {f : α -> List Value} (E : EltW P t e z k bytes) (hk : 0 < k) (t8 : o.guard = none) (s x : Operand)
  (ho : o.op = .call { callee := .builtin .append, args := #[s, x], argTypes := #[t, t] })
  (w : World) (v : Value) (l : List α) (B : Nat) (A : Option Addr) (n c : Nat) (l2 : List α) (hs : a.eval s = v) (j9 : OwnW w e k f v l) (hx : a.eval x = .slice A n c)
  (hr : ReadsW w B k f A n l2) (cD : ∀ m, ∀ u ∈ f m, u.oneCell' = true) (eS : l.length + n <= maxLen) (hb : (l.length + n) * bytes <= 140737488355328)
  (h : ∀ v' w1, OwnW w1 e k f v' (l ++ l2) -> Grew w w1 v v' -> K (a.put o.dst v') w1) : if Region.wanted o (yielded ops a.tmps) = true then Oper.wp P o a w K Q else Z := by
 obtain ⟨i0, eT, bW, bX, eU⟩ := info_parts E.info
 refine Ja5 _ t8 s x t ho 0 e i0 z k bytes E.under eT bW bX eU E.size hk v l.length (l.flatMap f) hs j9 B A n c (l2.flatMap f) hx hr.2
  (by intro u hu; simp at hu; obtain ⟨m, _, hm⟩ := hu; exact cD m u hm) eS hb (Nat.zero_le _) ?_
 intro v' w' aX bY eV
 refine h v' w' ?_ (Grew.of_grown bY eV)
 have hl := hr.len
 unfold OwnW
 rw [List.length_append, List.flatMap_append, hl]
 exact aX
section
variable {ops : Array Oper} {o : Oper} {a : Act} {K : Act -> World -> Prop} {Q : Exit -> Act -> World -> Prop} {Z : Prop}
theorem Jk9 (t8 : o.guard = none) (s x : Operand)
  (ho : o.op = .call { callee := .builtin .append, args := #[s, x], argTypes := #[31, 31] })
  (wr : World) (v : Value) (l : List Rat) (q : Rat) (hs : a.eval s = v) (j9 : OwnQ wr v l) (hx : a.eval x = .slice (some ⟨wr.heap.size, 0, none⟩) 1 1) (hl : l.length <= 1000000)
  (h : ∀ v' w1, OwnQ w1 v' (l ++ [q]) -> Grew wr w1 v v' -> K (a.put o.dst v') w1) : if Region.wanted o (yielded ops a.tmps) = true then Oper.wp Tryz.prog o a (wr.alloc (.cells #[.bool (decide (q.num < 0)), .int .u64 (lo q.num.natAbs : Int), .string (mo q.num.natAbs), .int .u64 (lo ((qden q)) : Int), .string (mo ((qden q)))] 65)) K Q else Z := by
 refine Jk8 Tryz.eltQ (by omega) t8 s x ho _ v l (wr.heap.size + 1) (some ⟨wr.heap.size, 0, none⟩) 1 1 [q] hs (j9.alloc _) hx (Jg0 wr q) Jf5 (by unfold maxLen; omega) (by omega) ?_
 intro v' w1 h1 h2
 refine h v' w1 h1 ?_
 refine ⟨h2.os, h2.tape, h2.output, nt (by simp) h2.size, fun k hk cE => (h2.block k (by simp; omega) cE).trans (Below.heap_alloc wr _ k hk), fun k hk => ?_⟩
 rcases h2.own k hk with h3 | h3
 ·exact .inl h3
 exact .inr (by simp at h3; omega)
end
def Xk (wd : Nat) (x f : List (List Rat)) : Nat -> List (List Rat)
 | 0 => f
 | i + 1 => if Ya wd (Xk wd x f i) x = 0 then Xk wd x f i else Ki wd (Xk wd x f i) x
def Yc (wd : Nat) (x f : List (List Rat)) : Nat -> List Rat
 | 0 => [Vm f x]
 | i + 1 => if Ya wd (Xk wd x f i) x = 0 then Yc wd x f i else Yc wd x f i ++ [Vm (Ki wd (Xk wd x f i) x) x]
section
variable {wd : Nat} {x f : List (List Rat)}
theorem Jc1 {l : List Rat} (hl : l ∈ Ki wd f x) : ∃ g, g < f.length /\ l = Zv wd f x g := by
 obtain ⟨g, hg, rfl⟩ := List.mem_map.1 hl
 exact ⟨g, List.mem_range.1 hg, rfl⟩
theorem Jhr {g : Nat} (hf : ∀ l ∈ f, l.length = wd) (hg : g < f.length) : (Zv wd f x g).length = wd := by
 unfold Zv
 split
 ·exact hf _ (by rw [List.getD_eq_getElem?_getD, List.getElem?_eq_getElem hg]; exact List.getElem_mem _)
 simp [Vd]
theorem Jio (hf : ∀ l ∈ f, l.length = wd) : ∀ l ∈ Ki wd f x, l.length = wd := by
 intro l hl
 obtain ⟨g, hg, rfl⟩ := Jc1 hl
 exact Jhr hf hg
theorem Jip {mx m : Nat} (hmx : 1 <= mx) (hx : x.length <= 1000) (hm : x.length * (mx + 1) + 65 <= m) (hsx : ∀ l ∈ x, ∀ y ∈ l, QS mx y) (hsf : ∀ l ∈ f, ∀ y ∈ l, QS m y) : ∀ l ∈ Ki wd f x, ∀ y ∈ l, QS m y := by
 intro l hl y hy
 obtain ⟨g, hg, rfl⟩ := Jc1 hl
 unfold Zv at hy
 split at hy
 ·exact hsf _ (by rw [List.getD_eq_getElem?_getD, List.getElem?_eq_getElem hg]; exact List.getElem_mem _) y hy
 obtain ⟨c, -, rfl⟩ := List.mem_map.1 hy
 exact (Jjv (Us hmx hsx g c x.length) (nt (Ut f x g _) hx)).mono (by omega)
theorem Jeg (hf : ∀ l ∈ f, l.length = wd) : ∀ i, ∀ l ∈ Xk wd x f i, l.length = wd
 | 0 => hf
 | i + 1 => by
  unfold Xk
  split
  ·exact Jeg hf i
  exact Jio (Jeg hf i)
theorem Jeh {mx m : Nat} (hmx : 1 <= mx) (hx : x.length <= 1000) (hm : x.length * (mx + 1) + 65 <= m) (hsx : ∀ l ∈ x, ∀ y ∈ l, QS mx y) (hsf : ∀ l ∈ f, ∀ y ∈ l, QS m y) : ∀ i, ∀ l ∈ Xk wd x f i, ∀ y ∈ l, QS m y
 | 0 => hsf
 | i + 1 => by
  unfold Xk
  split
  ·exact Jeh hmx hx hm hsx hsf i
  exact Jip hmx hx hm hsx (Jeh hmx hx hm hsx hsf i)
theorem Jb5 : ∀ i, (Yc wd x f i).length <= i + 1
 | 0 => Nat.le_refl _
 | i + 1 => by
  unfold Yc
  split
  ·exact nt (Jb5 i) (by omega)
  rw [List.length_append]; have := Jb5 i; simp; omega
theorem Jdi {i : Nat} (h : Ya wd (Xk wd x f i) x = 0) : ∀ j, i <= j -> Xk wd x f j = Xk wd x f i /\ Yc wd x f j = Yc wd x f i
 | 0, hj => by
  obtain rfl : i = 0 := by omega
  exact ⟨rfl, rfl⟩
 | j + 1, hj => by
  rcases Nat.eq_or_lt_of_le hj with e | fK
  ·subst e; exact ⟨rfl, rfl⟩
  obtain ⟨h1, h2⟩ := Jdi h j (by omega)
  have h3 : Ya wd (Xk wd x f j) x = 0 := by rw [h1]; exact h
  exact ⟨by rw [<- h1]; exact if_pos h3, by rw [<- h2]; exact if_pos h3⟩
end
theorem Zt (w : World) (q : Rat) : OwnQ (w.alloc (.cells #[.bool (decide (q.num < 0)), .int .u64 (lo q.num.natAbs : Int), .string (mo q.num.natAbs), .int .u64 (lo ((qden q)) : Int), .string (mo ((qden q)))] 65)) (.slice (some ⟨w.heap.size, 0, none⟩) 1 1) [q] := by
 refine ⟨by simp [Vq], .inr ⟨w.heap.size, 1, #[.bool (decide (q.num < 0)), .int .u64 (lo q.num.natAbs : Int), .string (mo q.num.natAbs), .int .u64 (lo ((qden q)) : Int), .string (mo ((qden q)))], rfl, Nat.zero_le _, heap_alloc_new w _, Nat.le_refl _, by unfold maxLen; omega, by simp, by simp [qC]⟩⟩
theorem Ji6 {a b g : Nat} (h : a + 2 <= b) (h' : b <= g) : ¬ a = g := by omega
theorem Ji5 {a b g : Nat} (h : a + 2 <= b) (h' : b <= g) : ¬ g = a := by omega
theorem Jj0 {B g : Nat} {w w' : World} (h : Below B w w') (hg : B <= g) (x y z : Value) : Below B w (((w'.setCell ⟨g, 0, none⟩ x).setCell ⟨g, 1, none⟩ y).setCell ⟨g, 2, none⟩ z) := ((h.setCell hg x).setCell hg y).setCell hg z
theorem OwnSA.excB {T t : TypeId} {L B x g n c : Nat} {w w' : World} {cs : Array Value} {bl : List (List Rat)} (h : OwnSA T OwnQ L B w (.slice (some ⟨g, 0, none⟩) n c) bl) (he : Exc x w w') (hb : Blk w x t cs) (hT : t ≠ T) (hQ : t ≠ 65) : OwnSA T OwnQ L B w' (.slice (some ⟨g, 0, none⟩) n c) bl := by
 obtain ⟨rl, h1, h2, h3, h4, h5⟩ := h
 have hg : x ≠ g := fun e => by
  subst e
  obtain ⟨cs', fr', k3⟩ := Own.blk h1 (g := x) rfl
  rw [hb] at k3
  injection k3 with k3
  injection k3 with _ k3 _
  exact hT k3
 refine ⟨rl, h1.exc he (fun e => hg (Zm e).symm), h2, fun i r b hr aY => ?_, h4, h5⟩
 refine OwnQ.excm (h3 i r b hr aY) he fun e => ?_
 obtain ⟨cs', fr', k3⟩ := OwnW.blk (h3 i r b hr aY) e
 rw [hb] at k3
 injection k3 with k3
 injection k3 with _ k3 _
 exact hQ k3
theorem OwnQ.form3m {w : World} {v : Value} {l : List Rat} (h : OwnQ w v l) : ∃ A c, v = .slice A l.length c := by
 obtain ⟨A, c, h1, -⟩ := OwnW.form h
 exact ⟨A, c, h1⟩
theorem OwnQ.formNm {w : World} {v : Value} {l : List Rat} {n : Nat} (h : OwnQ w v l) (hn : l.length = n) : ∃ A c, v = .slice A n c := by
 obtain ⟨A, c, h1, -⟩ := OwnW.form h
 exact ⟨A, c, by rw [h1, hn]⟩
structure MF (w : World) (B : Nat) (A A' : Option Addr) (n n' wd m mx : Nat) (f x : List (List Rat)) : Prop where
 mx0 : MX w B A A' n n' wd m f x
 hmx : 1 <= mx
 hsm : n' * (mx + 1) + 65 <= m
 hsx : ∀ l ∈ x, ∀ y ∈ l, QS mx y
 hwd1 : 1 <= wd
section
variable {w w' : World} {B : Nat} {A A' : Option Addr} {n n' wd m mx : Nat} {f x : List (List Rat)}
theorem MF.next (h : MF w B A A' n n' wd m mx f x) (hb : Below w.heap.size w w') : MF w' B A A' n n' wd m mx f x := ⟨h.mx0.next hb, h.hmx, h.hsm, h.hsx, h.hwd1⟩
theorem MF.with_ (h : MF w B A A' n n' wd m mx f x) (i gd : Nat) {L : Nat} (ho : OwnSA 31 OwnQ L w.heap.size w (.slice (some ⟨gd, 0, none⟩) n n) (Xk wd x f i)) : MX w w.heap.size (some ⟨gd, 0, none⟩) A' n n' wd m (Xk wd x f i) x := by
 have hx := h.mx0.hx.len
 refine ⟨OwnS.readS (fun h => OwnQ.reads_ h) ho.plain, h.mx0.hx.more Kb h.mx0.hB, Nat.le_refl _, h.mx0.hn, h.mx0.hn2, h.mx0.hn', h.mx0.hwd, Jeg h.mx0.hlf i, h.mx0.hlx, h.mx0.hm, h.mx0.hm2, ?_, h.mx0.hsx, h.mx0.hT⟩
 exact Jeh h.hmx (by have := h.mx0.hn'; omega) (by rw [hx]; exact h.hsm) h.hsx h.mx0.hsf i
end
def DeepAt (w : World) (n : Nat) (f : List (List Rat)) (v : Value) (wr : World) : Prop := ∃ gd, v = .slice (some ⟨gd, 0, none⟩) n n /\ w.heap.size <= gd /\ OwnSA 31 OwnQ w.heap.size wr.heap.size wr (.slice (some ⟨gd, 0, none⟩) n n) f
theorem DeepAt.next {w wr wr' : World} {n : Nat} {f : List (List Rat)} {v : Value} (h : DeepAt w n f v wr) (hb : Below wr.heap.size wr wr') : DeepAt w n f v wr' := by
 obtain ⟨gd, h1, h2, h3⟩ := h
 exact ⟨gd, h1, h2, (OwnSA.next (Qe (by decide)).toKind h3 hb).more hb.size⟩
structure FT (w : World) (n g9 gd : Nat) (kv : Value) (cs : List (List Rat)) (ks : List Rat) (wr : World) : Prop where
 run : Blk wr g9 33 #[.slice (some ⟨gd, 0, none⟩) n n, .slice none 0 0, kv]
 res : Blk wr (w.heap.size + 1) 33 #[.slice none 0 0, .slice none 0 0, .slice none 0 0]
 rows : OwnSA 31 OwnQ w.heap.size wr.heap.size wr (.slice (some ⟨gd, 0, none⟩) n n) cs
 costs : OwnQ wr kv ks
 fresh : ∀ b, kv.ownBlock = some b -> w.heap.size + 2 <= b
 bel : Below w.heap.size w wr
 h9 : w.heap.size + 2 <= g9
 hd : w.heap.size <= gd
section
variable {w wr wr' : World} {n g9 gd : Nat} {kv : Value} {cs : List (List Rat)} {ks : List Rat}
theorem FT.after (h : FT w n g9 gd kv cs ks wr) (hb : Below wr.heap.size wr wr') : FT w n g9 gd kv cs ks wr' :=
 ⟨h.run.below hb h.run.lt, h.res.below hb h.res.lt, (OwnSA.next (Qe (by decide)).toKind h.rows hb).more hb.size, OwnW.next h.costs hb, h.fresh, h.bel.trans (hb.mono h.bel.size), h.h9, h.hd⟩
theorem FT.setModel (h : FT w n g9 gd kv cs ks wr) {gd2 : Nat} {cF : List (List Rat)} {L : Nat} (hL : w.heap.size <= L) (eW : w.heap.size <= gd2) (ho : OwnSA 31 OwnQ L wr.heap.size wr (.slice (some ⟨gd2, 0, none⟩) n n) cF) :
  FT w n g9 gd2 kv cF ks (wr.setCell ⟨g9, 0, none⟩ (.slice (some ⟨gd2, 0, none⟩) n n)) /\ OwnSA 31 OwnQ L (wr.setCell ⟨g9, 0, none⟩ (.slice (some ⟨gd2, 0, none⟩) n n)).heap.size (wr.setCell ⟨g9, 0, none⟩ (.slice (some ⟨gd2, 0, none⟩) n n)) (.slice (some ⟨gd2, 0, none⟩) n n) cF := by
 have hx : Exc g9 wr (wr.setCell ⟨g9, 0, none⟩ (.slice (some ⟨gd2, 0, none⟩) n n)) := (Exc.refl _ _).set_ _ _
 have hs : (wr.setCell ⟨g9, 0, none⟩ (.slice (some ⟨gd2, 0, none⟩) n n)).heap.size = wr.heap.size := by simp
 have h9 := h.h9
 have o1 := OwnSA.excB ho hx h.run (by decide) (by decide)
 refine ⟨⟨by simpa using h.run.set_ 0 (.slice (some ⟨gd2, 0, none⟩) n n), h.res.exc hx (by omega), by rw [hs]; exact OwnSA.low o1 hL, OwnQ.excm h.costs hx (fun e => ?_), h.fresh, h.bel.setCell (show w.heap.size <= g9 by omega) _, h9, eW⟩, by rw [hs]; exact o1⟩
 obtain ⟨cs', fr', k3⟩ := OwnW.blk h.costs e
 have k4 := h.run
 rw [Blk, k3] at k4
 injection k4 with k4
 injection k4 with _ k4 _
 exact absurd k4 (by decide)
end
theorem Exc.grow {w1 w7 : World} {gk nk ck : Nat} {v' : Value} (h : Grew w1 w7 (.slice (some ⟨gk, 0, none⟩) nk ck) v') : Exc gk w1 w7 :=
 ⟨h.os, h.tape, h.output, h.size, fun k hk cE => h.block k hk fun e => cE (Option.some.inj (e.trans rfl))⟩
theorem Own.ne_blk {x t : TypeId} {k g : Nat} {α : Type} {f : α -> List Value} {v : Value} {l : List α} {w : World} {cs : Array Value} (h : OwnW w x k f v l) (hb : Blk w g t cs) (ht : t ≠ x) : v.ownBlock ≠ some g := fun e => by
 obtain ⟨cs', fr', k3⟩ := OwnW.blk h e
 rw [Blk, k3] at hb
 injection hb with hb
 injection hb with _ hb _
 exact ht hb.symm
theorem FT.setCosts {w w1 w7 : World} {n g9 gd gk nk ck L : Nat} {v7 : Value} {cs : List (List Rat)} {ks ks' : List Rat} (h : FT w n g9 gd (.slice (some ⟨gk, 0, none⟩) nk ck) cs ks w1) (hr : OwnSA 31 OwnQ L w1.heap.size w1 (.slice (some ⟨gd, 0, none⟩) n n) cs) (cG : gk < L) (fL : L <= gd) (hL : w.heap.size <= L)
  (hg : Grew w1 w7 (.slice (some ⟨gk, 0, none⟩) nk ck) v7) (ho : OwnQ w7 v7 ks') : FT w n g9 gd v7 cs ks' (w7.setCell ⟨g9, 2, none⟩ v7) := by
 have hx := Exc.grow hg
 have h9 := h.h9
 have hk := h.fresh gk rfl
 have l1 := h.res.lt
 have n9 : g9 ≠ gk := fun e => Own.ne_blk h.costs h.run (by decide) (by rw [e]; rfl)
 have r9 := h.run.exc hx n9
 have s1 := h.res.exc hx (by omega)
 have hy : Exc g9 w7 (w7.setCell ⟨g9, 2, none⟩ v7) := (Exc.refl _ _).set_ _ _
 have hs : (w7.setCell ⟨g9, 2, none⟩ v7).heap.size = w7.heap.size := by simp
 have o1 := (OwnSA.excQ (by decide) hr hx (.inl cG) (by omega)).more hg.size
 have o2 := OwnSA.excB o1 hy r9 (by decide) (by decide)
 have b1 : Below w.heap.size w w7 := h.bel.trans (hx.below h.bel.size (by omega))
 refine ⟨by simpa using r9.set_ 2 v7, s1.exc hy (by omega), by rw [hs]; exact OwnSA.low o2 hL, OwnQ.excm ho hy (Own.ne_blk ho r9 (by decide)), fun b hb => ?_, b1.setCell (show w.heap.size <= g9 by omega) _, h9, h.hd⟩
 rcases hg.own b hb with e | e
 ·have : gk = b := Option.some.inj e
  omega
 omega
theorem Jb4 {wd : Nat} {x f : List (List Rat)} : ∀ i, 0 < (Yc wd x f i).length
 | 0 => by show 0 < ([Vm f x] : List Rat).length; simp
 | i + 1 => by
  unfold Yc
  split
  ·exact Jb4 i
  rw [List.length_append]; have := Jb4 (wd := wd) (x := x) (f := f) i; omega
section
variable {w w2 w4 : World} {n c1c : Nat} {A1 : Option Addr} {f : List (List Rat)} {q : Rat}
theorem Jb1 (e8 : Below w.heap.size w w2) (hs : w.heap.size + 2 <= w2.heap.size) {wz : World} {g9 gs : Nat} (hR : DeepAt w2 n f (.slice A1 n c1c) w4) (hc : Below w2.heap.size w2 w4)
  (hz : Below w2.heap.size w2 wz) (cH : ∀ gd, OwnSA 31 OwnQ w2.heap.size w4.heap.size w4 (.slice (some ⟨gd, 0, none⟩) n n) f -> OwnSA 31 OwnQ w2.heap.size wz.heap.size wz (.slice (some ⟨gd, 0, none⟩) n n) f)
  (run : Blk wz g9 33 #[.slice A1 n c1c, .slice none 0 0, .slice (some ⟨gs, 0, none⟩) 1 1]) (res : Blk wz (w.heap.size + 1) 33 #[.slice none 0 0, .slice none 0 0, .slice none 0 0]) (cost : OwnQ wz (.slice (some ⟨gs, 0, none⟩) 1 1) [q]) (h9 : w2.heap.size <= g9) (fM : w2.heap.size <= gs) :
  ∃ g gd kv, Value.pointer (some ⟨g9, 0, none⟩) = .pointer (some ⟨g, 0, none⟩) /\ FT w n g gd kv f [q] wz := by
 obtain ⟨gd, hv, t8, ho⟩ := hR
 injection hv with e1 e2 e3
 subst e1 e3
 exact ⟨g9, gd, _, rfl, run, res, OwnSA.low (cH gd ho) (by omega), cost, fun b hb => by have := Zm hb; omega, e8.trans (hz.mono e8.size), by omega, by omega⟩
theorem ft_1 (e8 : Below w.heap.size w w2) (hs : w.heap.size + 2 <= w2.heap.size) (c1 : Blk w4 (w.heap.size + 1) 33 #[.slice none 0 0, .slice none 0 0, .slice none 0 0]) (hR : DeepAt w2 n f (.slice A1 n c1c) w4) (hc : Below w2.heap.size w2 w4) :
  ∃ g gd kv, Value.pointer (some ⟨w4.heap.size + 1, 0, none⟩) = .pointer (some ⟨g, 0, none⟩) /\ FT w n g gd kv f [q] ((w4.alloc (.cells #[.bool (decide (q.num < 0)), .int .u64 (lo q.num.natAbs : Int), .string (mo q.num.natAbs), .int .u64 (lo ((qden q)) : Int), .string (mo ((qden q)))] 65)).alloc (.cells #[.slice A1 n c1c, .slice none 0 0, .slice (some ⟨w4.heap.size, 0, none⟩) 1 1] 33)) :=
 Jb1 e8 hs hR hc (Ja hc (Ji _ _ _)) (fun gd h => (OwnSA.next (Qe (by decide)).toKind h (Ji _ _ _)).more (Ji _ _ _).size) (Blk.new2 _ _ _ _) ((c1.alloc _).alloc _) (OwnW.alloc (Zt w4 q) _) (Nat.le_succ_of_le hc.size) hc.size
theorem ft_2 (e8 : Below w.heap.size w w2) (hs : w.heap.size + 2 <= w2.heap.size) (c1 : Blk w4 (w.heap.size + 1) 33 #[.slice none 0 0, .slice none 0 0, .slice none 0 0]) (hR : DeepAt w2 n f (.slice A1 n c1c) w4) (hc : Below w2.heap.size w2 w4) :
  ∃ g gd kv, Value.pointer (some ⟨w4.heap.size, 0, none⟩) = .pointer (some ⟨g, 0, none⟩) /\ FT w n g gd kv f [q] ((w4.alloc (.cells #[.slice A1 n c1c, .slice none 0 0, .slice (some ⟨w4.heap.size + 1, 0, none⟩) 1 1] 33)).alloc (.cells #[.bool (decide (q.num < 0)), .int .u64 (lo q.num.natAbs : Int), .string (mo q.num.natAbs), .int .u64 (lo ((qden q)) : Int), .string (mo ((qden q)))] 65)) := by
 have hq := Zt (w4.alloc (.cells #[.slice A1 n c1c, .slice none 0 0, .slice (some ⟨w4.heap.size + 1, 0, none⟩) 1 1] 33)) q
 rw [World.size_alloc] at hq
 exact Jb1 e8 hs hR hc (Ja hc (Ji _ _ _)) (fun gd h => (OwnSA.next (Qe (by decide)).toKind h (Ji _ _ _)).more (Ji _ _ _).size) ((Blk.new _ _ _).alloc _) ((c1.alloc _).alloc _) hq hc.size (Nat.le_succ_of_le hc.size)
theorem ft_3 (e8 : Below w.heap.size w w2) (hs : w.heap.size + 2 <= w2.heap.size) (c1 : Blk w4 (w.heap.size + 1) 33 #[.slice none 0 0, .slice none 0 0, .slice none 0 0]) (hR : DeepAt w2 n f (.slice A1 n c1c) w4) (hc : Below w2.heap.size w2 w4) {gR : Nat} (cR : Blk w4 gR 33 #[.slice none 0 0, .slice none 0 0, .slice none 0 0]) (hg : w2.heap.size <= gR) :
  ∃ g gd kv, Value.pointer (some ⟨gR, 0, none⟩) = .pointer (some ⟨g, 0, none⟩) /\ FT w n g gd kv f [q] ((((w4.alloc (.cells #[.bool (decide (q.num < 0)), .int .u64 (lo q.num.natAbs : Int), .string (mo q.num.natAbs), .int .u64 (lo ((qden q)) : Int), .string (mo ((qden q)))] 65)).setCell ⟨gR, 0, none⟩ (.slice A1 n c1c)).setCell ⟨gR, 1, none⟩ (.slice none 0 0)).setCell ⟨gR, 2, none⟩ (.slice (some ⟨w4.heap.size, 0, none⟩) 1 1)) := by
 have hx : Exc gR (w4.alloc (.cells #[.bool (decide (q.num < 0)), .int .u64 (lo q.num.natAbs : Int), .string (mo q.num.natAbs), .int .u64 (lo ((qden q)) : Int), .string (mo ((qden q)))] 65)) ((((w4.alloc (.cells #[.bool (decide (q.num < 0)), .int .u64 (lo q.num.natAbs : Int), .string (mo q.num.natAbs), .int .u64 (lo ((qden q)) : Int), .string (mo ((qden q)))] 65)).setCell ⟨gR, 0, none⟩ (.slice A1 n c1c)).setCell ⟨gR, 1, none⟩ (.slice none 0 0)).setCell ⟨gR, 2, none⟩ (.slice (some ⟨w4.heap.size, 0, none⟩) 1 1)) := (((Exc.refl _ _).set_ _ _).set_ _ _).set_ _ _
 have cI : Blk ((((w4.alloc (.cells #[.bool (decide (q.num < 0)), .int .u64 (lo q.num.natAbs : Int), .string (mo q.num.natAbs), .int .u64 (lo ((qden q)) : Int), .string (mo ((qden q)))] 65)).setCell ⟨gR, 0, none⟩ (.slice A1 n c1c)).setCell ⟨gR, 1, none⟩ (.slice none 0 0)).setCell ⟨gR, 2, none⟩ (.slice (some ⟨w4.heap.size, 0, none⟩) 1 1)) gR 33 #[.slice A1 n c1c, .slice none 0 0, .slice (some ⟨w4.heap.size, 0, none⟩) 1 1] := by
  simpa using (((cR.alloc (.cells #[.bool (decide (q.num < 0)), .int .u64 (lo q.num.natAbs : Int), .string (mo q.num.natAbs), .int .u64 (lo ((qden q)) : Int), .string (mo ((qden q)))] 65)).set_ 0 (.slice A1 n c1c)).set_ 1 (.slice none 0 0)).set_ 2 (.slice (some ⟨w4.heap.size, 0, none⟩) 1 1)
 have lR := cR.lt
 refine Jb1 e8 hs hR hc (Jj0 (Ja hc (Jb _ _)) hg _ _ _) (fun gd h => ?_) cI ((c1.alloc _).exc hx (by omega)) (OwnQ.excm (Zt w4 q) hx (fun e => by have := Zm e; omega)) hg hc.size
 have h1 := (OwnSA.next (Qe (by decide)).toKind h (Jb w4 (.cells #[.bool (decide (q.num < 0)), .int .u64 (lo q.num.natAbs : Int), .string (mo q.num.natAbs), .int .u64 (lo ((qden q)) : Int), .string (mo ((qden q)))] 65))).more (Jb w4 (.cells #[.bool (decide (q.num < 0)), .int .u64 (lo q.num.natAbs : Int), .string (mo q.num.natAbs), .int .u64 (lo ((qden q)) : Int), .string (mo ((qden q)))] 65)).size
 have eX : ((((w4.alloc (.cells #[.bool (decide (q.num < 0)), .int .u64 (lo q.num.natAbs : Int), .string (mo q.num.natAbs), .int .u64 (lo ((qden q)) : Int), .string (mo ((qden q)))] 65)).setCell ⟨gR, 0, none⟩ (.slice A1 n c1c)).setCell ⟨gR, 1, none⟩ (.slice none 0 0)).setCell ⟨gR, 2, none⟩ (.slice (some ⟨w4.heap.size, 0, none⟩) 1 1)).heap.size = (w4.alloc (.cells #[.bool (decide (q.num < 0)), .int .u64 (lo q.num.natAbs : Int), .string (mo q.num.natAbs), .int .u64 (lo ((qden q)) : Int), .string (mo ((qden q)))] 65)).heap.size := by simp
 rw [eX]
 exact OwnSA.excB h1 hx (cR.alloc (.cells #[.bool (decide (q.num < 0)), .int .u64 (lo q.num.natAbs : Int), .string (mo q.num.natAbs), .int .u64 (lo ((qden q)) : Int), .string (mo ((qden q)))] 65)) (by decide) (by decide)
end
theorem Jht (A A' : Option Addr) (n c n' c' wd B m mx most : Nat) (f x : List (List Rat)) (w : World) (h : MF w B A A' n n' wd m mx f x) (dZ : most <= 200) (aR : Xy f = 0) (aZ : Yt f x = 0) :
  Calls Tryz.prog 15 #[.slice A' n' c', .agg #[.slice A n c], .int .i64 (most : Int)] w fun e w' => ∃ gd gg kv, e = .returned (.tuple #[.agg #[.slice (some ⟨gd, 0, none⟩) n n, .slice (some ⟨gg, 0, none⟩) n' n', kv], .int .i64 0]) /\ w.heap.size <= gd /\ Ja9 w gd n (Xk wd x f most) w' /\ OwnQ w' kv (Yc wd x f most) /\ Own w' 3 iv (.slice (some ⟨gg, 0, none⟩) n' n') (Qu (Xk wd x f most) x) /\ Below w.heap.size w w' := by
 have hn := h.mx0.hn
 have hn2 := h.mx0.hn2
 have hn' := h.mx0.hn'
 have HCK := lh (fun w' (hb : Below w.heap.size w w') => Ky A n c B f w' (h.next hb).mx0.hf (h.next hb).mx0.hB (by omega))
 have HRF := lh (fun w' (hb : Below w.heap.size w w') => Ja2 A A' n c n' c' B f x w' (h.next hb).mx0.hf (h.next hb).mx0.hx (h.next hb).mx0.hB (by omega) (by omega))
 rw [aR] at HCK
 rw [aZ] at HRF
 have H := lh h
 clear h aR aZ
 obtain ⟨b0, b1, hB, hZ⟩ := bx2 w 30 #[.slice A n c] 33 #[.slice none 0 0, .slice none 0 0, .slice none 0 0]
 go_enter Tryz.func15, Tryz.ntmps15
 have x0 := b0.c1
 have HB0 := lh hB
 have HZ := lh hZ.out
 clear hB hZ
 have q1 : ¬ (most : Int) < 0 := by omega
 have q2 : ¬ (200 : Int) < (most : Int) := by omega
 go_wp2_with fail
 generalize ((w.alloc (.cells #[.slice A n c] 30)).alloc (.cells #[.slice none 0 0, .slice none 0 0, .slice none 0 0] 33)) = W at *
 refine (HCK.out _ HB0.out).mono ?_
 rintro e w1 ⟨rfl, e9⟩
 have b0 := b0.below e9 b0.lt
 have b1 := b1.below e9 b1.lt
 have HB1 := lh (HB0.out.trans (e9.mono HB0.out.size))
 clear x0 e9 HB0 HCK
 have x0 := b0.c1
 go_wp2_with fail
 refine (HRF.out _ HB1.out).mono ?_
 rintro e w2 ⟨rfl, e8⟩
 have b0 := b0.below e8 b0.lt
 have b1 := b1.below e8 b1.lt
 have HB2 := lh (HB1.out.trans (e8.mono HB1.out.size))
 have HS2 : Hid (w.heap.size + 2 <= w2.heap.size) := lh (by have := b1.lt; omega)
 clear x0 e8 HB1 HRF HZ
 go_upto_region 6 with fail
 have hm2 := H.out.next HB2.out
 have HDP : Hid (∀ w', Below w2.heap.size w2 w' -> Calls Tryz.prog 58 #[.slice A n c] w' fun e w'' => ∃ v, e = .returned v /\ (∃ A c, v = .slice A n c) /\ DeepAt w2 n f v w'' /\ Below w'.heap.size w' w'') := lh fun w' hb => by
  refine (Jc8 A n c wd B f w' (hm2.next hb).mx0.hf (hm2.next hb).mx0.hB (by omega) H.out.hwd1 (by have := H.out.mx0.hwd; omega) H.out.mx0.hlf).mono ?_
  rintro e w3 ⟨gd, rfl, t8, ho, j8⟩
  exact ⟨_, rfl, ⟨_, _, rfl⟩, ⟨gd, rfl, nt hb.size t8, OwnSA.low ho hb.size⟩, j8⟩
 have p8 := fun w' (hb : Below w2.heap.size w2 w') => Jbu A A' n c n' c' wd B m f x w' (hm2.next hb).mx0
 obtain ⟨q, hq⟩ : ∃ q, Vm f x = q := ⟨_, rfl⟩
 rw [hq] at p8
 unfold qV at p8
 have HCO := lh p8
 have HQ := lh hq
 have b0 := At1.mk' b0.c1
 clear p8 hq hm2
 go_cut [9] (fun v wc => ∃ g9 gd kv, v = .pointer (some ⟨g9, 0, none⟩) /\ FT w n g9 gd kv (Xk wd x f 0) (Yc wd x f 0) wc)
 case first =>
  obtain ⟨bA, bB⟩ := b0.c2; have c0 := b0.drew; have bZ := c0.lt; have c1 := b1.drew; have hc := Jl w2; obtain ⟨p9, q8⟩ := c0.c2
  go_region_held3 (fun w' => w'.cell? ⟨w.heap.size, 0, none⟩ = some (.slice A n c)) (go_keep) (first | (go_at_call 58; (first | with_reducible refine (HDP.out _ hc).mono ?_ | with_reducible refine (HDP.out _ (Ja hc (Jb _ _))).mono ?_ | with_reducible refine (HDP.out _ (Ja hc (Ji _ _ _))).mono ?_ | with_reducible refine (HDP.out _ (Ja (Jb _ _) (Jl _))).mono ?_); rintro e w3 ⟨v1, rfl, ⟨A1, c1c, eY⟩, o7, j7⟩; subst eY; (try clear p9 q8); (first | have c0 := c0.ya j7 | have c0 := c0.yb j7 | have c0 := c0.yc j7 | have c0 := ((b0.alloc (.cells #[.slice none 0 0, .slice none 0 0, .slice none 0 0] 33)).drew).ya j7); obtain ⟨p9, q8⟩ := c0.c2; (try clear bZ); have bZ := c0.lt; (first | have c1 := c1.ya j7 | have c1 := c1.yb j7 | have c1 := c1.yc j7 | have c1 := ((b1.alloc (.cells #[.slice none 0 0, .slice none 0 0, .slice none 0 0] 33)).drew).ya j7); (try have cR := cR.yy j7); (try (first | (have cR := Blk.below (w := (w2.alloc (.cells #[.slice none 0 0, .slice none 0 0, .slice none 0 0] 33)).drew) (Blk.new w2 33 #[.slice none 0 0, .slice none 0 0, .slice none 0 0]) j7 (Blk.new w2 33 #[.slice none 0 0, .slice none 0 0, .slice none 0 0]).lt; have cRg := Nat.le_refl w2.heap.size) | (have cR := (Blk.new _ 33 #[.slice none 0 0, .slice none 0 0, .slice none 0 0]).below j7 (Blk.new _ 33 #[.slice none 0 0, .slice none 0 0, .slice none 0 0]).lt; have cRg := hc.size) | (have cR := (Blk.new2 _ _ 33 #[.slice none 0 0, .slice none 0 0, .slice none 0 0]).below j7 (Blk.new2 _ _ 33 #[.slice none 0 0, .slice none 0 0, .slice none 0 0]).lt; have cRg := Nat.le_succ_of_le hc.size) | (have cR := ((Blk.new _ 33 #[.slice none 0 0, .slice none 0 0, .slice none 0 0]).alloc _).below j7 ((Blk.new _ 33 #[.slice none 0 0, .slice none 0 0, .slice none 0 0]).alloc _).lt; have cRg := hc.size))); (try (have cRn := Ji6 HS2.out cRg; have cRm := Ji5 HS2.out cRg)); (try (first | have kS := OwnW.next kS j7 | have kS := OwnW.next (OwnW.alloc kS _) j7 | have kS := OwnW.next (OwnW.alloc (OwnW.alloc kS _) _) j7)); (try (first | have kS := OwnW.next (Zt _ q) j7 | have kS := OwnW.next (OwnW.alloc (Zt _ q) _) j7)); (try clear x8 x9 y8 y9 aA aB aC aD aE); (try obtain ⟨x8, x9, y8, y9, aA, aB, aC, aD, aE⟩ := cR.f3); (first | have hc := Ja hc j7 | have hc := Ja (Ja hc (Jb _ _)) j7 | have hc := Ja (Ja hc (Ji _ _ _)) j7 | have hc := Ja (Ja (Jb _ _) (Jl _)) j7)) | (go_at_call 59; (first | with_reducible refine (HCO.out _ hc).mono ?_ | with_reducible refine (HCO.out _ (Ja hc (Jb _ _))).mono ?_ | with_reducible refine (HCO.out _ (Ja hc (Ji _ _ _))).mono ?_ | with_reducible refine (HCO.out _ (Ja (Jb _ _) (Jl _))).mono ?_); rintro e w4 ⟨rfl, j6⟩; (try clear p9 q8); (first | have c0 := c0.ya j6 | have c0 := c0.yb j6 | have c0 := c0.yc j6 | have c0 := ((b0.alloc (.cells #[.slice none 0 0, .slice none 0 0, .slice none 0 0] 33)).drew).ya j6); obtain ⟨p9, q8⟩ := c0.c2; (try clear bZ); have bZ := c0.lt; (first | have c1 := c1.ya j6 | have c1 := c1.yb j6 | have c1 := c1.yc j6 | have c1 := ((b1.alloc (.cells #[.slice none 0 0, .slice none 0 0, .slice none 0 0] 33)).drew).ya j6); (try have cR := cR.yy j6); (try (first | (have cR := Blk.below (w := (w2.alloc (.cells #[.slice none 0 0, .slice none 0 0, .slice none 0 0] 33)).drew) (Blk.new w2 33 #[.slice none 0 0, .slice none 0 0, .slice none 0 0]) j6 (Blk.new w2 33 #[.slice none 0 0, .slice none 0 0, .slice none 0 0]).lt; have cRg := Nat.le_refl w2.heap.size) | (have cR := (Blk.new _ 33 #[.slice none 0 0, .slice none 0 0, .slice none 0 0]).below j6 (Blk.new _ 33 #[.slice none 0 0, .slice none 0 0, .slice none 0 0]).lt; have cRg := hc.size) | (have cR := (Blk.new2 _ _ 33 #[.slice none 0 0, .slice none 0 0, .slice none 0 0]).below j6 (Blk.new2 _ _ 33 #[.slice none 0 0, .slice none 0 0, .slice none 0 0]).lt; have cRg := Nat.le_succ_of_le hc.size) | (have cR := ((Blk.new _ 33 #[.slice none 0 0, .slice none 0 0, .slice none 0 0]).alloc _).below j6 ((Blk.new _ 33 #[.slice none 0 0, .slice none 0 0, .slice none 0 0]).alloc _).lt; have cRg := hc.size))); (try (have cRn := Ji6 HS2.out cRg; have cRm := Ji5 HS2.out cRg)); (try (first | have kS := OwnW.next kS j6 | have kS := OwnW.next (OwnW.alloc kS _) j6 | have kS := OwnW.next (OwnW.alloc (OwnW.alloc kS _) _) j6)); (try (first | have kS := OwnW.next (Zt _ q) j6 | have kS := OwnW.next (OwnW.alloc (Zt _ q) _) j6)); (try (first | have o7 := o7.next j6 | have o7 := (o7.next (Jb _ _)).next j6 | have o7 := (o7.next (Ji _ _ _)).next j6)); (try clear x8 x9 y8 y9 aA aB aC aD aE); (try obtain ⟨x8, x9, y8, y9, aA, aB, aC, aD, aE⟩ := cR.f3); (try clear cJ cK cL cM cN cO cP cQ cS); (try obtain ⟨cJ, cK, cL, cM, cN, cO, cP, cQ, cS⟩ := (cR.alloc (.cells #[.bool (decide (q.num < 0)), .int .u64 (lo q.num.natAbs : Int), .string (mo q.num.natAbs), .int .u64 (lo ((qden q)) : Int), .string (mo ((qden q)))] 65)).f3); (first | have hc := Ja hc j6 | have hc := Ja (Ja hc (Jb _ _)) j6 | have hc := Ja (Ja hc (Ji _ _ _)) j6 | have hc := Ja (Ja (Jb _ _) (Jl _)) j6)))
  all_goals
   go_wp2
   go_meet
   have hk : Yc wd x f 0 = [q] := by show [Vm f x] = [q]; rw [HQ.out]
   rw [hk]
   first
    | exact ft_1 HB2.out HS2.out c1 o7 hc
    | exact ft_2 HB2.out HS2.out c1 o7 hc
    | exact ft_3 HB2.out HS2.out c1 o7 hc cR cRg
 case rest =>
  obtain ⟨g9, gd0, kv0, rfl, l5⟩ := hcut
  rename World => w3
  have HFT := lh l5
  clear l5 b0 b1 HDP HCO HQ HS2 HB2
  go_upto_block 0 with fail
  go_cut [] (fun wc => ∃ gd kv, FT w n g9 gd kv (Xk wd x f most) (Yc wd x f most) wc)
  case first =>
   go_wp2_with fail
   go_loopw [41] (fun p wr => ∃ (i gd : Nat) (kv : Value), i <= most /\ p = .int .i64 (i : Int) /\ FT w n g9 gd kv (Xk wd x f i) (Yc wd x f i) wr) (fun p _ => most - (intOf p).toNat)
   case atStart => exact ⟨0, gd0, kv0, by omega, rfl, HFT.out⟩
   case round =>
    obtain ⟨i, gd, kv, hi, rfl, l5⟩ := hrel
    rename World => wr
    clear HFT
    by_cases fN : i < most
    ·have k1 : (i : Int) < (most : Int) := by omega
     have eA := (H.out.next l5.bel)
     have hmx := eA.with_ i gd l5.rows
     have cT := fun w' (hb : Below wr.heap.size wr w') => Jbt (some ⟨gd, 0, none⟩) A' n n n' c' wd wr.heap.size m (Xk wd x f i) x w' (hmx.next hb) H.out.hwd1
     obtain ⟨M, hM⟩ : ∃ M, Ya wd (Xk wd x f i) x = M := ⟨_, rfl⟩
     rw [hM] at cT
     have HST := lh (cT wr (Below.refl _ _))
     have HF := lh l5
     have HM := lh hM
     obtain ⟨x0, x1, x2⟩ := l5.run.c3
     clear cT l5 hM eA hmx
     go_upto_region 9 with fail
     go_cut [10, 11] (fun v m wc => m = .int .i64 (M : Int) /\ ∃ g10 gd2, v = .pointer (some ⟨g10, 0, none⟩) /\ Blk wc g10 30 #[.slice (some ⟨gd2, 0, none⟩) n n] /\ wr.heap.size <= gd2 /\ OwnSA 31 OwnQ wr.heap.size wc.heap.size wc (.slice (some ⟨gd2, 0, none⟩) n n) (Ki wd (Xk wd x f i) x) /\ Below wr.heap.size wr wc /\ wr.heap.size <= g10)
     case first =>
      go_wp2_with fail
      refine HST.out.mono ?_
      rintro e w5 ⟨gd2, rfl, q9, aS, j0⟩
      go_wp2
      go_meet
      exact ⟨rfl, w5.heap.size, gd2, rfl, Blk.new _ _ _, q9, (OwnSA.next (Qe (by decide)).toKind aS (Jb _ _)).more (Jb _ _).size, Ja j0 (Jb _ _), j0.size⟩
     case rest =>
      obtain ⟨rfl, g10, gd2, rfl, b10, q9, aS, j0, eZ⟩ := hcut
      rename World => w5
      have l7 := HF.out.after j0
      have lk := OwnW.lt HF.out.costs
      clear x0 x1 x2 HST
      by_cases cA : M = 0
      ·subst cA
       have hs := Jdi HM.out most (by omega)
       have HF5 : Hid (FT w n g9 gd kv (Xk wd x f most) (Yc wd x f most) w5) := lh (by rw [hs.1, hs.2]; exact l7)
       clear l7 hs aS j0 b10 HF HM lk
       go_wp2
       go_meet
       exact ⟨gd, kv, HF5.out⟩
      have q1 : ((M : Int) == 0) = false := by simp; omega
      have q2 : ¬ (M : Int) = 0 := by omega
      have q3 : ((M : Int) != 0) = true := by simp; omega
      have hC : Xk wd x f (i + 1) = Ki wd (Xk wd x f i) x := if_neg (by rw [HM.out]; exact cA)
      have hK : Yc wd x f (i + 1) = Yc wd x f i ++ [Vm (Xk wd x f (i + 1)) x] := by rw [hC]; exact if_neg (by rw [HM.out]; exact cA)
      rw [<- hC] at aS
      have lwr := HF.out.bel.size
      have hsm := l7.setModel lwr (nt lwr q9) aS
      have HSM := lh hsm
      have y0 := b10.c1
      obtain ⟨r0, r1, r2, r3, r4, r5, r6, r7, r8⟩ := l7.run.f3
      have n10 : g10 ≠ g9 := fun e => by have := HF.out.run.lt; omega
      have HB10 := lh b10
      have HK := lh hK
      have lf5 := j0.size
      clear l7 hsm aS j0 b10 hC hK HM cA
      go_upto_region 11 with fail
      go_cut [] (fun wc => FT w n g9 gd2 kv (Xk wd x f (i + 1)) (Yc wd x f i) wc /\ OwnSA 31 OwnQ wr.heap.size wc.heap.size wc (.slice (some ⟨gd2, 0, none⟩) n n) (Xk wd x f (i + 1)) /\ Blk wc g10 30 #[.slice (some ⟨gd2, 0, none⟩) n n])
      case first =>
       go_wp2
       go_meet
       exact ⟨HSM.out.1, HSM.out.2, HB10.out.far (p := ⟨g9, 0, none⟩) n10 _⟩
      case rest =>
       obtain ⟨p0, bC, b10⟩ := hcut
       rename World => w6
       clear y0 r0 r1 r2 r3 r4 r5 r6 r7 r8 HSM HB10
       obtain ⟨Ak, ck, hv⟩ := OwnQ.form3m p0.costs
       subst hv
       obtain ⟨gk, rfl, -⟩ := OwnQ.addr' p0.costs (Jb4 i)
       obtain ⟨nk, aT⟩ : ∃ nk, (Yc wd x f i).length = nk := ⟨_, rfl⟩
       rw [aT] at p0 lk HF
       have cG := lk gk rfl
       have bD := (H.out.next p0.bel).with_ (i + 1) gd2 p0.rows
       have p8 := fun w' (hb : Below w6.heap.size w6 w') => Jbu (some ⟨gd2, 0, none⟩) A' n n n' c' wd w6.heap.size m (Xk wd x f (i + 1)) x w' (bD.next hb)
       obtain ⟨q, hq⟩ : ∃ q, Vm (Xk wd x f (i + 1)) x = q := ⟨_, rfl⟩
       rw [hq] at p8 HK
       unfold qV at p8
       have HCO := lh p8
       have fA : nk <= i + 1 := by rw [<- aT]; exact Jb5 i
       obtain ⟨nk2, bE⟩ : ∃ nk2, (Yc wd x f i ++ [q]).length = nk2 := ⟨_, rfl⟩
       have HN2 := lh bE
       have HLK : Hid ((Yc wd x f i).length <= 1000000) := lh (by omega)
       have b9 := p0.run
       have b10 := At1.mk' b10.c1
       have HF6 := lh p0
       have HO6 := lh bC
       have n9 : g9 ≠ gk := fun e => Own.ne_blk p0.costs p0.run (by decide) (by rw [e]; rfl)
       clear p0 bC bD p8 hq aT bE fA lk HF
       go_upto_region 12 with fail
       obtain ⟨fB, fC, fD⟩ := b9.c3; have c9 := b9.drew; have eB := c9.lt; obtain ⟨eC, eD⟩ := b10.c2; have c10 := b10.drew; have bF := c10.lt; have hc := Jl w6; go_region_law (first | (go_simp; go_at_call 59; (with_reducible refine (HCO.out _ hc).mono ?_); rintro e w1 ⟨rfl, u4⟩; (try clear bG bH bI); obtain ⟨c9, bG, bH, bI⟩ := c9.zc3 u4; (try clear eB); have eB := c9.lt; (try clear bJ bK); obtain ⟨c10, bJ, bK⟩ := c10.zc2 u4; (try clear bF); have bF := c10.lt; have hc := Ja hc u4) | (refine Jk9 rfl (.tmp 55) (.tmp 59) rfl w1 _ (Yc wd x f i) q (by simp [Act.eval, Act.put]) (OwnW.next HF6.out.costs hc) (by simp [Act.eval, Act.put]) HLK.out ?_; intro v7 w7 aU cU; obtain ⟨A7, ck7, fE⟩ := OwnQ.formNm aU HN2.out; subst fE; have fF := Exc.grow cU; have HO7 := lh aU; have HG7 := lh cU; clear bG bH bI; obtain ⟨r0, r1, r2, r3, r4, r5, r6, r7, r8⟩ := (c9.exc fF n9).f3; clear aU cU))
       all_goals
        go_wp2
        have hz := (HF6.out.after hc).setCosts ((OwnSA.next (Qe (by decide)).toKind HO6.out hc).more hc.size) cG q9 lwr HG7.out HO7.out
        rw [<- HK.out] at hz
        exact ⟨⟨i + 1, gd2, _, by omega, by go_num, hz⟩, by simp [intOf]; omega⟩
    obtain rfl : i = most := by omega
    have k1 : ¬ (i : Int) < (i : Int) := by omega
    have HFT := lh l5
    clear l5
    go_wp2
    go_meet
    exact ⟨gd, kv, HFT.out⟩
  case rest =>
   obtain ⟨gd, kv, l5⟩ := hcut
   rename World => w4
   clear HFT
   have hmx := (H.out.next l5.bel).with_ most gd l5.rows
   have HG := lh (Jad (some ⟨gd, 0, none⟩) A' n n n' c' wd w4.heap.size m (Xk wd x f most) x w4 hmx)
   have HF := lh l5
   obtain ⟨x0, x1, x2⟩ := l5.run.c3
   obtain ⟨Ak, ck, hv⟩ := OwnQ.form3m l5.costs
   obtain ⟨nk, aT⟩ : ∃ nk, (Yc wd x f most).length = nk := ⟨_, rfl⟩
   rw [aT] at hv
   subst hv
   clear l5 hmx aT
   go_upto_region 14 with fail
   go_cut [] (fun wc => ∃ gg, Blk wc g9 33 #[.slice (some ⟨gd, 0, none⟩) n n, .slice (some ⟨gg, 0, none⟩) n' n', .slice Ak nk ck] /\ Blk wc (w.heap.size + 1) 33 #[.slice none 0 0, .slice none 0 0, .slice none 0 0] /\
    OwnSA 31 OwnQ w.heap.size wc.heap.size wc (.slice (some ⟨gd, 0, none⟩) n n) (Xk wd x f most) /\ OwnQ wc (.slice Ak nk ck) (Yc wd x f most) /\ Own wc 3 iv (.slice (some ⟨gg, 0, none⟩) n' n') (Qu (Xk wd x f most) x) /\ Below w.heap.size w wc)
   case first =>
    go_wp2_with fail
    refine HG.out.mono ?_
    rintro e w5 ⟨gg, rfl, fO, eE, j0⟩
    have l7 := HF.out.after j0
    have n9 : g9 ≠ gg := by have := HF.out.run.lt; omega
    have hy : Exc g9 w5 (w5.setCell ⟨g9, 1, none⟩ (.slice (some ⟨gg, 0, none⟩) n' n')) := (Exc.refl _ _).set_ _ _
    have hs : (w5.setCell ⟨g9, 1, none⟩ (.slice (some ⟨gg, 0, none⟩) n' n')).heap.size = w5.heap.size := by simp
    have h9 := l7.h9
    have HZ : Hid (Blk (w5.setCell ⟨g9, 1, none⟩ (.slice (some ⟨gg, 0, none⟩) n' n')) g9 33 #[.slice (some ⟨gd, 0, none⟩) n n, .slice (some ⟨gg, 0, none⟩) n' n', .slice Ak nk ck] /\ Blk (w5.setCell ⟨g9, 1, none⟩ (.slice (some ⟨gg, 0, none⟩) n' n')) (w.heap.size + 1) 33 #[.slice none 0 0, .slice none 0 0, .slice none 0 0] /\
      OwnSA 31 OwnQ w.heap.size (w5.setCell ⟨g9, 1, none⟩ (.slice (some ⟨gg, 0, none⟩) n' n')).heap.size (w5.setCell ⟨g9, 1, none⟩ (.slice (some ⟨gg, 0, none⟩) n' n')) (.slice (some ⟨gd, 0, none⟩) n n) (Xk wd x f most) /\ OwnQ (w5.setCell ⟨g9, 1, none⟩ (.slice (some ⟨gg, 0, none⟩) n' n')) (.slice Ak nk ck) (Yc wd x f most) /\ Own (w5.setCell ⟨g9, 1, none⟩ (.slice (some ⟨gg, 0, none⟩) n' n')) 3 iv (.slice (some ⟨gg, 0, none⟩) n' n') (Qu (Xk wd x f most) x) /\ Below w.heap.size w (w5.setCell ⟨g9, 1, none⟩ (.slice (some ⟨gg, 0, none⟩) n' n'))) :=
     lh ⟨by simpa using l7.run.set_ 1 (.slice (some ⟨gg, 0, none⟩) n' n'), l7.res.exc hy (by omega), by rw [hs]; exact OwnSA.excB l7.rows hy l7.run (by decide) (by decide), OwnQ.excm l7.costs hy (Own.ne_blk l7.costs l7.run (by decide)), eE.exc hy (fun e => n9 (Zm e).symm), l7.bel.setCell (show w.heap.size <= g9 by omega) _⟩
    obtain ⟨r0, r1, r2, r3, r4, r5, r6, r7, r8⟩ := l7.run.f3
    clear l7 eE j0 hy hs
    go_wp2
    go_meet
    exact ⟨gg, HZ.out⟩
   case rest =>
    obtain ⟨gg, h1, h2, h3, h4, h5, h6⟩ := hcut
    rename World => w6
    have hd := HF.out.hd
    have h9 := HF.out.h9
    clear HG HF x0 x1 x2
    obtain ⟨x0, x1, x2⟩ := h1.c3
    obtain ⟨s0, s1, s2, s3, s4, s5, s6, s7, s8⟩ := h2.f3
    have H3 := lh h3
    have H4 := lh h4
    have H5 := lh h5
    have H6 := lh h6
    have H2 := lh h2
    clear h1 h2 h3 h4 h5 h6
    go_wp2
    refine bodyPost_ret (v := .tuple #[.agg #[.slice (some ⟨gd, 0, none⟩) n n, .slice (some ⟨gg, 0, none⟩) n' n', .slice Ak nk ck], .int .i64 0]) (by simp [results, Tryz.results15, go_sem, s6, s7, s8]) rfl ?_
    have hy : Exc (w.heap.size + 1) w6 (((w6.setCell ⟨w.heap.size + 1, 0, none⟩ (.slice (some ⟨gd, 0, none⟩) n n)).setCell ⟨w.heap.size + 1, 1, none⟩ (.slice (some ⟨gg, 0, none⟩) n' n')).setCell ⟨w.heap.size + 1, 2, none⟩ (.slice Ak nk ck)) := (((Exc.refl _ _).set_ _ _).set_ _ _).set_ _ _
    have hs : (((w6.setCell ⟨w.heap.size + 1, 0, none⟩ (.slice (some ⟨gd, 0, none⟩) n n)).setCell ⟨w.heap.size + 1, 1, none⟩ (.slice (some ⟨gg, 0, none⟩) n' n')).setCell ⟨w.heap.size + 1, 2, none⟩ (.slice Ak nk ck)).heap.size = w6.heap.size := by simp
    refine ⟨gd, gg, _, rfl, hd, ?_, OwnQ.excm H4.out hy (Own.ne_blk H4.out H2.out (by decide)), H5.out.exc hy (fun e => ?_), Jj0 H6.out (show w.heap.size <= w.heap.size + 1 by omega) _ _ _⟩
    ·unfold Ja9
     rw [hs]
     exact OwnSA.excB H3.out hy H2.out (by decide) (by decide)
    obtain ⟨cs', fr', k3⟩ := Own.blk H5.out e
    have k4 := H2.out
    rw [Blk, k3] at k4
    injection k4 with k4
    injection k4 with _ k4 _
    exact absurd k4 (by decide)
theorem Ji1 (w : World) (r : RC) (q : Rat) (hq : IsQ w w.heap.size r.v q) : OwnR (w.alloc (.cells #[.bool r.g, .slice r.A r.l r.c, .slice r.A' r.l' r.c'] 56)) (.slice (some ⟨w.heap.size, 0, none⟩) 1 1) [q] := by
 refine ⟨[r], ⟨by simp [RC.len], .inr ⟨w.heap.size, 1, #[.bool r.g, .slice r.A r.l r.c, .slice r.A' r.l' r.c'], rfl, Nat.zero_le _, heap_alloc_new w _, Nat.le_refl _, by unfold maxLen; omega, by simp, by simp [RC.cs]⟩⟩, rfl, fun i r' q' h1 h2 => ?_⟩
 match i, h1, h2 with
 | 0, h1, h2 =>
  obtain rfl := Option.some.inj h1
  obtain rfl := Option.some.inj h2
  exact (hq.next zd (Jb _ _)).more (Jb _ _).size
 | n + 1, h1, h2 => simp at h1
def Qr (zs : List Int) : List (List Rat) := zs.map fun (z : Int) => [(z : Rat)]
theorem Jbz (A : Option Addr) (n c B : Nat) (zs : List Int) (w : World) (h : ReadsZ w B A n zs) (hB : B <= w.heap.size) (hn : n <= 1000) :
  Calls Tryz.prog 51 #[.slice A n c] w fun e w' => ∃ v, e = .returned v /\ Jap w' v (Qr zs) /\ (∀ b, v.ownBlock = some b -> w.heap.size <= b) /\ Below w.heap.size w w' := by
 have H := lh h
 have HLN := lh h.len
 clear h
 go_enter Tryz.func51, Tryz.ntmps51
 go_wp2_with fail
 go_loopw [3, 4] (fun v i wr => ∃ k : Nat, k <= n /\ i = .int .i64 (k : Int) /\ Jap wr v (Qr (zs.take k)) /\ (∀ b, v.ownBlock = some b -> w.heap.size <= b) /\ Below w.heap.size w wr) (fun _ i _ => n - (intOf i).toNat)
 case atStart => exact ⟨0, by omega, rfl, OwnS.nil _ _ _, (fun b h => by cases h), Below.refl _ _⟩
 case round =>
  obtain ⟨k, hk, rfl, j9, cB, o8⟩ := hrel
  rename World => wr
  by_cases fG : k < n
  ·have k1 : (k : Int) < (n : Int) := by omega
   obtain ⟨ad, z, rfl, hz, eF, bW, bX⟩ := (H.out.below (o8.mono hB)).cell fG
   have eG : Qr (zs.take (k + 1)) = Qr (zs.take k) ++ [[(z : Rat)]] := by unfold Qr; rw [List.take_add_one, hz]; simp
   have aV := Jlb z wr bW bX
   generalize (z : Rat) = q at *
   have HOF := lh aV
   have HSC := lh eG
   have HO := lh j9
   have HFR := lh cB
   have HBL := lh o8
   have HLK := lh (show (Qr (zs.take k)).length <= 1000000 by unfold Qr; rw [List.length_map, List.length_take]; omega)
   clear eG aV hz j9 cB o8 bW bX
   go_wp2_with fail
   refine HOF.out.mono ?_
   rintro e w1 ⟨v1, rfl, o7, u4⟩
   obtain ⟨g1, A1, l1, c1c, A1', l1', c1c', rfl⟩ := o7.shape
   have bL := OwnS.next Tryz.kindRR (OwnS.next Tryz.kindRR HO.out u4) (Jb w1 (.cells #[.bool g1, .slice A1 l1 c1c, .slice A1' l1' c1c'] 56))
   have cV := Ji1 w1 ⟨g1, A1, l1, c1c, A1', l1', c1c'⟩ q o7
   have o9 := (HBL.out.trans (u4.mono HBL.out.size)).trans ((Jb w1 (.cells #[.bool g1, .slice A1 l1 c1c, .slice A1' l1' c1c'] 56)).mono (nt HBL.out.size u4.size))
   clear HOF u4
   go_wp2_with (at_builtin; refine Jmc Tryz.kindRR Tryz.eltM rfl (.tmp 11) (.tmp 18) rfl (w1.alloc (.cells #[.bool g1, .slice A1 l1 c1c, .slice A1' l1' c1c'] 56)) _ (Qr (zs.take k)) (some ⟨w1.heap.size, 0, none⟩) 1 1 [q] rfl bL cV (by simp [Act.eval, Act.put]) HLK.out ?_; intro v' w2 u5 bY)
   have bM := o9.trans (bY.below o9.size HFR.out)
   have cW := bY.fresh o9.size HFR.out
   rw [<- HSC.out] at u5
   exact ⟨⟨k + 1, by omega, by go_num, u5, cW, bM⟩, by simp [intOf]; omega⟩
  obtain rfl : k = n := by omega
  have k1 : ¬ (k : Int) < (k : Int) := by omega
  rw [List.take_of_length_le (by have := HLN.out; omega)] at j9
  have HO := lh j9
  have HFR := lh cB
  have HBL := lh o8
  clear j9 cB o8
  go_wp2
  go_ret
  exact ⟨_, rfl, HO.out, HFR.out, HBL.out⟩
theorem OwnQQ.excM {T t : TypeId} {x : Nat} {w w' : World} {v : Value} {cs : Array Value} {bl : List (List Rat)} (h : OwnS T OwnQ w v bl) (he : Exc x w w') (hb : Blk w x t cs) (hT : t ≠ T) (hQ : t ≠ 65) : OwnS T OwnQ w' v bl := by
 obtain ⟨rl, h1, h2, h3⟩ := h
 refine ⟨rl, h1.exc he (fun e => ?_), h2, fun i r b hr aY => OwnQ.excm (h3 i r b hr aY) he (Own.ne_blk (h3 i r b hr aY) hb hQ)⟩
 obtain ⟨cs', fr', k3⟩ := Own.blk h1 e
 rw [Blk, k3] at hb
 injection hb with hb
 injection hb with _ hb _
 exact hT hb.symm
theorem Jjd (A : Option Addr) (n c B : Nat) (xl : List (List Rat)) (w : World) (h : Jhc w B A n xl) (eH : B <= w.heap.size) (hn : n <= 1000) (hl : ∀ l ∈ xl, l.length <= 1000000 /\ ∀ x ∈ l, QS 549755813888 x) (hT : Tab w) :
  Calls Tryz.prog 17 #[.slice A n c] w fun e w' => ∃ v, e = .returned (.agg #[v]) /\ OwnQQ w' v xl /\ (∀ b, v.ownBlock = some b -> w.heap.size <= b) /\ Below w.heap.size w w' := by
 have HI := lh (fun w' (hb : Below w.heap.size w w') => Uq A n c B xl w' (h.below Jiw (hb.mono eH)) (nt eH hb.size) hn hl (hT.next hb))
 clear h hl hT
 obtain ⟨b0, hB, hZ⟩ := bx1 w 30 #[.slice none 0 0]
 go_enter Tryz.func17, Tryz.ntmps17
 go_wp2_with fail
 generalize (w.alloc (.cells #[.slice none 0 0] 30)) = W at *
 refine (HI.out _ hB).mono ?_
 rintro e w1 ⟨v, rfl, ho, hf, e9⟩
 have b0 := b0.below e9 b0.lt
 have HO := lh ho
 have HF := lh hf
 have HB1 := lh (hB.trans (e9.mono hB.size))
 have HSZ := lh (show W.heap.size <= w1.heap.size from e9.size)
 obtain ⟨A1, c1, hv⟩ := OwnS.form ho
 subst hv
 obtain ⟨f0, f1, f2⟩ := b0.f1
 have bN := hB.size
 clear ho hf e9 hB
 go_wp2
 refine bodyPost_ret (v := .agg #[.slice A1 xl.length c1]) (by simp [results, Tryz.results17, go_sem, f2]) rfl ?_
 have hy : Exc w.heap.size w1 (w1.setCell ⟨w.heap.size, 0, none⟩ (.slice A1 xl.length c1)) := (Exc.refl _ _).set_ _ _
 refine ⟨_, rfl, ?_, fun b hb => nt bN (HF.out b hb), HB1.out.setCell (show w.heap.size <= w.heap.size from Nat.le_refl _) _⟩
 have hz := hZ.out
 exact OwnQQ.excM HO.out hy b0 (by decide) (by decide)
def knX : List (List Rat) := Qr [0, 1, 9, 10]
def knF : List (List Rat) := Qr [0, 1]
theorem Jll : Xk 1 knX knF 10 = [[Rat.divInt 1 2], [Rat.divInt 19 2]] := by kernel_rfl
theorem Jko : Yc 1 knX knF 10 = [145, Rat.divInt 158 9, 1] := by kernel_rfl
theorem Jjh : Qu [[Rat.divInt 1 2], [Rat.divInt 19 2]] knX = [0, 0, 1, 1] := by kernel_rfl
theorem Jji : Xy knF = 0 := by kernel_rfl
theorem Jhy : Yt knF knX = 0 := by kernel_rfl
theorem Ui {k : Nat} {f : List (List Rat)} (h : (f.all fun l => l.all fun y => decide (Je y.num.natAbs <= k) && decide (Je y.den <= k)) = true) : ∀ l ∈ f, ∀ y ∈ l, QS k y := by
 intro l hl y hy
 have h2 := List.all_eq_true.1 (List.all_eq_true.1 h l hl) y hy
 simp at h2
 exact ⟨h2.1, h2.2⟩
theorem Jgc : ∀ l ∈ knX, ∀ y ∈ l, QS 8 y := Ui (by kernel_rfl)
theorem Jjj : ∀ l ∈ knF, ∀ y ∈ l, QS 8 y := Ui (by kernel_rfl)
theorem Xu {f : List (List Rat)} (h : (f.all fun l => decide (l.length = 1)) = true) : ∀ l ∈ f, l.length = 1 := fun l hl => of_decide_eq_true (List.all_eq_true.1 h l hl)
theorem Jlj (w : World) (zs : List Int) (hz : ∀ z ∈ zs, -9223372036854775808 <= z /\ z <= 9223372036854775807) (hl : zs.length <= 1000) : ReadsZ (w.alloc (.cells (zs.map zv).toArray 2)) (w.heap.size + 1) (some ⟨w.heap.size, 0, none⟩) zs.length zs := by
 have h := (Own.lit w 2 zv zs (by unfold maxLen; omega)).reads
 rw [World.size_alloc] at h
 exact ⟨h, hz⟩
theorem Jfi (w : World) (hT : Tab w) : Calls Tryz.prog 20 #[] w (Ret (.bool true) w) := by
 have HL4 : Hid (∀ w, Calls Tryz.prog 51 #[.slice (some ⟨w.heap.size, 0, none⟩) 4 4] (w.alloc (.cells #[.int .i64 0, .int .i64 1, .int .i64 9, .int .i64 10] 2)) fun e w' => ∃ A c, e = .returned (.slice A 4 c) /\ Jap w' (.slice A 4 c) knX /\ Below w.heap.size w w') := lh fun w => by
  refine (Jbz (some ⟨w.heap.size, 0, none⟩) 4 4 (w.heap.size + 1) [0, 1, 9, 10] _ (Jlj w [0, 1, 9, 10] (by decide) (by decide)) (by simp) (by omega)).mono ?_
  rintro e w' ⟨v, rfl, ho, -, hb⟩
  obtain ⟨A, c, hv⟩ := OwnS.form ho
  have hv : v = .slice A 4 c := hv
  subst hv
  exact ⟨A, c, rfl, ho, Ja (Jb w _) hb⟩
 have HL2 : Hid (∀ w, Calls Tryz.prog 51 #[.slice (some ⟨w.heap.size, 0, none⟩) 2 2] (w.alloc (.cells #[.int .i64 0, .int .i64 1] 2)) fun e w' => ∃ A c, e = .returned (.slice A 2 c) /\ Jap w' (.slice A 2 c) knF /\ Below w.heap.size w w') := lh fun w => by
  refine (Jbz (some ⟨w.heap.size, 0, none⟩) 2 2 (w.heap.size + 1) [0, 1] _ (Jlj w [0, 1] (by decide) (by decide)) (by simp) (by omega)).mono ?_
  rintro e w' ⟨v, rfl, ho, -, hb⟩
  obtain ⟨A, c, hv⟩ := OwnS.form ho
  have hv : v = .slice A 2 c := hv
  subst hv
  exact ⟨A, c, rfl, ho, Ja (Jb w _) hb⟩
 have HIN : Hid (∀ (w : World) (A : Option Addr) (c : Nat), Jap w (.slice A 4 c) knX -> Tab w -> Calls Tryz.prog 16 #[.slice A 4 c] w fun e w' => ∃ A c, e = .returned (.slice A 4 c) /\ OwnQQ w' (.slice A 4 c) knX /\ Below w.heap.size w w') := lh fun w A c h hT => by
  refine (Uq A 4 c w.heap.size knX w (OwnS.readS (fun h => OwnR.reads_ h) h) zd (by omega) (fun l hl => ⟨by rw [Xu (by kernel_rfl) l hl]; omega, fun y hy => (Jgc l hl y hy).mono (by omega)⟩) hT).mono ?_
  rintro e w' ⟨v, rfl, ho, -, hb⟩
  obtain ⟨A, c, hv⟩ := OwnS.form ho
  have hv : v = .slice A 4 c := hv
  subst hv
  exact ⟨A, c, rfl, ho, hb⟩
 have HOF : Hid (∀ (w : World) (A : Option Addr) (c : Nat), Jap w (.slice A 2 c) knF -> Tab w -> Calls Tryz.prog 17 #[.slice A 2 c] w fun e w' => ∃ A c, e = .returned (.agg #[.slice A 2 c]) /\ OwnQQ w' (.slice A 2 c) knF /\ Below w.heap.size w w') := lh fun w A c h hT => by
  refine (Jjd A 2 c w.heap.size knF w (OwnS.readS (fun h => OwnR.reads_ h) h) zd (by omega) (fun l hl => ⟨by rw [Xu (by kernel_rfl) l hl]; omega, fun y hy => (Jjj l hl y hy).mono (by omega)⟩) hT).mono ?_
  rintro e w' ⟨v, rfl, ho, -, hb⟩
  obtain ⟨A, c, hv⟩ := OwnS.form ho
  have hv : v = .slice A 2 c := hv
  subst hv
  exact ⟨A, c, rfl, ho, hb⟩
 have HFIT : Hid (∀ (w : World) (A A' : Option Addr) (c c' : Nat), OwnQQ w (.slice A 2 c) knF -> OwnQQ w (.slice A' 4 c') knX -> Tab w -> Calls Tryz.prog 15 #[.slice A' 4 c', .agg #[.slice A 2 c], .int .i64 10] w fun e w' => ∃ gd gg gk ck ga ca, e = .returned (.tuple #[.agg #[.slice (some ⟨gd, 0, none⟩) 2 2, .slice (some ⟨gg, 0, none⟩) 4 4, .slice (some ⟨gk, 0, none⟩) 3 ck], .int .i64 0]) /\
   w'.cell? ⟨gd, 0, none⟩ = some (.slice (some ⟨ga, 0, none⟩) 1 ca) /\ gd < w'.heap.size /\ AtQ w' ga 0 (Rat.divInt 1 2) /\ AtQ w' gk (2 * 5) 1 /\ At1 w' gg 1 (.int .i64 0) /\ Below w.heap.size w w') := lh fun w A A' c c' hf hx hT => by
  have fH : MF w w.heap.size A A' 2 4 1 200 8 knF knX := ⟨⟨OwnS.readS (fun h => OwnQ.reads_ h) hf, OwnS.readS (fun h => OwnQ.reads_ h) hx, Nat.le_refl _, by omega, by omega, by omega, by omega, Xu (by kernel_rfl), Xu (by kernel_rfl), by omega, by omega, fun l hl y hy => (Jjj l hl y hy).mono (by omega), fun l hl y hy => (Jgc l hl y hy).mono (by omega), hT⟩, by omega, by omega, Jgc, by omega⟩
  refine (Jht A A' 2 c 4 c' 1 w.heap.size 200 8 10 knF knX w fH (by omega) Jji Jhy).mono ?_
  rintro e w' ⟨gd, gg, kv, rfl, t8, hm, hk, hg, hb⟩
  rw [Jll] at hm hg
  rw [Jko] at hk
  rw [Jjh] at hg
  obtain ⟨Ak, ck, hv⟩ := OwnQ.form3m hk
  have hv : kv = .slice Ak 3 ck := hv
  subst hv
  obtain ⟨gk, rfl, -⟩ := OwnQ.addr' hk (by decide)
  obtain ⟨A9, m9, cp9, eI, eJ, -, -⟩ := OwnSA.at_ (Qe (T := 31) (by decide)) hm (i := 0) rfl
  obtain ⟨ga, rfl, cZ⟩ := OwnQ.addr' eJ (by decide)
  have cZ : m9 = 1 := cZ
  subst cZ
  exact ⟨gd, gg, gk, ck, ga, cp9, rfl, eI, Vh eI, OwnQ.at_ eJ (k := 0) rfl, OwnQ.at_ hk (k := 2) rfl, At1.mk' (Own.cellf hg (k := 1) rfl), hb⟩
 have s9 := fun w => Ve 1 1 1 w (by omega) (by omega) (by omega) (by omega) (by omega) (by kernel_rfl) ⟨Nat.le_of_ble_eq_true (by kernel_rfl), Nat.le_of_ble_eq_true (by kernel_rfl)⟩
 have t7 := fun w => Ve (Rat.divInt 1 2) 1 2 w (by omega) (by omega) (by omega) (by omega) (by omega) rfl ⟨Nat.le_of_ble_eq_true (by kernel_rfl), Nat.le_of_ble_eq_true (by kernel_rfl)⟩
 generalize hy1 : (1 : Rat) = y1 at s9 HFIT
 generalize hy2 : Rat.divInt 1 2 = y2 at t7 HFIT
 clear hy1 hy2
 unfold qV at s9 t7
 have HI1 := lh s9
 have HI2 := lh t7
 have HT := lh hT
 clear s9 t7 hT
 go_enter Tryz.func20, Tryz.ntmps20
 go_wp2_with fail
 refine (HL4.out w).mono ?_
 rintro e w1 ⟨A1, c1, rfl, eK, e9⟩
 have HO1 := lh eK
 have HB1 := lh e9
 clear eK e9
 go_wp2_with fail
 refine (HIN.out w1 A1 c1 HO1.out (HT.out.next HB1.out)).mono ?_
 rintro e w2 ⟨A2, c2, rfl, eL, e8⟩
 have HO2 := lh eL
 have HB2 := lh (Ja HB1.out e8)
 clear eL e8 HO1 HB1
 go_wp2_with fail
 refine (HL2.out w2).mono ?_
 rintro e w3 ⟨A3, c3, rfl, bO, j8⟩
 have HO3 := lh bO
 have HO2 := lh (OwnS.next Tryz.kindQQ HO2.out j8)
 have HB3 := lh (Ja HB2.out j8)
 clear bO j8 HB2
 go_wp2_with fail
 refine (HOF.out w3 A3 c3 HO3.out (HT.out.next HB3.out)).mono ?_
 rintro e w4 ⟨A4, c4, rfl, x7, o0⟩
 have HO4 := lh x7
 have HO2 := lh (OwnS.next Tryz.kindQQ HO2.out o0)
 have HB4 := lh (Ja HB3.out o0)
 clear x7 o0 HB3 HO3
 go_wp2_with fail
 refine (HFIT.out w4 A4 A2 c4 c2 HO4.out HO2.out (HT.out.next HB4.out)).mono ?_
 rintro e w5 ⟨gd, gg, gk, ck, ga, ca, rfl, hc, hl, h1, h2, h3, j0⟩
 have ha := Jb w5 (.cells #[.slice (some ⟨gd, 0, none⟩) 2 2, .slice (some ⟨gg, 0, none⟩) 4 4, .slice (some ⟨gk, 0, none⟩) 3 ck] 33)
 have b0 := Blk.new w5 33 #[.slice (some ⟨gd, 0, none⟩) 2 2, .slice (some ⟨gg, 0, none⟩) 4 4, .slice (some ⟨gk, 0, none⟩) 3 ck]
 have HB5 := lh ((Ja HB4.out j0).trans (ha.mono (Ja HB4.out j0).size))
 have HSZ := lh (Nat.le_refl w5.heap.size)
 have hd := At1.mk' hc
 have hd := hd.alloc (.cells #[.slice (some ⟨gd, 0, none⟩) 2 2, .slice (some ⟨gg, 0, none⟩) 4 4, .slice (some ⟨gk, 0, none⟩) 3 ck] 33)
 have h1 := h1.alloc (.cells #[.slice (some ⟨gd, 0, none⟩) 2 2, .slice (some ⟨gg, 0, none⟩) 4 4, .slice (some ⟨gk, 0, none⟩) 3 ck] 33)
 have h2 := h2.alloc (.cells #[.slice (some ⟨gd, 0, none⟩) 2 2, .slice (some ⟨gg, 0, none⟩) 4 4, .slice (some ⟨gk, 0, none⟩) 3 ck] 33)
 have h3 := h3.alloc (.cells #[.slice (some ⟨gd, 0, none⟩) 2 2, .slice (some ⟨gg, 0, none⟩) 4 4, .slice (some ⟨gk, 0, none⟩) 3 ck] 33)
 obtain ⟨t0, t1, t2⟩ := b0.c3
 obtain ⟨r0, r1, r2, r3, r4⟩ := h2.c5
 simp only [Nat.reduceMul, Nat.reduceAdd] at r0 r1 r2 r3 r4
 have s0 := h3.c2.1
 have s1 := hd.c2.1
 clear hc hl j0 ha HO4 HO2 HB4 HFIT HOF HIN HL4 HL2 HT
 generalize hW : w5.alloc (.cells #[.slice (some ⟨gd, 0, none⟩) 2 2, .slice (some ⟨gg, 0, none⟩) 4 4, .slice (some ⟨gk, 0, none⟩) 3 ck] 33) = W at b0 HB5 hd h1 h2 h3 t0 t1 t2 r0 r1 r2 r3 r4 s0 s1
 have B0 := lh b0
 go_upto_region 2 with fail
 clear hW b0
 go_wp2_with fail
 refine (HI1.out _).mono ?_
 rintro e w6 ⟨rfl, o6⟩
 have hd := hd.below o6 hd.lt
 have h1 := h1.below o6 h1.lt
 have b0 := B0.out.below o6 B0.out.lt
 have HB6 := lh (Ja HB5.out o6)
 clear t0 t1 t2 r0 r1 r2 r3 r4 s0 s1 o6 h2 h3
 obtain ⟨t0, t1, t2⟩ := b0.c3
 obtain ⟨r0, r1, r2, r3, r4⟩ := h1.c5
 simp only [Nat.reduceMul, Nat.reduceAdd, Nat.zero_add] at r0 r1 r2 r3 r4
 have s1 := hd.c2.1
 go_wp2_with fail
 refine (HI2.out _).mono ?_
 rintro e w7 ⟨rfl, p7⟩
 have HB7 := lh (Ja HB6.out p7)
 clear t0 t1 t2 r0 r1 r2 r3 r4 s1 p7
 go_wp2
 go_ret
 exact ⟨rfl, HB7.out⟩
theorem Ja8 (A A' : Option Addr) (n c wd c' B m : Nat) (f : List (List Rat)) (x : List Rat) (w : World) (h : Yg w B A n f) (h' : ReadsQ w B A' wd x) (hB : B <= w.heap.size) (hn : n <= 1000) (hwd : wd <= 20) (hl : ∀ l ∈ f, l.length = wd) (hm : 1 <= m) (hm2 : m <= 1000000) (hs : ∀ l ∈ f, ∀ y ∈ l, QS m y) (hx : ∀ y ∈ x, QS m y) (hT : Tab w) (aR : Xy f = 0) :
  Calls Tryz.prog 38 #[.agg #[.slice A n c], .slice A' wd c'] w (Ret (.tuple #[.int .i64 (Qy f x : Int), qV (Ye f x), .int .i64 0]) w) := by
 have HCK := lh (fun w' (hb : Below w.heap.size w w') => Ky A n c B f w' (h.below Kb (hb.mono hB)) (nt hB hb.size) hn)
 obtain ⟨fP, -, -⟩ := Jdn aR
 rw [aR] at HCK
 have bN := h.len
 have cC := fun w' (hb : Below w.heap.size w w') => Jac A A' n c wd c' B m f x w' (h.below Kb (hb.mono hB)) (h'.below (hb.mono hB)) (nt hB hb.size) (by omega) hn hwd hl hm hm2 hs hx (hT.next hb)
 obtain ⟨l0, dA⟩ : ∃ l, f[0]? = some l := ⟨_, List.getElem?_eq_getElem (by omega)⟩
 obtain ⟨ad, A0, m0, c0, rfl, bP, dB, eM⟩ := h.at_ dA
 rw [Addr.add_zero'] at dB
 obtain rfl : m0 = wd := by rw [<- eM.len]; exact hl l0 (List.mem_of_getElem? dA)
 have q1 : ((m0 : Int) != (m0 : Int)) = false := by simp
 have p1 : (0 : Int) < (n : Int) := by omega
 have HBB := lh hB
 have HC0 := lh (And.intro dB bP)
 obtain ⟨i, hi⟩ : ∃ i, Qy f x = i := ⟨_, rfl⟩
 obtain ⟨q, hq⟩ : ∃ q, Ye f x = q := ⟨_, rfl⟩
 rw [hi, hq] at cC ⊢
 unfold qV at cC ⊢
 have HN := lh cC
 clear h h' hB aR eM dA dB bP cC hi hq hl hs hx hT
 obtain ⟨b0, b1, hB, hZ⟩ := bx2 w 30 #[.slice (some ad) n c] 65 #[.bool false, .int .u64 0, .string ⟨#[]⟩, .int .u64 0, .string ⟨#[]⟩]
 go_enter Tryz.func38, Tryz.ntmps38
 have x0 := b0.c1
 have HBW := lh hB
 clear hB
 go_wp2_with fail
 generalize ((w.alloc (.cells #[.slice (some ad) n c] 30)).alloc (.cells #[.bool false, .int .u64 0, .string ⟨#[]⟩, .int .u64 0, .string ⟨#[]⟩] 65)) = W at *
 refine (HCK.out _ HBW.out).mono ?_
 rintro e w1 ⟨rfl, e9⟩
 have b0 := b0.below e9 b0.lt
 have b1 := b1.below e9 b1.lt
 have HB1 := lh (HBW.out.trans (e9.mono HBW.out.size))
 clear x0 e9 HBW HCK
 have x0 := b0.c1
 have dC := HB1.out.cell (p := ad) (Nat.lt_of_lt_of_le HC0.out.2 HBB.out)
 rw [HC0.out.1] at dC
 go_upto_region 5 with fail
 go_cut [4] (fun v wc => v = .int .i64 (i : Int) /\ Blk wc (w.heap.size + 1) 65 #[.bool (decide (q.num < 0)), .int .u64 (lo q.num.natAbs : Int), .string (mo q.num.natAbs), .int .u64 (lo ((qden q)) : Int), .string (mo ((qden q)))] /\ Below w.heap.size w wc)
 case first =>
  go_wp2_with fail
  refine (HN.out _ HB1.out).mono ?_
  rintro e w2 ⟨rfl, e8⟩
  have b1 := b1.below e8 b1.lt
  have HB2 := lh (HB1.out.trans (e8.mono HB1.out.size))
  clear x0 dC b0 e8 HB1 HN
  obtain ⟨dD, dE, dF, dG, dH, dI, dJ, dK, dL, dM, bQ, bR, bS, bT, bU⟩ := b1.f5
  go_wp2
  go_meet
  exact ⟨rfl, b1.put5 _ _ _ _ _, Kd HB2.out (show w.heap.size <= w.heap.size + 1 by omega) _ _ _ _ _⟩
 case rest =>
  obtain ⟨rfl, b1, e8⟩ := hcut
  rename World => w2
  have HB2 := lh e8
  clear x0 dC b0 e8 HB1 HN
  obtain ⟨dD, dE, dF, dG, dH, dI, dJ, dK, dL, dM, bQ, bR, bS, bT, bU⟩ := b1.f5
  go_upto_region 6 with fail
  go_region
  all_goals
   go_wp2
   refine bodyPost_ret (v := .tuple #[.int .i64 (i : Int), .agg #[.bool (decide (q.num < 0)), .int .u64 (lo q.num.natAbs : Int), .string (mo q.num.natAbs), .int .u64 (lo ((qden q)) : Int), .string (mo ((qden q)))], .int .i64 0]) (by simp [results, Tryz.results38, go_sem, bQ, bR, bS, bT, bU]) rfl ?_
   exact ⟨rfl, Kd (HB2.out.trans ((Jl _).mono HB2.out.size)) (show w.heap.size <= w.heap.size + 1 by omega) _ _ _ _ _⟩
theorem Jea (A A' : Option Addr) (n c n' c' wd B m : Nat) (f x : List (List Rat)) (w : World) (h : MX w B A A' n n' wd m f x) (hwd1 : 1 <= wd) (aZ : Yt f x = 0) :
  Calls Tryz.prog 33 #[.agg #[.slice A n c], .slice A' n' c'] w fun e w' => ∃ g, e = .returned (.tuple #[.agg #[.slice (some ⟨g, 0, none⟩) n n], .int .i64 (Ya wd f x : Int), .int .i64 0]) /\ w.heap.size <= g /\ Ja9 w g n (Ki wd f x) w' /\ Below w.heap.size w w' := by
 have hn' := h.hn'
 have hn2 := h.hn2
 have HRF := lh (fun w' (hb : Below w.heap.size w w') => Ja2 A A' n c n' c' B f x w' (h.next hb).hf (h.next hb).hx (h.next hb).hB (by omega) (by omega))
 rw [aZ] at HRF
 have HST := lh (fun w' (hb : Below w.heap.size w w') => Jbt A A' n c n' c' wd B m f x w' (h.next hb) hwd1)
 obtain ⟨M, hM⟩ : ∃ M, Ya wd f x = M := ⟨_, rfl⟩
 rw [hM] at HST ⊢
 clear h aZ hM
 obtain ⟨b0, b1, hB, hZ⟩ := bx2 w 30 #[.slice A n c] 30 #[.slice none 0 0]
 go_enter Tryz.func33, Tryz.ntmps33
 have x0 := b0.c1
 have HBW := lh hB
 clear hB
 go_wp2_with fail
 generalize ((w.alloc (.cells #[.slice A n c] 30)).alloc (.cells #[.slice none 0 0] 30)) = W at *
 refine (HRF.out _ HBW.out).mono ?_
 rintro e w1 ⟨rfl, e9⟩
 have b0 := b0.below e9 b0.lt
 have b1 := b1.below e9 b1.lt
 have HB1 := lh (HBW.out.trans (e9.mono HBW.out.size))
 clear x0 e9 HBW HRF
 have x0 := b0.c1
 go_upto_region 4 with fail
 go_cut [5] (fun v wc => v = .int .i64 (M : Int) /\ ∃ g, Blk wc (w.heap.size + 1) 30 #[.slice (some ⟨g, 0, none⟩) n n] /\ w1.heap.size <= g /\ OwnSA 31 OwnQ w1.heap.size wc.heap.size wc (.slice (some ⟨g, 0, none⟩) n n) (Ki wd f x) /\ Below w.heap.size w wc)
 case first =>
  go_wp2_with fail
  refine (HST.out _ HB1.out).mono ?_
  rintro e w2 ⟨g, rfl, hg, hm, e8⟩
  have b1 := b1.below e8 b1.lt
  have HB2 := lh (HB1.out.trans (e8.mono HB1.out.size))
  have HM := lh hm
  have hy : Exc (w.heap.size + 1) w2 (w2.setCell ⟨w.heap.size + 1, 0, none⟩ (.slice (some ⟨g, 0, none⟩) n n)) := (Exc.refl _ _).set_ _ _
  have HY := lh hy
  have hs : (w2.setCell ⟨w.heap.size + 1, 0, none⟩ (.slice (some ⟨g, 0, none⟩) n n)).heap.size = w2.heap.size := by simp
  have HS := lh hs
  obtain ⟨f0, f1, f2⟩ := b1.f1
  clear x0 b0 e8 HB1 HST hm hy hs
  go_wp2
  go_meet
  exact ⟨rfl, g, by simpa using b1.set_ 0 (.slice (some ⟨g, 0, none⟩) n n), hg, by rw [HS.out]; exact OwnSA.excB HM.out HY.out b1 (by decide) (by decide), HB2.out.setCell (show w.heap.size <= w.heap.size + 1 by omega) _⟩
 case rest =>
  obtain ⟨rfl, g, b1, hg, hm, e8⟩ := hcut
  have lw1 := HB1.out.size
  rename World => w2
  have HB2 := lh e8
  have HM := lh hm
  have HB1 := lh b1
  clear x0 b0 e8 HST hm
  obtain ⟨f0, f1, f2⟩ := b1.f1
  go_wp2
  refine bodyPost_ret (v := .tuple #[.agg #[.slice (some ⟨g, 0, none⟩) n n], .int .i64 (M : Int), .int .i64 0]) (by simp [results, Tryz.results33, go_sem, f2]) rfl ?_
  have hy : Exc (w.heap.size + 1) w2 (w2.setCell ⟨w.heap.size + 1, 0, none⟩ (.slice (some ⟨g, 0, none⟩) n n)) := (Exc.refl _ _).set_ _ _
  have hs : (w2.setCell ⟨w.heap.size + 1, 0, none⟩ (.slice (some ⟨g, 0, none⟩) n n)).heap.size = w2.heap.size := by simp
  refine ⟨g, rfl, nt lw1 hg, ?_, HB2.out.setCell (show w.heap.size <= w.heap.size + 1 by omega) _⟩
  unfold Ja9
  rw [hs]
  exact OwnSA.low (OwnSA.excB HM.out hy HB1.out (by decide) (by decide)) lw1
theorem Jd9 (A A' : Option Addr) (n c n' c' : Nat) (w : World) (hn : n ≠ n') :
  Calls Tryz.prog 49 #[.slice A n c, .slice A' n' c'] w (Ret (.tuple #[.agg #[.bool false, .int .u64 0, .string ⟨#[]⟩, .int .u64 0, .string ⟨#[]⟩], .bool false]) w) := by
 have q1 : ¬ (n : Int) = (n' : Int) := by omega
 have q2 : ((n : Int) == (n' : Int)) = false := by simp; omega
 have q3 : ((n : Int) != (n' : Int)) = true := by simp; omega
 obtain ⟨b0, hB, hZ⟩ := bx1 w 65 #[.bool false, .int .u64 0, .string ⟨#[]⟩, .int .u64 0, .string ⟨#[]⟩]
 go_enter Tryz.func49, Tryz.ntmps49
 obtain ⟨bA, bB, dN, dO, dP, dQ, dR, dS, dT, dU, aF, aG, aH, aI, aJ⟩ := b0.f5
 have HB := lh hB
 clear hB
 go_wp2
 refine bodyPost_ret (v := .tuple #[.agg #[.bool false, .int .u64 0, .string ⟨#[]⟩, .int .u64 0, .string ⟨#[]⟩], .bool false]) (by simp [results, Tryz.results49, go_sem, aF, aG, aH, aI, aJ]) rfl ?_
 first
  | exact ⟨rfl, HB.out⟩
  | exact ⟨rfl, Jb w _⟩
  | exact ⟨rfl, Kd HB.out zd _ _ _ _ _⟩
theorem Jkp (n : Int) (w : World) (h0 : -9223372036854775808 <= n) (h1 : n <= 9223372036854775807) (hT : Tab w) : Calls Tryz.prog 50 #[.int .i64 n] w (Ret (qV (rOf n)) w) := by
 have hr := fun w => Jlm n w h0 h1
 have dV := fun B V w h hB hT => Jg4 (rOf n) B V w h hB ((Ji0 n).mono (by omega)) hT
 generalize rOf n = q at *
 unfold qV at dV ⊢
 have HR := lh hr
 have HIN := lh dV
 have HT := lh hT
 clear hr dV hT h0 h1
 obtain ⟨b0, hB, hZ⟩ := bx1 w 65 #[.bool false, .int .u64 0, .string ⟨#[]⟩, .int .u64 0, .string ⟨#[]⟩]
 go_enter Tryz.func50, Tryz.ntmps50
 go_wp2_with fail
 generalize (w.alloc (.cells #[.bool false, .int .u64 0, .string ⟨#[]⟩, .int .u64 0, .string ⟨#[]⟩] 65)) = W at *
 refine (HR.out W).mono ?_
 rintro e w1 ⟨V, rfl, hq, e9⟩
 have HQ := lh hq
 have b0 := b0.below e9 b0.lt
 have hB := Ja hB e9
 obtain ⟨g1, A1, l1, c1, A2, l2, c2, rfl⟩ := hq.shape
 clear hq e9
 go_wp2_with fail
 refine (HIN.out _ _ _ HQ.out zd (HT.out.next hB)).mono ?_
 rintro e w2 ⟨rfl, e8⟩
 have b0 := b0.below e8 b0.lt
 have hB := Ja hB e8
 clear e8 HIN HR
 obtain ⟨bA, bB, dN, dO, dP, dQ, dR, dS, dT, dU, aF, aG, aH, aI, aJ⟩ := b0.f5
 go_wp2
 refine bodyPost_ret (v := .agg #[.bool (decide (q.num < 0)), .int .u64 (lo q.num.natAbs : Int), .string (mo q.num.natAbs), .int .u64 (lo ((qden q)) : Int), .string (mo ((qden q)))]) (by simp [results, Tryz.results50, go_sem, aF, aG, aH, aI, aJ]) rfl ?_
 exact ⟨rfl, Zf hB (by omega) _ _ _ _ _⟩
theorem Jja (w : World) (a b : Rat) : OwnQ (w.alloc (.cells #[.bool (decide (a.num < 0)), .int .u64 (lo a.num.natAbs : Int), .string (mo a.num.natAbs), .int .u64 (lo ((qden a)) : Int), .string (mo ((qden a))), .bool (decide (b.num < 0)), .int .u64 (lo b.num.natAbs : Int), .string (mo b.num.natAbs), .int .u64 (lo ((qden b)) : Int), .string (mo ((qden b)))] 65)) (.slice (some ⟨w.heap.size, 0, none⟩) 2 2) [a, b] :=
 ⟨by simp [Vq], .inr ⟨w.heap.size, 2, #[.bool (decide (a.num < 0)), .int .u64 (lo a.num.natAbs : Int), .string (mo a.num.natAbs), .int .u64 (lo ((qden a)) : Int), .string (mo ((qden a))), .bool (decide (b.num < 0)), .int .u64 (lo b.num.natAbs : Int), .string (mo b.num.natAbs), .int .u64 (lo ((qden b)) : Int), .string (mo ((qden b)))], rfl, Nat.zero_le _, heap_alloc_new w _, Nat.le_refl _, by unfold maxLen; omega, by simp, by simp [qC]⟩⟩
theorem kq1 : Zj [rOf 21, rOf 20] [rOf 20, rOf 23] = 10 := by kernel_rfl
theorem kq2 : Qy (Qr [0, 4]) [((2 : Int) : Rat)] = 0 := by kernel_rfl
theorem kq3 : Ye (Qr [0, 4]) [((2 : Int) : Rat)] = 4 := by kernel_rfl
theorem kq4 : Ki 1 (Qr [0, 99]) (Qr [1, 3]) = [[2], [99]] := by kernel_rfl
theorem kq5 : Ya 1 (Qr [0, 99]) (Qr [1, 3]) = 1 := by kernel_rfl
theorem kq6 : Yt (Qr [0, 99]) (Qr [1, 3]) = 0 := by kernel_rfl
theorem kq7 : Xy (Qr [0, 4]) = 0 := by kernel_rfl
theorem Jjb (a b : Int) (ha : -9223372036854775808 <= a /\ a <= 9223372036854775807) (hb : -9223372036854775808 <= b /\ b <= 9223372036854775807) (w : World) :
  Calls Tryz.prog 51 #[.slice (some ⟨w.heap.size, 0, none⟩) 2 2] (w.alloc (.cells #[.int .i64 a, .int .i64 b] 2)) fun e w' => ∃ A c, e = .returned (.slice A 2 c) /\ Jap w' (.slice A 2 c) (Qr [a, b]) /\ Below w.heap.size w w' := by
 refine (Jbz (some ⟨w.heap.size, 0, none⟩) 2 2 (w.heap.size + 1) [a, b] _ (Jlj w [a, b] (fun z hz => by simp at hz; rcases hz with rfl | rfl <;> assumption) (by simp)) (by simp) (by omega)).mono ?_
 rintro e w' ⟨v, rfl, ho, -, hb⟩
 obtain ⟨A, c, hv⟩ := OwnS.form ho
 have hv : v = .slice A 2 c := hv
 subst hv
 exact ⟨A, c, rfl, ho, Ja (Jb w _) hb⟩
theorem Jl5 {xl : List (List Rat)} {n k : Nat} (hn : xl.length = n) (hn2 : n <= 1000) (h1 : ∀ l ∈ xl, l.length = 1) (hs : ∀ l ∈ xl, ∀ y ∈ l, QS k y) (hk : k <= 549755813888) (w : World) (A : Option Addr) (c : Nat) (h : Jap w (.slice A n c) xl) (hT : Tab w) :
  Calls Tryz.prog 17 #[.slice A n c] w fun e w' => ∃ A c, e = .returned (.agg #[.slice A n c]) /\ OwnQQ w' (.slice A n c) xl /\ Below w.heap.size w w' := by
 refine (Jjd A n c w.heap.size xl w (OwnS.readS (fun h => OwnR.reads_ h) h) zd hn2 (fun l hl => ⟨by rw [h1 l hl]; omega, fun y hy => (hs l hl y hy).mono hk⟩) hT).mono ?_
 rintro e w' ⟨v, rfl, ho, -, hb⟩
 obtain ⟨A, c, hv⟩ := OwnS.form ho
 rw [hn] at hv
 subst hv
 exact ⟨A, c, rfl, ho, hb⟩
theorem in_n {xl : List (List Rat)} {n k : Nat} (hn : xl.length = n) (hn2 : n <= 1000) (h1 : ∀ l ∈ xl, l.length = 1) (hs : ∀ l ∈ xl, ∀ y ∈ l, QS k y) (hk : k <= 549755813888) (w : World) (A : Option Addr) (c : Nat) (h : Jap w (.slice A n c) xl) (hT : Tab w) :
  Calls Tryz.prog 16 #[.slice A n c] w fun e w' => ∃ A c, e = .returned (.slice A n c) /\ OwnQQ w' (.slice A n c) xl /\ Below w.heap.size w w' := by
 refine (Uq A n c w.heap.size xl w (OwnS.readS (fun h => OwnR.reads_ h) h) zd hn2 (fun l hl => ⟨by rw [h1 l hl]; omega, fun y hy => (hs l hl y hy).mono hk⟩) hT).mono ?_
 rintro e w' ⟨v, rfl, ho, -, hb⟩
 obtain ⟨A, c, hv⟩ := OwnS.form ho
 rw [hn] at hv
 subst hv
 exact ⟨A, c, rfl, ho, hb⟩
structure KF (g1 g6 g8 gd ga gb ca cb : Nat) (q1 q6 qa qb : Rat) (w : World) : Prop where
 k1 : Blk w g1 65 #[.bool (decide (q1.num < 0)), .int .u64 (lo q1.num.natAbs : Int), .string (mo q1.num.natAbs), .int .u64 (lo ((qden q1)) : Int), .string (mo ((qden q1)))]
 k6 : Blk w g6 65 #[.bool (decide (q6.num < 0)), .int .u64 (lo q6.num.natAbs : Int), .string (mo q6.num.natAbs), .int .u64 (lo ((qden q6)) : Int), .string (mo ((qden q6)))]
 k8 : Blk w g8 30 #[.slice (some ⟨gd, 0, none⟩) 2 2]
 d0 : At1 w gd 0 (.slice (some ⟨ga, 0, none⟩) 1 ca)
 d1 : At1 w gd 1 (.slice (some ⟨gb, 0, none⟩) 1 cb)
 ea : AtQ w ga 0 qa
 eb : AtQ w gb 0 qb
theorem KF.next {g1 g6 g8 gd ga gb ca cb : Nat} {q1 q6 qa qb : Rat} {w w' : World} (h : KF g1 g6 g8 gd ga gb ca cb q1 q6 qa qb w) (hb : Below w.heap.size w w') : KF g1 g6 g8 gd ga gb ca cb q1 q6 qa qb w' :=
 ⟨h.k1.below hb h.k1.lt, h.k6.below hb h.k6.lt, h.k8.below hb h.k8.lt, h.d0.below hb h.d0.lt, h.d1.below hb h.d1.lt, h.ea.below hb h.ea.lt, h.eb.below hb h.eb.lt⟩
theorem Jjg : ∀ l ∈ Qr [0, 4], ∀ y ∈ l, QS 8 y := Ui (by kernel_rfl)
theorem Jg3 : ∀ l ∈ Qr [0, 99], ∀ y ∈ l, QS 8 y := Ui (by kernel_rfl)
theorem Jjf : ∀ l ∈ Qr [1, 3], ∀ y ∈ l, QS 8 y := Ui (by kernel_rfl)
theorem Jiq : ∀ z : Int, z = 21 \/ z = 20 \/ z = 23 -> QS 16 (rOf z) := by
 rintro z (rfl | rfl | rfl) <;> exact ⟨Nat.le_of_ble_eq_true (by kernel_rfl), Nat.le_of_ble_eq_true (by kernel_rfl)⟩
theorem Jbv (w : World) (hT : Tab w) : Calls Tryz.prog 10 #[] w (Ret (.bool true) w) := by
 have HQ : Hid (∀ (z : Int) (w : World), -100 <= z -> z <= 100 -> Tab w -> Calls Tryz.prog 50 #[.int .i64 z] w (Ret (qV (rOf z)) w)) := lh fun z w h1 h2 hT => Jkp z w (by omega) (by omega) hT
 have HFAR : Hid (∀ (w : World) (A A' : Option Addr) (c c' : Nat), ReadsQ w w.heap.size A 2 [rOf 21, rOf 20] -> ReadsQ w w.heap.size A' 2 [rOf 20, rOf 23] -> Tab w -> Calls Tryz.prog 49 #[.slice A 2 c, .slice A' 2 c'] w (Ret (.tuple #[qV 10, .bool true]) w)) := lh fun w A A' c c' h h' hT => by
  have h1 := Ji8 A A' 2 c c' w.heap.size 16 [rOf 21, rOf 20] [rOf 20, rOf 23] w h h' zd (by omega) (by omega) (by omega) (fun x hx => by simp at hx; rcases hx with rfl | rfl <;> exact Jiq _ (by omega)) (fun x hx => by simp at hx; rcases hx with rfl | rfl <;> exact Jiq _ (by omega)) hT
  rw [kq1] at h1
  exact h1
 have HT := lh hT
 clear hT
 go_enter Tryz.func10, Tryz.ntmps10
 go_upto_region 1 with fail
 go_cut [1, 2] (fun v u wc => u = .bool true /\ Kr w 65 #[.bool (decide (((10 : Rat)).num < 0)), .int .u64 (lo ((((10 : Rat)).num).natAbs) : Int), .string (mo ((((10 : Rat)).num).natAbs)), .int .u64 (lo ((qden ((10 : Rat)))) : Int), .string (mo ((qden ((10 : Rat)))))] v wc)
 case first =>
  have aK := HQ.out 21 w (by omega) (by omega) HT.out
  have aL := fun w hT => HQ.out 20 w (by omega) (by omega) hT
  have aM := fun w hT => HQ.out 23 w (by omega) (by omega) hT
  generalize rOf 21 = a at *
  generalize rOf 20 = b at *
  generalize rOf 23 = d at *
  generalize (10 : Rat) = q at *
  unfold qV at aK aL aM HFAR
  have H21 := lh aK
  have H20 := lh aL
  have H23 := lh aM
  clear aK aL aM HQ
  go_wp2_with fail
  refine H21.out.mono ?_
  rintro e w1 ⟨rfl, e9⟩
  have HB1 := lh e9
  clear e9
  go_wp2_with fail
  refine (H20.out _ (HT.out.next HB1.out)).mono ?_
  rintro e w2 ⟨rfl, e8⟩
  have HB2 := lh (Ja (Ja HB1.out e8) (Jb w2 (.cells #[.bool (decide (a.num < 0)), .int .u64 (lo a.num.natAbs : Int), .string (mo a.num.natAbs), .int .u64 (lo ((qden a)) : Int), .string (mo ((qden a))), .bool (decide (b.num < 0)), .int .u64 (lo b.num.natAbs : Int), .string (mo b.num.natAbs), .int .u64 (lo ((qden b)) : Int), .string (mo ((qden b)))] 65)))
  have HL1 := lh (Jja w2 a b)
  clear e8 HB1
  go_wp2_with fail
  refine (H20.out _ (HT.out.next HB2.out)).mono ?_
  rintro e w3 ⟨rfl, j8⟩
  have HB3 := lh (Ja HB2.out j8)
  have HL3 := lh (OwnW.next HL1.out j8)
  clear j8 HB2 HL1
  go_wp2_with fail
  refine (H23.out _ (HT.out.next HB3.out)).mono ?_
  rintro e w4 ⟨rfl, o0⟩
  have HB4 := lh (Ja (Ja HB3.out o0) (Jb w4 (.cells #[.bool (decide (b.num < 0)), .int .u64 (lo b.num.natAbs : Int), .string (mo b.num.natAbs), .int .u64 (lo ((qden b)) : Int), .string (mo ((qden b))), .bool (decide (d.num < 0)), .int .u64 (lo d.num.natAbs : Int), .string (mo d.num.natAbs), .int .u64 (lo ((qden d)) : Int), .string (mo ((qden d)))] 65)))
  have HL4 := lh (OwnW.next (OwnW.next HL3.out o0) (Jb w4 (.cells #[.bool (decide (b.num < 0)), .int .u64 (lo b.num.natAbs : Int), .string (mo b.num.natAbs), .int .u64 (lo ((qden b)) : Int), .string (mo ((qden b))), .bool (decide (d.num < 0)), .int .u64 (lo d.num.natAbs : Int), .string (mo d.num.natAbs), .int .u64 (lo ((qden d)) : Int), .string (mo ((qden d)))] 65)))
  have HL5 := lh (Jja w4 b d)
  clear o0 HB3 HL3
  go_wp2_with fail
  refine (HFAR.out _ _ _ _ _ (OwnQ.reads_ HL4.out) (OwnQ.reads_ HL5.out) (HT.out.next HB4.out)).mono ?_
  rintro e w5 ⟨rfl, j0⟩
  have hb := Ja HB4.out j0
  clear j0 HB4 HL4 HL5 HFAR
  go_wp2
  go_meet
  refine ⟨rfl, ?_⟩
  first | with_reducible exact Zy hb | with_reducible exact Jbo (Ja hb (Jb _ _)) (Blk.new _ _ _) hb.size
 case rest =>
  obtain ⟨rfl, g1, rfl, fQ, b1, e9⟩ := hcut
  rename World => w1
  have HB1 := lh e9
  have HT1 := lh (HT.out.next e9)
  have HK1 := lh b1
  clear e9 HFAR b1
  go_upto_region 2 with fail
  go_cut [3, 4] (fun v u wc => u = .bool false /\ Below w1.heap.size w1 wc)
  case first =>
   have dW := HQ.out 1 w1 (by omega) (by omega) HT1.out
   generalize rOf 1 = a at *
   unfold qV at dW
   have H1 := lh dW
   clear dW HQ
   go_wp2_with fail
   refine H1.out.mono ?_
   rintro e w2 ⟨rfl, e8⟩
   have HB2 := lh (Ja e8 (Jb w2 (.cells #[.bool (decide (a.num < 0)), .int .u64 (lo a.num.natAbs : Int), .string (mo a.num.natAbs), .int .u64 (lo ((qden a)) : Int), .string (mo ((qden a)))] 65)))
   clear e8
   go_wp2_with fail
   refine (Jd9 _ none 1 1 0 0 _ (by omega)).mono ?_
   rintro e w3 ⟨rfl, j8⟩
   have hb := Ja HB2.out j8
   clear j8 HB2
   go_wp2
   go_meet
   refine ⟨rfl, ?_⟩
   first | exact Ja hb (Jb _ _) | exact Kd (Ja hb (Jb _ _)) hb.size _ _ _ _ _
  case rest =>
   obtain ⟨rfl, e8⟩ := hcut
   rename World => w2
   have HB2 := lh (Ja HB1.out e8)
   have HT2 := lh (HT1.out.next e8)
   have HK2 := lh (HK1.out.below e8 HK1.out.lt)
   clear e8 HB1 HT1 HK1 HQ
   go_upto_region 3 with fail
   go_cut [5, 6, 7] (fun g v e wc => g = .int .i64 0 /\ e = .int .i64 0 /\ Kr w2 65 #[.bool (decide (((4 : Rat)).num < 0)), .int .u64 (lo ((((4 : Rat)).num).natAbs) : Int), .string (mo ((((4 : Rat)).num).natAbs)), .int .u64 (lo ((qden ((4 : Rat)))) : Int), .string (mo ((qden ((4 : Rat)))))] v wc)
   case first =>
    have HL := lh (Jjb 0 4 (by omega) (by omega) w2)
    have HO := lh (Jl5 (xl := Qr [0, 4]) (n := 2) rfl (by omega) (Xu (by kernel_rfl)) Jjg (by omega))
    have HNR : Hid (∀ (w : World) (A A' : Option Addr) (c c' : Nat), OwnQQ w (.slice A 2 c) (Qr [0, 4]) -> OwnQ w (.slice A' 1 c') [((2 : Int) : Rat)] -> Tab w -> Calls Tryz.prog 38 #[.agg #[.slice A 2 c], .slice A' 1 c'] w (Ret (.tuple #[.int .i64 0, qV 4, .int .i64 0]) w)) := lh fun w A A' c c' h h' hT => by
     have h1 := Ja8 A A' 2 c 1 c' w.heap.size 8 (Qr [0, 4]) [((2 : Int) : Rat)] w (OwnS.readS (fun h => OwnQ.reads_ h) h) (OwnQ.reads_ h') zd (by omega) (by omega) (Xu (by kernel_rfl)) (by omega) (by omega) Jjg (fun y hy => by obtain rfl := List.mem_singleton.1 hy; exact ⟨Nat.le_of_ble_eq_true (by kernel_rfl), Nat.le_of_ble_eq_true (by kernel_rfl)⟩) hT kq7
     rw [kq2, kq3] at h1
     exact h1
    have aV := fun w => Jg7 2 w (by omega) (by omega)
    generalize ((2 : Int) : Rat) = a at *
    generalize (4 : Rat) = q at *
    unfold qV at aV HNR
    have H2 := lh aV
    clear aV
    go_wp2_with fail
    refine HL.out.mono ?_
    rintro e w3 ⟨A3, c3, rfl, bO, j8⟩
    have HO3 := lh bO
    have HB3 := lh j8
    clear bO j8 HL
    go_wp2_with fail
    refine (HO.out _ _ _ HO3.out (HT2.out.next HB3.out)).mono ?_
    rintro e w4 ⟨A4, c4, rfl, x7, o0⟩
    have HO4 := lh x7
    have HB4 := lh (Ja HB3.out o0)
    clear x7 o0 HB3 HO3 HO
    go_wp2_with fail
    refine (H2.out _).mono ?_
    rintro e w5 ⟨rfl, j0⟩
    have HO5 := lh (OwnS.next Tryz.kindQQ (OwnS.next Tryz.kindQQ HO4.out j0) (Jb w5 (.cells #[.bool (decide (a.num < 0)), .int .u64 (lo a.num.natAbs : Int), .string (mo a.num.natAbs), .int .u64 (lo ((qden a)) : Int), .string (mo ((qden a)))] 65)))
    have HL5 := lh (Zt w5 a)
    have HB5 := lh (Ja (Ja HB4.out j0) (Jb w5 (.cells #[.bool (decide (a.num < 0)), .int .u64 (lo a.num.natAbs : Int), .string (mo a.num.natAbs), .int .u64 (lo ((qden a)) : Int), .string (mo ((qden a)))] 65)))
    clear j0 HO4 HB4
    go_wp2_with fail
    refine (HNR.out _ _ _ _ _ HO5.out HL5.out (HT2.out.next HB5.out)).mono ?_
    rintro e w6 ⟨rfl, o6⟩
    have hb := Ja HB5.out o6
    clear o6 HB5 HO5 HL5 HNR
    go_wp2
    go_meet
    refine ⟨rfl, rfl, ?_⟩
    first | with_reducible exact Zy hb | with_reducible exact Jbo (Ja hb (Jb _ _)) (Blk.new _ _ _) hb.size
   case rest =>
    obtain ⟨rfl, rfl, g6, rfl, fR, b6, j8⟩ := hcut
    rename World => w3
    have HB3 := lh (Ja HB2.out j8)
    have HT3 := lh (HT2.out.next j8)
    have HK3 := lh (And.intro (HK2.out.below j8 HK2.out.lt) b6)
    clear j8 HB2 HT2 HK2 b6
    go_upto_region 4 with fail
    go_cut [8, 9, 10] (fun v m h wc => m = .int .i64 1 /\ h = .int .i64 0 /\ ∃ g8 gd ga gb ca cb, v = .pointer (some ⟨g8, 0, none⟩) /\ KF g1 g6 g8 gd ga gb ca cb 10 4 2 99 wc /\ Below w3.heap.size w3 wc)
    case first =>
     have HL := lh (Jjb 0 99 (by omega) (by omega) w3)
     have HL2 := lh (Jjb 1 3 (by omega) (by omega))
     have HO := lh (Jl5 (xl := Qr [0, 99]) (n := 2) rfl (by omega) (Xu (by kernel_rfl)) Jg3 (by omega))
     have HI := lh (in_n (xl := Qr [1, 3]) (n := 2) rfl (by omega) (Xu (by kernel_rfl)) Jjf (by omega))
     have HST : Hid (∀ (w : World) (A A' : Option Addr) (c c' : Nat), OwnQQ w (.slice A 2 c) (Qr [0, 99]) -> OwnQQ w (.slice A' 2 c') (Qr [1, 3]) -> Tab w -> Calls Tryz.prog 33 #[.agg #[.slice A 2 c], .slice A' 2 c'] w fun e w' => ∃ gd ga gb ca cb, e = .returned (.tuple #[.agg #[.slice (some ⟨gd, 0, none⟩) 2 2], .int .i64 1, .int .i64 0]) /\ At1 w' gd 0 (.slice (some ⟨ga, 0, none⟩) 1 ca) /\ At1 w' gd 1 (.slice (some ⟨gb, 0, none⟩) 1 cb) /\ AtQ w' ga 0 2 /\ AtQ w' gb 0 99 /\ Below w.heap.size w w') := lh fun w A A' c c' h h' hT => by
      have hmx : MX w w.heap.size A A' 2 2 1 8 (Qr [0, 99]) (Qr [1, 3]) := ⟨OwnS.readS (fun h => OwnQ.reads_ h) h, OwnS.readS (fun h => OwnQ.reads_ h) h', Nat.le_refl _, by omega, by omega, by omega, by omega, Xu (by kernel_rfl), Xu (by kernel_rfl), by omega, by omega, Jg3, Jjf, hT⟩
      refine (Jea A A' 2 c 2 c' 1 w.heap.size 8 (Qr [0, 99]) (Qr [1, 3]) w hmx (by omega) kq6).mono ?_
      rintro e w' ⟨gd, rfl, t8, hm, hb⟩
      rw [kq4] at hm
      rw [kq5]
      obtain ⟨Aa, ma, ca, fI, eN, -, -⟩ := OwnSA.at_ (Qe (T := 31) (by decide)) hm (i := 0) rfl
      obtain ⟨Ab, mb, cb, fJ, eO, -, -⟩ := OwnSA.at_ (Qe (T := 31) (by decide)) hm (i := 1) rfl
      obtain ⟨ga, rfl, dX⟩ := OwnQ.addr' eN (by decide)
      obtain ⟨gb, rfl, dY⟩ := OwnQ.addr' eO (by decide)
      have dX : ma = 1 := dX
      have dY : mb = 1 := dY
      subst dX dY
      exact ⟨gd, ga, gb, ca, cb, rfl, At1.mk' fI, At1.mk' fJ, OwnQ.at_ eN (k := 0) rfl, OwnQ.at_ eO (k := 0) rfl, hb⟩
     generalize (2 : Rat) = qa at *
     generalize (99 : Rat) = qb at *
     generalize (10 : Rat) = q1 at *
     generalize (4 : Rat) = q6 at *
     go_wp2_with fail
     refine HL.out.mono ?_
     rintro e w4 ⟨A4, c4, rfl, x7, o0⟩
     have HO4 := lh x7
     have HB4 := lh o0
     clear x7 o0 HL
     go_wp2_with fail
     refine (HO.out _ _ _ HO4.out (HT3.out.next HB4.out)).mono ?_
     rintro e w5 ⟨A5, c5, rfl, eP, j0⟩
     have HO5 := lh eP
     have HB5 := lh (Ja HB4.out j0)
     clear eP j0 HB4 HO4 HO
     go_wp2_with fail
     refine (HL2.out w5).mono ?_
     rintro e w6 ⟨A6, c6, rfl, bC, o6⟩
     have HO6 := lh bC
     have HO5 := lh (OwnS.next Tryz.kindQQ HO5.out o6)
     have HB6 := lh (Ja HB5.out o6)
     clear bC o6 HB5 HL2
     go_wp2_with fail
     refine (HI.out _ _ _ HO6.out (HT3.out.next HB6.out)).mono ?_
     rintro e w7 ⟨A7, c7, rfl, aU, p7⟩
     have HO7 := lh aU
     have HO5 := lh (OwnS.next Tryz.kindQQ HO5.out p7)
     have HB7 := lh (Ja HB6.out p7)
     clear aU p7 HB6 HI HO6
     go_wp2_with fail
     refine (HST.out _ _ _ _ _ HO5.out HO7.out (HT3.out.next HB7.out)).mono ?_
     rintro e w8 ⟨gd, ga, gb, ca, cb, rfl, d0, d1, ea, eb, aW⟩
     have hb := Ja HB7.out aW
     have h1 := HK3.out.1.below hb HK3.out.1.lt
     have h6 := HK3.out.2.below hb HK3.out.2.lt
     have HZ := lh (And.intro d0 (And.intro d1 (And.intro ea (And.intro eb hb))))
     have HH := lh (And.intro h1 h6)
     clear aW HB7 HO5 HO7 HST d0 d1 ea eb hb h1 h6
     go_wp2
     go_meet
     obtain ⟨d0, d1, ea, eb, hb⟩ := HZ.out
     exact ⟨rfl, rfl, w8.heap.size, gd, ga, gb, ca, cb, rfl, ⟨HH.out.1.alloc _, HH.out.2.alloc _, Blk.new _ _ _, d0.alloc _, d1.alloc _, ea.alloc _, eb.alloc _⟩, Ja hb (Jb _ _)⟩
    case rest =>
     obtain ⟨rfl, rfl, g8, gd, ga, gb, ca, cb, rfl, eQ, o0⟩ := hcut
     rename World => w4
     have HB4 := lh (Ja HB3.out o0)
     have HT4 := lh (HT3.out.next o0)
     have HKF := lh eQ
     have aN := fun w => Ve 10 10 1 w (by omega) (by omega) (by omega) (by omega) (by omega) (by kernel_rfl) ⟨Nat.le_of_ble_eq_true (by kernel_rfl), Nat.le_of_ble_eq_true (by kernel_rfl)⟩
     have aO := fun w => Ve 4 4 1 w (by omega) (by omega) (by omega) (by omega) (by omega) (by kernel_rfl) ⟨Nat.le_of_ble_eq_true (by kernel_rfl), Nat.le_of_ble_eq_true (by kernel_rfl)⟩
     have aP := fun w => Ve 2 2 1 w (by omega) (by omega) (by omega) (by omega) (by omega) (by kernel_rfl) ⟨Nat.le_of_ble_eq_true (by kernel_rfl), Nat.le_of_ble_eq_true (by kernel_rfl)⟩
     have aQ := fun w => Ve 99 99 1 w (by omega) (by omega) (by omega) (by omega) (by omega) (by kernel_rfl) ⟨Nat.le_of_ble_eq_true (by kernel_rfl), Nat.le_of_ble_eq_true (by kernel_rfl)⟩
     generalize (2 : Rat) = qa at *
     generalize (99 : Rat) = qb at *
     generalize (10 : Rat) = q1 at *
     generalize (4 : Rat) = q6 at *
     unfold qV at aN aO aP aQ
     have HA := lh aN
     have HB := lh aO
     have HC := lh aP
     have HD := lh aQ
     have HCK : Hid (∀ w, Calls Tryz.prog 45 #[.agg #[.slice none 0 0]] w (Ret (.int .i64 5) w)) := lh fun w => Ky none 0 0 0 [] w ReadsS.nil (Nat.zero_le _) (by omega)
     clear aN aO aP aQ eQ o0 HB3 HT3 HK3
     go_wp2_with fail
     refine (Jfi _ HT4.out).mono ?_
     rintro e w5 ⟨rfl, j0⟩
     have hk := HKF.out.next j0
     have HK5 := lh hk
     have HB5 := lh (Ja HB4.out j0)
     obtain ⟨x0, x1, x2, x3, x4⟩ := hk.k1.c5
     clear hk j0 HKF HB4 HT4
     go_wp2_with fail
     refine (HA.out _).mono ?_
     rintro e w6 ⟨rfl, o6⟩
     have hk := HK5.out.next o6
     have HK6 := lh hk
     have HB6 := lh (Ja HB5.out o6)
     clear x0 x1 x2 x3 x4
     obtain ⟨x0, x1, x2, x3, x4⟩ := hk.k6.c5
     clear hk o6 HK5 HB5 HA
     go_wp2_with fail
     refine (HB.out _).mono ?_
     rintro e w7 ⟨rfl, p7⟩
     have hk := HK6.out.next p7
     have HK7 := lh hk
     have HB7 := lh (Ja HB6.out p7)
     clear x0 x1 x2 x3 x4
     have y0 := hk.k8.c1
     have y1 := hk.d0.c2.1
     obtain ⟨x0, x1, x2, x3, x4⟩ := hk.ea.c5
     simp only [Nat.zero_add] at x0 x1 x2 x3 x4
     clear hk p7 HK6 HB6 HB
     go_wp2_with fail
     refine (HC.out _).mono ?_
     rintro e w8 ⟨rfl, aW⟩
     have hk := HK7.out.next aW
     have HB8 := lh (Ja HB7.out aW)
     clear x0 x1 x2 x3 x4 y0 y1
     have y0 := hk.k8.c1
     have y1 := hk.d1.c2.1
     obtain ⟨x0, x1, x2, x3, x4⟩ := hk.eb.c5
     simp only [Nat.zero_add] at x0 x1 x2 x3 x4
     clear hk aW HK7 HB7 HC
     go_wp2_with fail
     refine (HD.out _).mono ?_
     rintro e w9 ⟨rfl, eR⟩
     have HB9 := lh (Ja HB8.out eR)
     clear x0 x1 x2 x3 x4 y0 y1 eR HB8 HD
     go_wp2_with fail
     refine (HCK.out _).mono ?_
     rintro e w10 ⟨rfl, bV⟩
     have HB10 := lh (Ja HB9.out bV)
     clear bV
     go_wp2
     go_ret
     exact ⟨rfl, HB10.out⟩
