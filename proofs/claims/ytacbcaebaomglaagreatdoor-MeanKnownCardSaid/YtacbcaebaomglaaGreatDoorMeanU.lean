import Derived.Test.YtacbcaebaomglaaGreatDoorMeanQ
import Derived.Test.YtacbcaebaomglaaGreatDoorFracDivQ
namespace Go.Proofs.YtacbcaebaomglaaGreatDoor
set_option maxRecDepth 100000
set_option maxHeartbeats 40000000
open Go.RowKit
set_option linter.all false
theorem Tryz.eltI64 : Elt Tryz.prog 148 2 (.int .i64 0) 8 := ⟨Tryz.underlying148, by kernel_rfl, by kernel_rfl⟩
theorem OwnSA.low {β : Type} {T : TypeId} {I : World -> Value -> β -> Prop} {L L' B : Nat} {w : World} {v : Value} {bl : List β} (h : OwnSA T I L B w v bl) (hL : L' <= L) : OwnSA T I L' B w v bl := by
 obtain ⟨rl, h1, h2, h3, h4, h5⟩ := h
 exact ⟨rl, h1, h2, h3, fun i r hr k hk => ⟨nt hL (h4 i r hr k hk).1, (h4 i r hr k hk).2⟩, h5⟩
theorem OwnQ.excm {x : Nat} {w w' : World} {v : Value} {l : List Rat} (h : OwnQ w v l) (he : Exc x w w') (bR : v.ownBlock ≠ some x) : OwnQ w' v l := by
 refine ⟨h.1, ?_⟩
 rcases h.2 with k1 | ⟨b1, cap, cur, k1, k2, k3, k4⟩
 ·exact .inl k1
 exact .inr ⟨b1, cap, cur, k1, k2, (he.block b1 (h.lt b1 (by rw [k1]; rfl)) (fun e => bR (by rw [k1, e]; rfl))).trans k3, k4⟩
theorem OwnSA.excQ {T : TypeId} (hT : 65 ≠ T) {L B x g n c : Nat} {w w' : World} {bl : List (List Rat)} (h : OwnSA T OwnQ L B w (.slice (some ⟨g, 0, none⟩) n c) bl) (he : Exc x w w') (hx : x < L \/ B <= x) (hg : x ≠ g) : OwnSA T OwnQ L B w' (.slice (some ⟨g, 0, none⟩) n c) bl := by
 obtain ⟨rl, h1, h2, h3, h4, h5⟩ := h
 refine ⟨rl, h1.exc he (fun e => hg (Zm e).symm), h2, fun i r b hr hb => ?_, h4, h5⟩
 have hI := h3 i r b hr hb
 have bR : r.v.ownBlock ≠ some x := fun e => by have := h4 i r hr x e; omega
 refine ⟨hI.1, ?_⟩
 rcases hI.2 with k1 | ⟨b1, cap, cur, k1, k2, k3, k4⟩
 ·exact .inl k1
 exact .inr ⟨b1, cap, cur, k1, k2, (he.block b1 (hI.lt b1 (by rw [k1]; rfl)) (fun e => bR (by rw [k1, e]; rfl))).trans k3, k4⟩
structure ST1 (w1 : World) (L n n' g7 g8 gg : Nat) (gl : List Nat) (sl : List (List Rat)) (cl : List Nat) (wr : World) : Prop where
 sums : OwnSA 31 OwnQ L wr.heap.size wr (.slice (some ⟨g7, 0, none⟩) n n) sl
 cnt : Own wr 2 iv (.slice (some ⟨g8, 0, none⟩) n n) cl
 grp : Own wr 3 iv (.slice (some ⟨gg, 0, none⟩) n' n') gl
 bel : Below w1.heap.size w1 wr
 h7 : w1.heap.size <= g7
 h78 : g7 < g8
 h8g : g8 < gg
 hgL : gg < L
 hL : L <= wr.heap.size
section
variable {w1 wr wr' : World} {L n n' g7 g8 gg : Nat} {gl : List Nat} {sl : List (List Rat)} {cl : List Nat}
theorem ST1.next (h : ST1 w1 L n n' g7 g8 gg gl sl cl wr) (hb : Below wr.heap.size wr wr') : ST1 w1 L n n' g7 g8 gg gl sl cl wr' :=
 ⟨(OwnSA.next (Qe (by decide)).toKind h.sums hb).more hb.size, h.cnt.below hb h.cnt.lt, h.grp.below hb h.grp.lt, h.bel.trans (hb.mono h.bel.size), h.h7, h.h78, h.h8g, h.hgL, nt h.hL hb.size⟩
theorem ST1.setCnt (h : ST1 w1 L n n' g7 g8 gg gl sl cl wr) (i c : Nat) : ST1 w1 L n n' g7 g8 gg gl sl (cl.set i c) (wr.setCell ⟨g8, i, none⟩ (.int .i64 (c : Int))) := by
 have hs : (wr.setCell ⟨g8, i, none⟩ (.int .i64 (c : Int))).heap.size = wr.heap.size := by simp
 have hx : Exc g8 wr (wr.setCell ⟨g8, i, none⟩ (.int .i64 (c : Int))) := (Exc.refl _ _).set_ _ _
 refine ⟨?_, h.cnt.putm i c, h.grp.exc hx (fun e => ?_), h.bel.setCell (by have := h.h7; have := h.h78; show w1.heap.size <= g8; omega) _, h.h7, h.h78, h.h8g, h.hgL, by rw [hs]; exact h.hL⟩
 ·rw [hs]
  exact OwnSA.excQ (by decide) h.sums hx (.inl (by have := h.h8g; have := h.hgL; omega)) (by have := h.h78; omega)
 have := Zm e
 have := h.h8g
 omega
end
section
variable {w1 wr w5 : World} {L n n' g7 g8 gg : Nat} {gl : List Nat} {sl : List (List Rat)} {cl : List Nat}
theorem ST1.putSum (h : ST1 w1 L n n' g7 g8 gg gl sl cl wr) (hb : Below wr.heap.size wr w5) {r m k : Nat} {row : List Rat} (cT : OwnQ w5 (.slice (some ⟨r, 0, none⟩) m k) row) (hr : wr.heap.size <= r) (i : Nat) :
  ST1 w1 L n n' g7 g8 gg gl (sl.set i row) cl (w5.setCell ⟨g7, i, none⟩ (.slice (some ⟨r, 0, none⟩) m k)) := by
 have h5 := h.next hb
 have o1 := OwnSA.next (Qe (by decide)).toKind h.sums hb
 have o2 := OwnSA.put (Qe (by decide)) (i := i) (B' := w5.heap.size) o1 cT (fun y hy => by have e := Zm hy; subst e; exact ⟨hr, OwnW.lt cT _ rfl⟩) hb.size h.hL
 have hs : (w5.setCell ⟨g7, i, none⟩ (.slice (some ⟨r, 0, none⟩) m k)).heap.size = w5.heap.size := by simp
 have hx : Exc g7 w5 (w5.setCell ⟨g7, i, none⟩ (.slice (some ⟨r, 0, none⟩) m k)) := (Exc.refl _ _).set_ _ _
 refine ⟨by rw [hs]; exact o2, h5.cnt.exc hx (fun e => ?_), h5.grp.exc hx (fun e => ?_), h5.bel.setCell (show w1.heap.size <= g7 from h.h7) _, h.h7, h.h78, h.h8g, h.hgL, by rw [hs]; exact h5.hL⟩
 ·have := Zm e; have := h.h78; omega
 have := Zm e; have := h.h78; have := h.h8g; omega
theorem ST1.store (h : ST1 w1 L n n' g7 g8 gg gl sl cl wr) {i ga m k : Nat} {b : List Rat} (hb : sl[i]? = some b) (hc : wr.cell? ⟨g7, i, none⟩ = some (.slice (some ⟨ga, 0, none⟩) m k)) (j : Nat) (q : Rat) :
  ST1 w1 L n n' g7 g8 gg gl (sl.set i (b.set j q)) cl (((((wr.setCell ⟨ga, j * 5, none⟩ (.bool (decide (q.num < 0)))).setCell ⟨ga, j * 5 + 1, none⟩ (.int .u64 (lo q.num.natAbs : Int))).setCell ⟨ga, j * 5 + 2, none⟩ (.string (mo q.num.natAbs))).setCell ⟨ga, j * 5 + 3, none⟩ (.int .u64 (lo (qden q) : Int))).setCell ⟨ga, j * 5 + 4, none⟩ (.string (mo (qden q)))) := by
 obtain ⟨-, eA, -, -, j9⟩ := OwnSA.storeQ (by decide) h.sums hb hc
 have hx : Exc ga wr (((((wr.setCell ⟨ga, j * 5, none⟩ (.bool (decide (q.num < 0)))).setCell ⟨ga, j * 5 + 1, none⟩ (.int .u64 (lo q.num.natAbs : Int))).setCell ⟨ga, j * 5 + 2, none⟩ (.string (mo q.num.natAbs))).setCell ⟨ga, j * 5 + 3, none⟩ (.int .u64 (lo (qden q) : Int))).setCell ⟨ga, j * 5 + 4, none⟩ (.string (mo (qden q)))) := (((((Exc.refl ga wr).set_ _ _).set_ _ _).set_ _ _).set_ _ _).set_ _ _
 have h1 := h.h7
 have h2 := h.h78
 have h3 := h.h8g
 have h4 := h.hgL
 refine ⟨by rw [Jgx]; exact j9 j q, h.cnt.exc hx (fun e => ?_), h.grp.exc hx (fun e => ?_), Kd h.bel (by omega) _ _ _ _ _, h1, h2, h3, h4, by rw [Jgx]; exact h.hL⟩
 ·have := Zm e; omega
 have := Zm e; omega
theorem Vz {wd : Nat} {f x : List (List Rat)} {n k g : Nat} (hg : g < n) : (Zb wd f x n k)[g]? = some (Uh wd f x g k) := Yl hg
theorem Jem {f x : List (List Rat)} {n k g : Nat} (hg : g < n) : (Zx f x n k)[g]? = some (Xn f x g k) := Yl hg
theorem Jkf {wd g j : Nat} {f x : List (List Rat)} (hj : j < wd) : (Uj wd f x g j)[j]? = some ((f.getD g []).getD j 0) := by
 unfold Uj
 rw [Yl hj, if_neg (by omega)]
theorem Jjv {m : Nat} {a : Rat} {C : Nat} (ha : QS m a) (hC : C <= 1000) : QS (m + 64) (a / ((C : Nat) : Rat)) := by
 rw [Rat.div_def]
 exact ha.mul ((QS.nat (k := 64) (Nat.lt_of_le_of_lt hC (by decide)) (by omega)).inv (by omega))
theorem Jgg {f x : List (List Rat)} {k : Nat} {l : List Rat} (hl : x[k]? = some l) : (Qu f x)[k]? = some (Qy f l) := by unfold Qu; rw [List.getElem?_map, hl]; rfl
end
structure ST0 (W : World) (w : World) (n c : Nat) (A : Option Addr) (f : List (List Rat)) (g6 gd : Nat) (w1 : World) : Prop where
 model : Blk w1 w.heap.size 30 #[.slice A n c]
 res : Blk w1 (w.heap.size + 1) 30 #[.slice none 0 0]
 next : Blk w1 g6 30 #[.slice (some ⟨gd, 0, none⟩) n n]
 rows : OwnSA 31 OwnQ W.heap.size g6 w1 (.slice (some ⟨gd, 0, none⟩) n n) f
 hg : gd < g6
 bel : Below w.heap.size w w1
 h6 : w.heap.size + 2 <= g6
 hd : w.heap.size + 2 <= gd
 hW : w.heap.size + 2 = W.heap.size
structure ST3 (w W : World) (n c : Nat) (A : Option Addr) (g6 gd g7 g8 L : Nat) (nl sl : List (List Rat)) (cl : List Nat) (wr : World) : Prop where
 model : Blk wr w.heap.size 30 #[.slice A n c]
 res : Blk wr (w.heap.size + 1) 30 #[.slice none 0 0]
 next : Blk wr g6 30 #[.slice (some ⟨gd, 0, none⟩) n n]
 rows : OwnSA 31 OwnQ W.heap.size g6 wr (.slice (some ⟨gd, 0, none⟩) n n) nl
 sums : OwnSA 31 OwnQ L wr.heap.size wr (.slice (some ⟨g7, 0, none⟩) n n) sl
 cnt : Own wr 2 iv (.slice (some ⟨g8, 0, none⟩) n n) cl
 bel : Below w.heap.size w wr
 hW : w.heap.size + 2 = W.heap.size
 hd : W.heap.size <= gd
 hd6 : gd < g6
 h67 : g6 < g7
 h78 : g7 < g8
 h8L : g8 < L
 hLw : L <= wr.heap.size
section
variable {w W wr wr' : World} {n c g6 gd g7 g8 L : Nat} {A : Option Addr} {nl sl : List (List Rat)} {cl : List Nat}
theorem ST3.after (h : ST3 w W n c A g6 gd g7 g8 L nl sl cl wr) (hb : Below wr.heap.size wr wr') : ST3 w W n c A g6 gd g7 g8 L nl sl cl wr' :=
 ⟨h.model.below hb h.model.lt, h.res.below hb h.res.lt, h.next.below hb h.next.lt, OwnSA.next (Qe (by decide)).toKind h.rows hb, (OwnSA.next (Qe (by decide)).toKind h.sums hb).more hb.size, h.cnt.below hb h.cnt.lt, h.bel.trans (hb.mono h.bel.size), h.hW, h.hd, h.hd6, h.h67, h.h78, h.h8L, nt h.hLw hb.size⟩
theorem ST3.store (h : ST3 w W n c A g6 gd g7 g8 L nl sl cl wr) {i ga m k : Nat} {b : List Rat} (hb : nl[i]? = some b) (hc : wr.cell? ⟨gd, i, none⟩ = some (.slice (some ⟨ga, 0, none⟩) m k)) (j : Nat) (q : Rat) :
  ST3 w W n c A g6 gd g7 g8 L (nl.set i (b.set j q)) sl cl (((((wr.setCell ⟨ga, j * 5, none⟩ (.bool (decide (q.num < 0)))).setCell ⟨ga, j * 5 + 1, none⟩ (.int .u64 (lo q.num.natAbs : Int))).setCell ⟨ga, j * 5 + 2, none⟩ (.string (mo q.num.natAbs))).setCell ⟨ga, j * 5 + 3, none⟩ (.int .u64 (lo (qden q) : Int))).setCell ⟨ga, j * 5 + 4, none⟩ (.string (mo (qden q)))) := by
 obtain ⟨-, eA, eB, -, j9⟩ := OwnSA.storeQ (by decide) h.rows hb hc
 have hx : Exc ga wr (((((wr.setCell ⟨ga, j * 5, none⟩ (.bool (decide (q.num < 0)))).setCell ⟨ga, j * 5 + 1, none⟩ (.int .u64 (lo q.num.natAbs : Int))).setCell ⟨ga, j * 5 + 2, none⟩ (.string (mo q.num.natAbs))).setCell ⟨ga, j * 5 + 3, none⟩ (.int .u64 (lo (qden q) : Int))).setCell ⟨ga, j * 5 + 4, none⟩ (.string (mo (qden q)))) := (((((Exc.refl ga wr).set_ _ _).set_ _ _).set_ _ _).set_ _ _).set_ _ _
 have h1 := h.hW
 have h2 := h.h67
 have h3 := h.h78
 have h4 := h.h8L
 refine ⟨h.model.exc hx (by omega), h.res.exc hx (by omega), h.next.exc hx (by omega), j9 j q, ?_, h.cnt.exc hx (fun e => ?_), Kd h.bel (by omega) _ _ _ _ _, h1, h.hd, h.hd6, h2, h3, h4, by rw [Jgx]; exact h.hLw⟩
 ·rw [Jgx]
  exact OwnSA.excQ (by decide) h.sums hx (.inl (by omega)) (by omega)
 have := Zm e; omega
end
theorem Jbt (A A' : Option Addr) (n c n' c' wd B m : Nat) (f x : List (List Rat)) (w : World) (h : MX w B A A' n n' wd m f x) (hwd1 : 1 <= wd) :
  Calls Tryz.prog 60 #[.agg #[.slice A n c], .slice A' n' c'] w fun e w' => ∃ g, e = .returned (.tuple #[.agg #[.slice (some ⟨g, 0, none⟩) n n], .int .i64 (Ya wd f x : Int)]) /\ w.heap.size <= g /\ Ja9 w g n (Ki wd f x) w' /\ Below w.heap.size w w' := by
 have hlx := h.hx.len
 have hlf := h.hf.len
 have hn' := h.hn'
 have hn := h.hn
 have hn2 := h.hn2
 have hwd := h.hwd
 have H := lh h
 clear h
 obtain ⟨b0, b1, hB, hZ⟩ := bx2 w 30 #[.slice A n c] 30 #[.slice none 0 0]
 have HD := lh (fun w' (hb : Below w.heap.size w w') => Jc8 A n c wd B f w' ((H.out.next hb).hf) (H.out.next hb).hB (by omega) hwd1 (by omega) H.out.hlf)
 have HB0 := lh hB
 clear hB
 have x0 := b0.c1
 go_enter Tryz.func60, Tryz.ntmps60
 go_upto_region 1 with fail
 generalize ((w.alloc (.cells #[.slice A n c] 30)).alloc (.cells #[.slice none 0 0] 30)) = W at *
 go_cut [6] (fun v wc => ∃ g6 gd, v = .pointer (some ⟨g6, 0, none⟩) /\ ST0 W w n c A f g6 gd wc)
 case first =>
  go_wp2_with fail
  refine (HD.out _ HB0.out).mono ?_
  rintro e w1 ⟨gd, rfl, eU, hm, u5⟩
  go_wp2
  go_meet
  have hW := hZ.out
  have e0 := b0.below u5 b0.lt
  have e1 := b1.below u5 b1.lt
  have j8 := u5.size
  have ho := OwnSA.next (Qe (by decide)).toKind hm (Jb w1 (.cells #[.slice (some ⟨gd, 0, none⟩) n n] 30))
  refine ⟨w1.heap.size, gd, rfl, e0.alloc _, e1.alloc _, Blk.new _ _ _, ho, ?_, Ja (HB0.out.trans (u5.mono HB0.out.size)) (Jb _ _), by omega, by omega, by omega⟩
  have := OwnS.lt hm.plain gd rfl
  omega
 case rest =>
  obtain ⟨g6, gd, rfl, j9⟩ := hcut
  rename World => w1
  clear HD HB0 x0 b0 b1 hZ
  have lw1 := j9.bel.size
  have l0 := j9.model.lt
  have l1 := j9.res.lt
  have l6 := j9.next.lt
  have aM := Ql (P := Tryz.prog) SW.v ⟨none, 0, 0⟩ 28 31 24 (Tryz.eltQQ).under (Tryz.eltQQ).info rfl .i64 .i64 n (by omega) (by omega) w1
  have cU := fun L B => Jbm (T := 31) (Qe (by decide)) (e := []) (fun w => OwnW.nil_ _ _ _ _) L B n w1 (by unfold maxLen; omega)
  have aN := Jb w1 (.cells ((List.replicate n (⟨none, 0, 0⟩ : SW)).map SW.v).toArray 31)
  have eV : (w1.alloc (.cells ((List.replicate n (⟨none, 0, 0⟩ : SW)).map SW.v).toArray 31)).heap.size = w1.heap.size + 1 := by simp
  generalize w1.alloc (.cells ((List.replicate n (⟨none, 0, 0⟩ : SW)).map SW.v).toArray 31) = w2 at *
  obtain ⟨g7, bS⟩ : ∃ g7, w1.heap.size = g7 := ⟨_, rfl⟩
  obtain ⟨w3, aO, bT, bN⟩ := Jc9 (P := Tryz.prog) iv 0 148 2 8 (Tryz.eltI64).under (Tryz.eltI64).info rfl n n zd (by omega) (by unfold maxLen; omega) w2
  obtain ⟨g8, bU⟩ : ∃ g8, w2.heap.size = g8 := ⟨_, rfl⟩
  have l8 := bT.lt _ rfl
  have cV := fun w' (hb : Below w.heap.size w w') => Jad A A' n c n' c' wd B m f x w' (H.out.next hb)
  have x9 := j9.bel.trans (aN.mono j9.bel.size)
  have aP := x9.trans (bN.mono x9.size)
  have HG := lh (cV w3 aP)
  have x1 := j9.model.c1
  have x2 := (j9.model.below aN l0).c1
  have x3 := ((j9.model.below aN l0).below bN (by omega)).c1
  have H2 := lh cU
  have H3 := lh bT
  have HB2 := lh (And.intro aN bN)
  have HS := lh j9
  rw [bS] at aM
  rw [bU] at aO
  clear cV cU bT aN bN x9 aP j9
  go_wp2_with fail
  refine HG.out.mono ?_
  rintro e w4 ⟨gg, rfl, eC, bV, bO⟩
  have l9 := bV.lt _ rfl
  have y8 := HB2.out.2
  have s9 := y8.trans (bO.mono y8.size)
  have aQ := HB2.out.1.trans (s9.mono HB2.out.1.size)
  have eD : w1.heap.size < w4.heap.size := by have := s9.size; omega
  have HI : Hid (ST1 w1 w4.heap.size n n' g7 g8 gg (Qu f x) (Zb wd f x n 0) (Zx f x n 0) w4) := lh (by
   have e2 := H2.out w4.heap.size w4.heap.size
   rw [bS, <- Jf1 (wd := wd) (f := f) (x := x)] at e2
   have e3 := H3.out
   rw [bU, <- Jia (f := f) (x := x)] at e3
   exact ⟨OwnSA.next (Qe (by decide)).toKind e2 s9, e3.below bO e3.lt, bV, aQ, by omega, by omega, by have := bO.size; omega, l9, Nat.le_refl _⟩)
  clear H2 H3 HB2 HG x1 x2 x3 aM aO bV y8 s9 aQ bO
  go_wp2_with fail
  go_loopw [34] (fun p wr => ∃ k : Nat, k <= n' /\ p = .int .i64 (k : Int) /\ ST1 w1 w4.heap.size n n' g7 g8 gg (Qu f x) (Zb wd f x n k) (Zx f x n k) wr) (fun p _ => n' - (intOf p).toNat)
  case atStart => exact ⟨0, by omega, rfl, HI.out⟩
  case round =>
   obtain ⟨k, hk, rfl, j8⟩ := hrel
   rename World => wr
   clear HI
   by_cases eW : k < n'
   ·have k1 : (k : Int) < (n' : Int) := by omega
    obtain ⟨l, hl⟩ : ∃ l, x[k]? = some l := ⟨_, List.getElem?_eq_getElem (by omega)⟩
    obtain ⟨ad, A1, m1, cp1, rfl, cW, cZ, bW⟩ := H.out.hx.at_ hl
    have dA : l.length = m1 := bW.len
    have eE : m1 = wd := by rw [<- dA]; exact H.out.hlx l (List.mem_of_getElem? hl)
    subst eE
    have bX : x.getD k [] = l := by rw [List.getD_eq_getElem?_getD, hl]; rfl
    have bY := Jgg (f := f) hl
    have aI : Qy f l < n := by have := Jc4 f l (Nat.le_refl f.length) (by omega); unfold Qy; omega
    have HX : Hid (Qy f (x.getD k []) = Qy f l) := lh (by rw [bX])
    obtain ⟨g0, hg⟩ : ∃ g0, Qy f l = g0 := ⟨_, rfl⟩
    rw [hg] at bY aI HX
    obtain ⟨C, hC⟩ : ∃ C, Xn f x g0 k = C := ⟨_, rfl⟩
    have eF : C <= k := by rw [<- hC]; exact Ut f x g0 k
    have p1 := Own.cellf (by rw [show (Qu f x).length = n' by unfold Qu; rw [List.length_map, hlx]]; exact j8.grp) bY
    have p2 := Own.cellf (by rw [show (Zx f x n k).length = n by simp [Zx]]; exact j8.cnt) (Jem (f := f) (x := x) (k := k) aI)
    rw [hC] at p2
    unfold iv at p1 p2
    have k2 : (g0 : Int) < (n : Int) := by omega
    have HBX : Hid (∀ w', Below w1.heap.size w1 w' -> w'.cell? (ad.add k) = some (.slice A1 m1 cp1) /\ ReadsQ w' B A1 m1 l /\ Tab w') := lh fun w' hb => by
     have bZ := HS.out.bel.trans (hb.mono lw1)
     exact ⟨Yq (bZ.mono H.out.hB) cZ cW, bW.below (bZ.mono H.out.hB), H.out.hT.next bZ⟩
    have p3 := (HBX.out wr j8.bel).1
    have HL := lh (And.intro hl bX)
    have HC := lh hC
    have HS1 := lh j8
    clear hl bX bY hg bW cZ cW dA j8 hC
    go_upto_if 43 with fail
    go_cut [] (fun wc => ST1 w1 w4.heap.size n n' g7 g8 gg (Qu f x) ((Zb m1 f x n k).set g0 (Yj m1 f x g0 k 0)) (Zx f x n k) wc)
    case first =>
     by_cases cz : C = 0
     ·have q1 : ((C : Int) == 0) = true := by simp; omega
      have q2 : (C : Int) = 0 := by omega
      obtain ⟨w5, eX, dB, u5⟩ := Jli m1 (by omega) wr
      have o1 := OwnSA.next (Qe (by decide)).toKind HS1.out.sums u5
      have dC := o1.frozen g0
      obtain ⟨A9, m9, cp9, aJ, -, -, -⟩ := OwnSA.at_ (Qe (T := 31) (by decide)) o1 (Vz aI)
      have HP := lh (HS1.out.putSum u5 dB zd g0)
      rw [<- Jiv (HC.out.trans cz)] at HP
      clear o1 dB u5 cz
      go_wp2
      go_meet
      exact HP.out
     have q1 : ((C : Int) == 0) = false := by simp; omega
     have q2 : ¬ (C : Int) = 0 := by omega
     have HP := HS1
     rw [<- Je1 (Vz (wd := m1) (f := f) (x := x) (k := k) aI), <- Jiu (by rw [HC.out]; exact cz)] at HP
     clear cz
     go_wp2
     go_meet
     exact HP.out
    case rest =>
     rename World => wc
     have l5 : ST1 w1 w4.heap.size n n' g7 g8 gg (Qu f x) ((Zb m1 f x n k).set g0 (Yj m1 f x g0 k 0)) (Zx f x n k) wc := hcut
     clear hcut p1 p2 p3 HS1
     have p2 := Own.cellf (by rw [show (Zx f x n k).length = n by simp [Zx]]; exact l5.cnt) (Jem (f := f) (x := x) (k := k) aI)
     rw [HC.out] at p2
     unfold iv at p2
     have dC := l5.cnt.frozm g0
     obtain ⟨D, hD⟩ : ∃ D, C + 1 = D := ⟨_, rfl⟩
     have e1 : (C : Int) + 1 = (D : Int) := by omega
     have e2 : IntKind.i64.wrap (D : Int) = (D : Int) := IntWalk.i64_in _ (by omega)
     have j0 := l5.setCnt g0 D
     rw [show (Zx f x n k).set g0 D = Zx f x n (k + 1) by rw [<- hD, <- HC.out]; exact Jjx HX.out] at j0
     have HS3 := lh j0
     clear l5 j0 hD
     go_upto_region 9 with fail
     go_cut [] (fun wc => ST1 w1 w4.heap.size n n' g7 g8 gg (Qu f x) ((Zb m1 f x n k).set g0 (Yj m1 f x g0 k 0)) (Zx f x n (k + 1)) wc)
     case first =>
      go_wp2
      go_meet
      exact HS3.out
     case rest =>
      rename World => wd0
      have l5 : ST1 w1 w4.heap.size n n' g7 g8 gg (Qu f x) ((Zb m1 f x n k).set g0 (Yj m1 f x g0 k 0)) (Zx f x n (k + 1)) wd0 := hcut
      clear hcut p2 dC e1 e2 HS3
      have p3 := (HBX.out wd0 l5.bel).1
      have HS2 := lh l5
      clear l5
      go_wp2_with fail
      clear p3
      go_loopw [64] (fun p wq => ∃ j : Nat, j <= m1 /\ p = .int .i64 (j : Int) /\ ST1 w1 w4.heap.size n n' g7 g8 gg (Qu f x) ((Zb m1 f x n k).set g0 (Yj m1 f x g0 k j)) (Zx f x n (k + 1)) wq) (fun p _ => m1 - (intOf p).toNat)
      case atStart => exact ⟨0, by omega, rfl, HS2.out⟩
      case round =>
       obtain ⟨j, hj, rfl, l5⟩ := hrel
       rename World => wq
       clear HS2
       by_cases aK : j < m1
       ·have k3 : (j : Int) < (m1 : Int) := by omega
        have cA := (HBX.out wq l5.bel).2.1
        obtain ⟨y, hy⟩ : ∃ y, l[j]? = some y := ⟨_, List.getElem?_eq_getElem (by rw [cA.len]; exact aK)⟩
        obtain ⟨ad1, g1, o1, rfl, eG, -, b1⟩ := ReadsQ.at_ cA hy
        obtain ⟨x0, x1, x2, x3, x4⟩ := b1.c5
        have HS2 := lh l5
        have HY := lh hy
        clear cA b1 l5 hy
        go_upto_region 12 with fail
        go_cut [11, 12] (fun v p wc => v = .int .i64 (j : Int) /\ Kr wq 65 #[.bool (decide (y.num < 0)), .int .u64 (lo y.num.natAbs : Int), .string (mo y.num.natAbs), .int .u64 (lo ((qden y)) : Int), .string (mo ((qden y)))] p wc)
        case first =>
         go_wp2
         go_meet
         refine ⟨rfl, ?_⟩
         first | with_reducible exact Zy (Below.refl _ _) | with_reducible exact Jbo (Ja (Below.refl _ _) (Jb _ _)) (Blk.new _ _ _) zd
        case rest =>
         obtain ⟨rfl, g12, rfl, eH, b12, aR⟩ := hcut
         rename World => w5
         clear x0 x1 x2 x3 x4 eG
         have q8 := HS2.out.next aR
         have e8 : ((Zb m1 f x n k).set g0 (Yj m1 f x g0 k j))[g0]? = some (Yj m1 f x g0 k j) := by rw [List.getElem?_set_self]; simp [Zb]; exact aI
         obtain ⟨A9, m9, cp9, aJ, t7, eI, -⟩ := OwnSA.at_ (Qe (T := 31) (by decide)) q8.sums e8
         obtain ⟨ga, rfl, aS⟩ := OwnQ.addr' t7 (by rw [Je3]; omega)
         obtain rfl : m9 = m1 := by rw [aS, Je3]
         have b4 := OwnQ.at_ t7 (Jgz (f := f) (x := x) (g := g0) (k := k) aK)
         have b3 := At1.mk' aJ
         have aT : QS 400000000 (Xh f x g0 j k) := by
          refine (Us H.out.hm H.out.hsx g0 j k).mono ?_
          have h1 := H.out.hm2
          have h4 := Nat.mul_le_mul (show k <= 300 by omega) (show m + 1 <= 1000001 by omega)
          omega
         have dD := H.out.hsx l (List.mem_of_getElem? HL.out.1) y (List.mem_of_getElem? HY.out)
         have aU := dD.mono H.out.hm2
         have y9 := fun w (hT : Tab w) => Jai (Xh f x g0 j k) y w (aT.mono (by omega)) (aU.mono (by omega)) hT
         have aV : (Yj m9 f x g0 k j).set j (Xh f x g0 j k + y) = Yj m9 f x g0 k (j + 1) := by
          have h1 := Jit (wd := m9) (j := j) HX.out
          rw [HL.out.2, List.getD_eq_getElem?_getD, HY.out] at h1
          exact h1
         generalize Xh f x g0 j k = s at *
         generalize s + y = s' at *
         unfold qV at y9
         have HAD := lh y9
         have HN := lh aV
         have tT := (HBX.out w5 q8.bel).2.2
         have HS5 := lh q8
         have HR9 := lh t7
         have HW := lh e8
         have HSJ : Hid (∃ u, (Yj m9 f x g0 k j)[j]? = some u) := lh ⟨_, Jgz aK⟩
         clear y9 aV aT dD aU q8 t7 e8 eI aS aJ HS2 aR
         go_upto_region 13 with fail
         obtain ⟨dE, dF, dG, dH, dI⟩ := b12.c5; have c12 := b12.drew; have aW := c12.lt; obtain ⟨aA, aB⟩ := b3.c2; have c3 := b3.drew; have o6 := c3.lt; obtain ⟨eJ, eK, eL, eM, eN⟩ := b4.c5; have c4 := b4.drew; have aC := c4.lt; have hc := Jl w5; go_region_law (first | (go_simp; go_at_call 53; (with_reducible refine (HAD.out _ (tT.next hc)).mono ?_); rintro e w1 ⟨rfl, e9⟩; (try clear aX aY aZ bA bB); obtain ⟨c12, aX, aY, aZ, bA, bB⟩ := c12.zc5 e9; (try clear aW); have aW := c12.lt; (try clear j6 j7); obtain ⟨c3, j6, j7⟩ := c3.zc2 e9; (try clear o6); have o6 := c3.lt; (try clear cB cC cD cE cF); obtain ⟨c4, cB, cC, cD, cE, cF⟩ := c4.zc5 e9; (try clear aC); have aC := c4.lt; have hc := Ja hc e9; have o8 := OwnW.next HR9.out hc; have z0 := OwnQ.frozen o8 (j * 5); have z1 := OwnQ.frozen o8 (j * 5 + 1); have z2 := OwnQ.frozen o8 (j * 5 + 2); have z3 := OwnQ.frozen o8 (j * 5 + 3); have z4 := OwnQ.frozen o8 (j * 5 + 4)))
         all_goals
          go_wp2
          have o1 := (HS5.out.next hc).store HW.out c3.c2.1 j s'
          rw [List.set_set, HN.out] at o1
          exact ⟨⟨j + 1, by omega, by go_num, o1⟩, by simp [intOf]; omega⟩
       obtain rfl : j = m1 := by omega
       have k3 : ¬ (j : Int) < (j : Int) := by omega
       rw [Jhk HX.out] at l5
       have HS2 := lh l5
       clear l5
       go_wp2
       exact ⟨⟨k + 1, by omega, by go_num, HS2.out⟩, by simp [intOf]; omega⟩
   obtain rfl : k = n' := by omega
   have k1 : ¬ (k : Int) < (k : Int) := by omega
   have j0 : ST3 w W n c A g6 gd g7 g8 w4.heap.size (Zd wd f x n 0) (Zb wd f x n k) (Zx f x n k) wr := by
    rw [Jf7 hlf]
    have h1 := HS.out
    have h2 := h1.hW
    have h3 := h1.hd
    exact ⟨h1.model.below j8.bel l0, h1.res.below j8.bel l1, h1.next.below j8.bel l6, OwnSA.next (Qe (by decide)).toKind h1.rows j8.bel, j8.sums, j8.cnt, h1.bel.trans (j8.bel.mono lw1), h2, by omega, h1.hg, by omega, j8.h78, by have := j8.h8g; have := j8.hgL; omega, j8.hL⟩
   have HS3 := lh j0
   clear j8 j0 HS eD lw1 l0 l1 l6 l8 l9 eC bS bU
   go_wp2_with fail
   go_loopw [13, 88] (fun v p wr => ∃ g : Nat, g <= n /\ v = .int .i64 (Xs wd f x g : Int) /\ p = .int .i64 (g : Int) /\ ST3 w W n c A g6 gd g7 g8 w4.heap.size (Zd wd f x n g) (Zb wd f x n k) (Zx f x n k) wr) (fun _ p _ => n - (intOf p).toNat)
   case atStart => exact ⟨0, by omega, rfl, rfl, HS3.out⟩
   case round =>
    obtain ⟨g, hg, rfl, rfl, j0⟩ := hrel
    rename World => wq
    clear HS3
    by_cases aL : g < n
    ·have k2 : (g : Int) < (n : Int) := by omega
     obtain ⟨C, hC⟩ : ∃ C, Xn f x g k = C := ⟨_, rfl⟩
     have eF : C <= k := by rw [<- hC]; exact Ut f x g k
     have p2 := Own.cellf (by rw [show (Zx f x n k).length = n by simp [Zx]]; exact j0.cnt) (Jem (f := f) (x := x) (k := k) aL)
     rw [hC] at p2
     unfold iv at p2
     have eO := Jbr wd f x g
     by_cases cz : C = 0
     ·have q1 : ((C : Int) == 0) = true := by simp; omega
      have q2 : (C : Int) = 0 := by omega
      have x7 : Zv wd f x g = f.getD g [] := if_pos (by rw [hlx, hC, cz])
      have dJ : Xs wd f x (g + 1) = Xs wd f x g := if_pos x7
      rw [<- Jf8 x7] at j0
      rw [<- dJ]
      have HS3 := lh j0
      clear j0 x7 dJ hC cz eO
      go_wp2
      exact ⟨⟨g + 1, by omega, rfl, by go_num, HS3.out⟩, by simp [intOf]; omega⟩
     have q1 : ((C : Int) == 0) = false := by simp; omega
     have q2 : ¬ (C : Int) = 0 := by omega
     obtain ⟨A9, m9, cp9, aJ, t7, -, -⟩ := OwnSA.at_ (Qe (T := 31) (by decide)) j0.sums (Vz (wd := wd) (f := f) (x := x) (k := k) aL)
     have dK : Uh wd f x g k = (List.range wd).map fun c => Xh f x g c k := if_neg (by rw [hC]; exact cz)
     rw [dK] at t7
     obtain ⟨ga, rfl, aS⟩ := OwnQ.addr' t7 (by simp; omega)
     obtain rfl : m9 = wd := by rw [aS]; simp
     have cG : f.getD g [] ∈ f := by rw [List.getD_eq_getElem?_getD, List.getElem?_eq_getElem (by omega)]; exact List.getElem_mem _
     have cH : (f.getD g []).length = m9 := H.out.hlf _ cG
     have o7 : ST3 w W n c A g6 gd g7 g8 w4.heap.size ((Zd m9 f x n g).set g (Uj m9 f x g 0)) (Zb m9 f x n k) (Zx f x n k) wq := by
      rw [Jhm cH, Je1 (Ji3 aL)]
      exact j0
     have HS4 := lh o7
     have HC := lh hC
     have HG := lh (And.intro cG cH)
     have bC := (OwnSA.at_ (Qe (T := 31) (by decide)) j0.sums (Vz (wd := m9) (f := f) (x := x) (k := k) aL))
     have eP : w4.heap.size <= ga := by
      obtain ⟨A7, m7, cp7, eQ, -, eR, -⟩ := bC
      have e := Option.some.inj (eQ.symm.trans aJ)
      injection e with e1 e2 e3
      subst e1
      exact (eR ga rfl).1
     have HR9 := lh t7
     have HCZ := lh cz
     clear j0 o7 t7 dK aS hC cG cH cz bC
     go_wp2_with fail
     clear aJ p2
     go_loopw [100] (fun p wr => ∃ j : Nat, j <= m9 /\ p = .int .i64 (j : Int) /\ ST3 w W n c A g6 gd g7 g8 w4.heap.size ((Zd m9 f x n g).set g (Uj m9 f x g j)) (Zb m9 f x n k) (Zx f x n k) wr /\ OwnQ wr (.slice (some ⟨ga, 0, none⟩) m9 cp9) ((List.range m9).map fun c => Xh f x g c k)) (fun p _ => m9 - (intOf p).toNat)
     case atStart => exact ⟨0, by omega, rfl, HS4.out, HR9.out⟩
     case round =>
      obtain ⟨j, hj, rfl, o7, e8⟩ := hrel
      rename World => wr
      clear HS4 HR9
      by_cases aK : j < m9
      ·have k3 : (j : Int) < (m9 : Int) := by omega
       have b1 := OwnQ.at_ e8 (Yl (r := fun c => Xh f x g c k) aK)
       have aT : QS 400000000 (Xh f x g j k) := by
        refine (Us H.out.hm H.out.hsx g j k).mono ?_
        have h1 := H.out.hm2
        have h4 := Nat.mul_le_mul (show k <= 300 by omega) (show m + 1 <= 1000001 by omega)
        omega
       have aV : ∀ y, Xh f x g j k / ((C : Nat) : Rat) = y -> (Uj m9 f x g j).set j y = Uj m9 f x g (j + 1) := fun y hy => Jis (by rw [hlx, HC.out]; exact hy)
       generalize Xh f x g j k = q at *
       obtain ⟨x0, x1, x2, x3, x4⟩ := b1.c5
       have HS4 := lh o7
       have HRW := lh e8
       have HN := lh aV
       have HQS := lh aT
       clear b1 o7 e8 aV aT
       go_upto_region 23 with fail
       go_cut [16, 17] (fun v p wc => v = .int .i64 (j : Int) /\ Kr wr 65 #[.bool (decide (q.num < 0)), .int .u64 (lo q.num.natAbs : Int), .string (mo q.num.natAbs), .int .u64 (lo ((qden q)) : Int), .string (mo ((qden q)))] p wc)
       case first =>
        go_wp2
        go_meet
        refine ⟨rfl, ?_⟩
        first | with_reducible exact Zy (Below.refl _ _) | with_reducible exact Jbo (Ja (Below.refl _ _) (Jb _ _)) (Blk.new _ _ _) zd
       case rest =>
        obtain ⟨rfl, g17, rfl, cI, b17, aD⟩ := hcut
        rename World => w5
        clear x0 x1 x2 x3 x4
        have q8 := HS4.out.after aD
        have e8 : ((Zd m9 f x n g).set g (Uj m9 f x g j))[g]? = some (Uj m9 f x g j) := by rw [List.getElem?_set_self]; simp [Zd]; exact aL
        obtain ⟨A8, m8, cp8, bD, x8, dL, dM⟩ := OwnSA.at_ (Qe (T := 31) (by decide)) q8.rows e8
        obtain ⟨gr, rfl, bE⟩ := OwnQ.addr' x8 (by rw [Je2]; omega)
        obtain rfl : m8 = m9 := by rw [bE, Je2]
        have bF : ¬ gd = gr := fun e => (dM gr rfl).1 e.symm
        have hLw : w4.heap.size <= g17 := nt HS4.out.hLw cI
        clear dM
        have b4 := OwnQ.at_ x8 (Jkf (f := f) (x := x) (g := g) aK)
        generalize (f.getD g []).getD j 0 = o at *
        have b3 := At1.mk' bD
        have b6 := At1.mk' q8.next.c1
        have bP := fun w => Jg7 (C : Int) w (by omega) (by omega)
        have dN : ((C : Int) : Rat) = ((C : Nat) : Rat) := Rat.intCast_natCast C
        have dO : ((C : Nat) : Rat) ≠ 0 := fun e => HCZ.out (by exact_mod_cast e)
        have dP : QS 64 ((C : Nat) : Rat) := QS.nat (Nat.lt_of_le_of_lt (show C <= 300 by omega) (by decide)) (by omega)
        rw [dN] at bP
        have HNN := lh (HN.out _ rfl)
        generalize ((C : Nat) : Rat) = cq at *
        have cJ := fun w (hT : Tab w) => Jjq q cq w (HQS.out.mono (by omega)) (dP.mono (by omega)) dO hT
        generalize q / cq = s' at *
        unfold qV at bP cJ
        have HOF := lh bP
        have HDV := lh cJ
        have tT := H.out.hT.next q8.bel
        have HS5 := lh q8
        have HR8 := lh x8
        have HW := lh e8
        have HRW2 := lh (OwnW.next HRW.out aD)
        have HL8 := lh (dL gr rfl)
        clear bP cJ dN dO dP q8 x8 e8 dL bE bD HS4 aD HRW HN HQS
        have ny1 : ¬ g17 = gr := by have e1 := HL8.out.2; have e2 := HS5.out.h67; have e3 := HS5.out.h78; have e4 := HS5.out.h8L; have e5 := hLw; omega
        have ny2 : ¬ gr = g17 := fun e => ny1 e.symm
        have ny3 : ¬ g6 = gr := by have := HL8.out.2; omega
        have ny4 : ¬ gr = g6 := fun e => ny3 e.symm
        have ny5 : ¬ gd = gr := bF
        have ny6 : ¬ gr = gd := fun e => bF e.symm
        go_upto_region 24 with fail
        obtain ⟨dQ, dR, dS, dT, dU⟩ := b17.c5; have c17 := b17.drew; have t8 := c17.lt; obtain ⟨bG, bH⟩ := b6.c2; have c6 := b6.drew; have q9 := c6.lt; obtain ⟨aA, aB⟩ := b3.c2; have c3 := b3.drew; have o6 := c3.lt; have c4 := b4.drew; have aC := c4.lt; have hc := Jl w5; go_region_held3 (fun w' => w'.cell? ⟨g17, 0, none⟩ = some (.bool (decide (q.num < 0))) /\ w'.cell? ⟨g17, 1, none⟩ = some (.int .u64 (lo q.num.natAbs : Int)) /\ w'.cell? ⟨g17, 2, none⟩ = some (.string (mo q.num.natAbs)) /\ w'.cell? ⟨g17, 3, none⟩ = some (.int .u64 (lo ((qden q)) : Int)) /\ w'.cell? ⟨g17, 4, none⟩ = some (.string (mo ((qden q)))) /\ w'.cell? ⟨g6, 0, none⟩ = some (.slice (some ⟨gd, 0, none⟩) n n) /\ w'.cell? ⟨gd, g, none⟩ = some (.slice (some ⟨gr, 0, none⟩) m8 cp8)) (go_keep) (first | (go_at_call 35; (with_reducible refine (HOF.out _).mono ?_); rintro e w1 ⟨rfl, e9⟩; (try clear o9 p0 p7 p8 p9); obtain ⟨c17, o9, p0, p7, p8, p9⟩ := c17.zc5 e9; (try clear t8); have t8 := c17.lt; (try clear l7 o0); obtain ⟨c6, l7, o0⟩ := c6.zc2 e9; (try clear q9); have q9 := c6.lt; (try clear j6 j7); obtain ⟨c3, j6, j7⟩ := c3.zc2 e9; (try clear o6); have o6 := c3.lt; have c4 := c4.below e9 c4.lt; (try clear aC); have aC := c4.lt; have hc := Ja hc e9) | (go_at_call 108; (with_reducible refine (HDV.out _ (tT.next hc)).mono ?_); rintro e w2 ⟨rfl, bI⟩; (try clear o9 p0 p7 p8 p9); obtain ⟨c17, o9, p0, p7, p8, p9⟩ := c17.zc5 bI; (try clear t8); have t8 := c17.lt; (try clear l7 o0); obtain ⟨c6, l7, o0⟩ := c6.zc2 bI; (try clear q9); have q9 := c6.lt; (try clear j6 j7); obtain ⟨c3, j6, j7⟩ := c3.zc2 bI; (try clear o6); have o6 := c3.lt; have c4 := c4.below bI c4.lt; (try clear aC); have aC := c4.lt; have hc := Ja hc bI; obtain ⟨v0, v1, v2, v3, v4⟩ := c4.c5; have o8 := OwnW.next HR8.out hc; have z0 := OwnQ.frozen o8 (j * 5); have z1 := OwnQ.frozen o8 (j * 5 + 1); have z2 := OwnQ.frozen o8 (j * 5 + 2); have z3 := OwnQ.frozen o8 (j * 5 + 3); have z4 := OwnQ.frozen o8 (j * 5 + 4)))
        all_goals
         go_wp2
         have o1 := (HS5.out.after hc).store HW.out c3.c2.1 j s'
         rw [List.set_set, HNN.out] at o1
         have o2 := OwnQ.excm (OwnW.next HRW2.out hc) ((((((Exc.refl gr _).set_ (j * 5) (.bool (decide (s'.num < 0)))).set_ (j * 5 + 1) (.int .u64 (lo s'.num.natAbs : Int))).set_ (j * 5 + 2) (.string (mo s'.num.natAbs))).set_ (j * 5 + 3) (.int .u64 (lo (qden s') : Int))).set_ (j * 5 + 4) (.string (mo (qden s')))) (fun e => by have e1 := Zm e; have e2 := HL8.out.2; have e3 := HS5.out.h67; have e4 := HS5.out.h78; have e5 := HS5.out.h8L; omega)
         exact ⟨⟨j + 1, by omega, by go_num, o1, o2⟩, by simp [intOf]; omega⟩
      obtain rfl : j = m9 := by omega
      have k3 : ¬ (j : Int) < (j : Int) := by omega
      have x7 : Zv j f x g = Vd j f x g := if_neg (by rw [hlx, HC.out]; exact HCZ.out)
      rw [Jhn, <- x7, Jhq] at o7
      have e8 : (Zd j f x n (g + 1))[g]? = some (Zv j f x g) := by unfold Zd; rw [Yl aL, if_pos (by omega)]
      obtain ⟨A8, m8, cp8, bD, x8, -, -⟩ := OwnSA.at_ (Qe (T := 31) (by decide)) o7.rows e8
      have cK : (Zv j f x g).length = j := by rw [x7]; simp [Vd]
      obtain ⟨gr, rfl, bE⟩ := OwnQ.addr' x8 (by rw [cK]; omega)
      obtain rfl : m8 = j := by rw [bE, cK]
      obtain ⟨l, bJ⟩ : ∃ l, f[g]? = some l := ⟨_, List.getElem?_eq_getElem (by omega)⟩
      have dV : f.getD g [] = l := by rw [List.getD_eq_getElem?_getD, bJ]; rfl
      have dW := H.out.hf.below Kb (o7.bel.mono H.out.hB)
      obtain ⟨adf, Af, mf, cpf, rfl, cL, bQ, cM⟩ := dW.at_ bJ
      obtain rfl : mf = m8 := by rw [<- cM.len]; exact H.out.hlf l (List.mem_of_getElem? bJ)
      obtain ⟨gf, of, eS, -⟩ := Jbl bQ
      rw [eS] at bQ
      have b5 := At1.mk' bQ
      have b3 := At1.mk' bD
      have b6 := At1.mk' o7.next.c1
      have b0 := At1.mk' o7.model.c1
      have cN : B <= wr.heap.size := nt H.out.hB o7.bel.size
      have dX : ∀ y ∈ Zv mf f x g, QS 549755813888 y := by
       rw [x7]
       intro y hy
       obtain ⟨c, -, rfl⟩ := List.mem_map.1 hy
       refine (Jjv (Us H.out.hm H.out.hsx g c x.length) (nt (Ut f x g _) (by omega))).mono ?_
       have h1 := H.out.hm2
       have h4 := Nat.mul_le_mul (show x.length <= 300 by omega) (show m + 1 <= 1000001 by omega)
       omega
      have dY : ∀ y ∈ l, QS 549755813888 y := fun y hy => (H.out.hsf l (List.mem_of_getElem? bJ) y hy).mono (by have := H.out.hm2; omega)
      have hsm := fun w' (hb : Below wr.heap.size wr w') => Jgh (some ⟨gr, 0, none⟩) Af mf cp8 cpf wr.heap.size B (Zv mf f x g) l w' ((OwnQ.reads_ x8).below hb) (cM.below (hb.mono cN)) hb.size (nt cN hb.size) (by omega) dX dY
      have bK : Xs mf f x (g + 1) = if Zv mf f x g = l then Xs mf f x g else Xs mf f x g + 1 := by rw [<- dV]; rfl
      generalize Xs mf f x g = M at *
      have HS4 := lh o7
      have HMV := lh bK
      have HSM := lh hsm
      clear o7 hsm bK dX dY e8 x8 cK bE bJ dV dW cL bQ cM bD cN x7
      cases u4 : decide (Zv mf f x g = l) with
      | true =>
       rw [u4] at HSM
       rw [if_pos (of_decide_eq_true u4)] at HMV
       go_upto_region 26 with fail
       obtain ⟨bG, bH⟩ := b6.c2; have c6 := b6.drew; have q9 := c6.lt; obtain ⟨aA, aB⟩ := b3.c2; have c3 := b3.drew; have o6 := c3.lt; obtain ⟨cO, cP⟩ := b0.c2; have c0 := b0.drew; have bL := c0.lt; obtain ⟨cQ, cS⟩ := b5.c2; have c5 := b5.drew; have bM := c5.lt; have hc := Jl wr; go_region_held3 (fun w' => w'.cell? ⟨g6, 0, none⟩ = some (.slice (some ⟨gd, 0, none⟩) n n) /\ w'.cell? ⟨gd, g, none⟩ = some (.slice (some ⟨gr, 0, none⟩) mf cp8) /\ w'.cell? ⟨w.heap.size, 0, none⟩ = some (.slice (some adf) n c) /\ w'.cell? ⟨gf, of, none⟩ = some (.slice Af mf cpf)) (go_keep) (first | (go_at_call 48; (with_reducible refine (HSM.out _ hc).mono ?_); rintro e w1 ⟨rfl, e9⟩; (try clear l7 o0); obtain ⟨c6, l7, o0⟩ := c6.zc2 e9; (try clear q9); have q9 := c6.lt; (try clear j6 j7); obtain ⟨c3, j6, j7⟩ := c3.zc2 e9; (try clear o6); have o6 := c3.lt; (try clear aE aF); obtain ⟨c0, aE, aF⟩ := c0.zc2 e9; (try clear bL); have bL := c0.lt; (try clear aG aH); obtain ⟨c5, aG, aH⟩ := c5.zc2 e9; (try clear bM); have bM := c5.lt; have hc := Ja hc e9))
       all_goals
        go_wp2
        exact ⟨⟨g + 1, by omega, by rw [HMV.out], by go_num, HS4.out.after hc⟩, by simp [intOf]; omega⟩
      | false =>
       rw [u4] at HSM
       rw [if_neg (of_decide_eq_false u4)] at HMV
       obtain ⟨M2, eT⟩ : ∃ M2, M + 1 = M2 := ⟨_, rfl⟩
       have e1 : (M : Int) + 1 = (M2 : Int) := by omega
       have e2 : IntKind.i64.wrap (M2 : Int) = (M2 : Int) := IntWalk.i64_in _ (by omega)
       rw [eT] at HMV
       go_upto_region 26 with fail
       obtain ⟨bG, bH⟩ := b6.c2; have c6 := b6.drew; have q9 := c6.lt; obtain ⟨aA, aB⟩ := b3.c2; have c3 := b3.drew; have o6 := c3.lt; obtain ⟨cO, cP⟩ := b0.c2; have c0 := b0.drew; have bL := c0.lt; obtain ⟨cQ, cS⟩ := b5.c2; have c5 := b5.drew; have bM := c5.lt; have hc := Jl wr; go_region_held3 (fun w' => w'.cell? ⟨g6, 0, none⟩ = some (.slice (some ⟨gd, 0, none⟩) n n) /\ w'.cell? ⟨gd, g, none⟩ = some (.slice (some ⟨gr, 0, none⟩) mf cp8) /\ w'.cell? ⟨w.heap.size, 0, none⟩ = some (.slice (some adf) n c) /\ w'.cell? ⟨gf, of, none⟩ = some (.slice Af mf cpf)) (go_keep) (first | (go_at_call 48; (with_reducible refine (HSM.out _ hc).mono ?_); rintro e w1 ⟨rfl, e9⟩; (try clear l7 o0); obtain ⟨c6, l7, o0⟩ := c6.zc2 e9; (try clear q9); have q9 := c6.lt; (try clear j6 j7); obtain ⟨c3, j6, j7⟩ := c3.zc2 e9; (try clear o6); have o6 := c3.lt; (try clear aE aF); obtain ⟨c0, aE, aF⟩ := c0.zc2 e9; (try clear bL); have bL := c0.lt; (try clear aG aH); obtain ⟨c5, aG, aH⟩ := c5.zc2 e9; (try clear bM); have bM := c5.lt; have hc := Ja hc e9))
       all_goals
        go_wp2
        exact ⟨⟨g + 1, by omega, by rw [HMV.out], by go_num, HS4.out.after hc⟩, by simp [intOf]; omega⟩
    obtain rfl : g = n := by omega
    have k2 : ¬ (g : Int) < (g : Int) := by omega
    rw [Jf9 hlf] at j0
    have dZ : Xs wd f x g = Ya wd f x := by unfold Ya; rw [hlf]
    rw [dZ]
    generalize hmv2 : Ya wd f x = mv at *
    have HM := lh hmv2
    have x6 := j0.next.c1
    have HS3 := lh j0
    obtain ⟨f0, f1, f2⟩ := j0.res.f1
    clear j0 dZ hmv2
    go_wp2
    refine bodyPost_ret (v := .tuple #[.agg #[.slice (some ⟨gd, 0, none⟩) g g], .int .i64 (mv : Int)]) (by simp [results, Tryz.results60, go_sem, f2]) rfl ?_
    have h0 := HS3.out
    have hx : Exc (w.heap.size + 1) wq (wq.setCell ⟨w.heap.size + 1, 0, none⟩ (.slice (some ⟨gd, 0, none⟩) g g)) := (Exc.refl _ _).set_ _ _
    have h1 := h0.hW
    have h2 := h0.hd
    have h3 := h0.hd6
    have h4 := h0.next.lt
    refine ⟨gd, by rw [HM.out], by omega, ?_, h0.bel.setCell (show w.heap.size <= w.heap.size + 1 by omega) _⟩
    unfold Ja9
    refine OwnSA.low ?_ (show w.heap.size <= W.heap.size by omega)
    exact (OwnSA.excQ (by decide) h0.rows hx (.inl (by omega)) (by omega)).more (by simp; omega)
