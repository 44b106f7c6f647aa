import Derived.Test.YtacbcaebaomglaaGreatDoorMeanQ
import Derived.Test.YtacbcaebaomglaaGreatDoorFracDivQ
namespace Go.Proofs.YtacbcaebaomglaaGreatDoor
set_option maxRecDepth 100000
set_option maxHeartbeats 40000000
open Go.RowKit
set_option linter.all false
theorem Tryz.eltI64 : Elt Tryz.prog 148 2 (.int .i64 0) 8 := ⟨Tryz.underlying148, by kernel_rfl, by kernel_rfl⟩
theorem OwnSA.low {β : Type} {T : TypeId} {I : World -> Value -> β -> Prop} {L L' B : Nat} {w : World} {v : Value} {bl : List β} (h : OwnSA T I L B w v bl) (hL : L' <= L) : OwnSA T I L' B w v bl := by
 obtain ⟨rl, h1, h2, h3, h4, h5⟩ := h
 exact ⟨rl, h1, h2, h3, fun i r hr k hk => ⟨nt hL (h4 i r hr k hk).1, (h4 i r hr k hk).2⟩, h5⟩
theorem OwnQ.excm {x : Nat} {w w' : World} {v : Value} {l : List Rat} (h : OwnQ w v l) (he : Exc x w w') (bW : v.ownBlock ≠ some x) : OwnQ w' v l := by
 refine ⟨h.1, ?_⟩
 rcases h.2 with k1 | ⟨b1, cap, cur, k1, k2, k3, k4⟩
 ·exact .inl k1
 exact .inr ⟨b1, cap, cur, k1, k2, (he.block b1 (h.lt b1 (by rw [k1]; rfl)) (fun e => bW (by rw [k1, e]; rfl))).trans k3, k4⟩
theorem OwnSA.excQ {T : TypeId} (hT : 65 ≠ T) {L B x g n c : Nat} {w w' : World} {bl : List (List Rat)} (h : OwnSA T OwnQ L B w (.slice (some ⟨g, 0, none⟩) n c) bl) (he : Exc x w w') (hx : x < L \/ B <= x) (hg : x ≠ g) : OwnSA T OwnQ L B w' (.slice (some ⟨g, 0, none⟩) n c) bl := by
 obtain ⟨rl, h1, h2, h3, h4, h5⟩ := h
 refine ⟨rl, h1.exc he (fun e => hg (Yv e).symm), h2, fun i r b hr hb => ?_, h4, h5⟩
 have hI := h3 i r b hr hb
 have bW : r.v.ownBlock ≠ some x := fun e => by have := h4 i r hr x e; omega
 refine ⟨hI.1, ?_⟩
 rcases hI.2 with k1 | ⟨b1, cap, cur, k1, k2, k3, k4⟩
 ·exact .inl k1
 exact .inr ⟨b1, cap, cur, k1, k2, (he.block b1 (hI.lt b1 (by rw [k1]; rfl)) (fun e => bW (by rw [k1, e]; rfl))).trans k3, k4⟩
structure ST1 (w1 : World) (L n n' g7 g8 gg : Nat) (gl : List Nat) (sl : List (List Rat)) (cl : List Nat) (wr : World) : Prop where
 sums : OwnSA 31 OwnQ L wr.heap.size wr (.slice (some ⟨g7, 0, none⟩) n n) sl
 cnt : Own wr 2 iv (.slice (some ⟨g8, 0, none⟩) n n) cl
 grp : Own wr 3 iv (.slice (some ⟨gg, 0, none⟩) n' n') gl
 bel : Below w1.heap.size w1 wr
 h7 : w1.heap.size <= g7
 h78 : g7 < g8
 h8g : g8 < gg
 hgL : gg < L
 hL : L <= wr.heap.size
section
variable {w1 wr wr' : World} {L n n' g7 g8 gg : Nat} {gl : List Nat} {sl : List (List Rat)} {cl : List Nat}
theorem ST1.next (h : ST1 w1 L n n' g7 g8 gg gl sl cl wr) (hb : Below wr.heap.size wr wr') : ST1 w1 L n n' g7 g8 gg gl sl cl wr' :=
 ⟨(OwnSA.next (Qm (by decide)).toKind h.sums hb).more hb.size, h.cnt.below hb h.cnt.lt, h.grp.below hb h.grp.lt, h.bel.trans (hb.mono h.bel.size), h.h7, h.h78, h.h8g, h.hgL, nt h.hL hb.size⟩
theorem ST1.setCnt (h : ST1 w1 L n n' g7 g8 gg gl sl cl wr) (i c : Nat) : ST1 w1 L n n' g7 g8 gg gl sl (cl.set i c) (wr.setCell ⟨g8, i, none⟩ (.int .i64 (c : Int))) := by
 have hs : (wr.setCell ⟨g8, i, none⟩ (.int .i64 (c : Int))).heap.size = wr.heap.size := by simp
 have hx : Exc g8 wr (wr.setCell ⟨g8, i, none⟩ (.int .i64 (c : Int))) := (Exc.refl _ _).set_ _ _
 refine ⟨?_, h.cnt.putm i c, h.grp.exc hx (fun e => ?_), h.bel.setCell (by have := h.h7; have := h.h78; show w1.heap.size <= g8; omega) _, h.h7, h.h78, h.h8g, h.hgL, by rw [hs]; exact h.hL⟩
 ·rw [hs]
  exact OwnSA.excQ (by decide) h.sums hx (.inl (by have := h.h8g; have := h.hgL; omega)) (by have := h.h78; omega)
 have := Yv e
 have := h.h8g
 omega
end
section
variable {w1 wr w5 : World} {L n n' g7 g8 gg : Nat} {gl : List Nat} {sl : List (List Rat)} {cl : List Nat}
theorem ST1.putSum (h : ST1 w1 L n n' g7 g8 gg gl sl cl wr) (hb : Below wr.heap.size wr w5) {r m k : Nat} {row : List Rat} (dA : OwnQ w5 (.slice (some ⟨r, 0, none⟩) m k) row) (hr : wr.heap.size <= r) (i : Nat) :
  ST1 w1 L n n' g7 g8 gg gl (sl.set i row) cl (w5.setCell ⟨g7, i, none⟩ (.slice (some ⟨r, 0, none⟩) m k)) := by
 have h5 := h.next hb
 have o1 := OwnSA.next (Qm (by decide)).toKind h.sums hb
 have o2 := OwnSA.put (Qm (by decide)) (i := i) (B' := w5.heap.size) o1 dA (fun y hy => by have e := Yv hy; subst e; exact ⟨hr, OwnW.lt dA _ rfl⟩) hb.size h.hL
 have hs : (w5.setCell ⟨g7, i, none⟩ (.slice (some ⟨r, 0, none⟩) m k)).heap.size = w5.heap.size := by simp
 have hx : Exc g7 w5 (w5.setCell ⟨g7, i, none⟩ (.slice (some ⟨r, 0, none⟩) m k)) := (Exc.refl _ _).set_ _ _
 refine ⟨by rw [hs]; exact o2, h5.cnt.exc hx (fun e => ?_), h5.grp.exc hx (fun e => ?_), h5.bel.setCell (show w1.heap.size <= g7 from h.h7) _, h.h7, h.h78, h.h8g, h.hgL, by rw [hs]; exact h5.hL⟩
 ·have := Yv e; have := h.h78; omega
 have := Yv e; have := h.h78; have := h.h8g; omega
theorem ST1.store (h : ST1 w1 L n n' g7 g8 gg gl sl cl wr) {i ga m k : Nat} {b : List Rat} (hb : sl[i]? = some b) (hc : wr.cell? ⟨g7, i, none⟩ = some (.slice (some ⟨ga, 0, none⟩) m k)) (j : Nat) (q : Rat) :
  ST1 w1 L n n' g7 g8 gg gl (sl.set i (b.set j q)) cl (((((wr.setCell ⟨ga, j * 5, none⟩ (.bool (decide (q.num < 0)))).setCell ⟨ga, j * 5 + 1, none⟩ (.int .u64 (lo q.num.natAbs : Int))).setCell ⟨ga, j * 5 + 2, none⟩ (.string (mo q.num.natAbs))).setCell ⟨ga, j * 5 + 3, none⟩ (.int .u64 (lo (qden q) : Int))).setCell ⟨ga, j * 5 + 4, none⟩ (.string (mo (qden q)))) := by
 obtain ⟨-, eF, -, -, j9⟩ := OwnSA.storeQ (by decide) h.sums hb hc
 have hx : Exc ga wr (((((wr.setCell ⟨ga, j * 5, none⟩ (.bool (decide (q.num < 0)))).setCell ⟨ga, j * 5 + 1, none⟩ (.int .u64 (lo q.num.natAbs : Int))).setCell ⟨ga, j * 5 + 2, none⟩ (.string (mo q.num.natAbs))).setCell ⟨ga, j * 5 + 3, none⟩ (.int .u64 (lo (qden q) : Int))).setCell ⟨ga, j * 5 + 4, none⟩ (.string (mo (qden q)))) := (((((Exc.refl ga wr).set_ _ _).set_ _ _).set_ _ _).set_ _ _).set_ _ _
 have h1 := h.h7
 have h2 := h.h78
 have h3 := h.h8g
 have h4 := h.hgL
 refine ⟨by rw [Jjy]; exact j9 j q, h.cnt.exc hx (fun e => ?_), h.grp.exc hx (fun e => ?_), Kl h.bel (by omega) _ _ _ _ _, h1, h2, h3, h4, by rw [Jjy]; exact h.hL⟩
 ·have := Yv e; omega
 have := Yv e; omega
theorem Jbp {wd : Nat} {f x : List (List Rat)} {n k g : Nat} (hg : g < n) : (Yf wd f x n k)[g]? = some (Vx wd f x g k) := Yn hg
theorem Jg1 {f x : List (List Rat)} {n k g : Nat} (hg : g < n) : (Kh f x n k)[g]? = some (Xu f x g k) := Yn hg
theorem Jm8 {wd g j : Nat} {f x : List (List Rat)} (hj : j < wd) : (Vy wd f x g j)[j]? = some ((f.getD g []).getD j 0) := by
 unfold Vy
 rw [Yn hj, if_neg (by omega)]
theorem Jmp {m : Nat} {a : Rat} {C : Nat} (ha : QS m a) (hC : C <= 1000) : QS (m + 64) (a / ((C : Nat) : Rat)) := by
 rw [Rat.div_def]
 exact ha.mul ((QS.nat (k := 64) (Nat.lt_of_le_of_lt hC (by decide)) (by omega)).inv (by omega))
theorem Jjg {f x : List (List Rat)} {k : Nat} {l : List Rat} (hl : x[k]? = some l) : (Jl f x)[k]? = some (Qk f l) := by unfold Jl; rw [List.getElem?_map, hl]; rfl
end
structure ST0 (W : World) (w : World) (n c : Nat) (A : Option Addr) (f : List (List Rat)) (g6 gd : Nat) (w1 : World) : Prop where
 model : Blk w1 w.heap.size 30 #[.slice A n c]
 res : Blk w1 (w.heap.size + 1) 30 #[.slice none 0 0]
 next : Blk w1 g6 30 #[.slice (some ⟨gd, 0, none⟩) n n]
 rows : OwnSA 31 OwnQ W.heap.size g6 w1 (.slice (some ⟨gd, 0, none⟩) n n) f
 hg : gd < g6
 bel : Below w.heap.size w w1
 h6 : w.heap.size + 2 <= g6
 hd : w.heap.size + 2 <= gd
 hW : w.heap.size + 2 = W.heap.size
structure ST3 (w W : World) (n c : Nat) (A : Option Addr) (g6 gd g7 g8 L : Nat) (nl sl : List (List Rat)) (cl : List Nat) (wr : World) : Prop where
 model : Blk wr w.heap.size 30 #[.slice A n c]
 res : Blk wr (w.heap.size + 1) 30 #[.slice none 0 0]
 next : Blk wr g6 30 #[.slice (some ⟨gd, 0, none⟩) n n]
 rows : OwnSA 31 OwnQ W.heap.size g6 wr (.slice (some ⟨gd, 0, none⟩) n n) nl
 sums : OwnSA 31 OwnQ L wr.heap.size wr (.slice (some ⟨g7, 0, none⟩) n n) sl
 cnt : Own wr 2 iv (.slice (some ⟨g8, 0, none⟩) n n) cl
 bel : Below w.heap.size w wr
 hW : w.heap.size + 2 = W.heap.size
 hd : W.heap.size <= gd
 hd6 : gd < g6
 h67 : g6 < g7
 h78 : g7 < g8
 h8L : g8 < L
 hLw : L <= wr.heap.size
section
variable {w W wr wr' : World} {n c g6 gd g7 g8 L : Nat} {A : Option Addr} {nl sl : List (List Rat)} {cl : List Nat}
theorem ST3.after (h : ST3 w W n c A g6 gd g7 g8 L nl sl cl wr) (hb : Below wr.heap.size wr wr') : ST3 w W n c A g6 gd g7 g8 L nl sl cl wr' :=
 ⟨h.model.below hb h.model.lt, h.res.below hb h.res.lt, h.next.below hb h.next.lt, OwnSA.next (Qm (by decide)).toKind h.rows hb, (OwnSA.next (Qm (by decide)).toKind h.sums hb).more hb.size, h.cnt.below hb h.cnt.lt, h.bel.trans (hb.mono h.bel.size), h.hW, h.hd, h.hd6, h.h67, h.h78, h.h8L, nt h.hLw hb.size⟩
theorem ST3.store (h : ST3 w W n c A g6 gd g7 g8 L nl sl cl wr) {i ga m k : Nat} {b : List Rat} (hb : nl[i]? = some b) (hc : wr.cell? ⟨gd, i, none⟩ = some (.slice (some ⟨ga, 0, none⟩) m k)) (j : Nat) (q : Rat) :
  ST3 w W n c A g6 gd g7 g8 L (nl.set i (b.set j q)) sl cl (((((wr.setCell ⟨ga, j * 5, none⟩ (.bool (decide (q.num < 0)))).setCell ⟨ga, j * 5 + 1, none⟩ (.int .u64 (lo q.num.natAbs : Int))).setCell ⟨ga, j * 5 + 2, none⟩ (.string (mo q.num.natAbs))).setCell ⟨ga, j * 5 + 3, none⟩ (.int .u64 (lo (qden q) : Int))).setCell ⟨ga, j * 5 + 4, none⟩ (.string (mo (qden q)))) := by
 obtain ⟨-, eF, eG, -, j9⟩ := OwnSA.storeQ (by decide) h.rows hb hc
 have hx : Exc ga wr (((((wr.setCell ⟨ga, j * 5, none⟩ (.bool (decide (q.num < 0)))).setCell ⟨ga, j * 5 + 1, none⟩ (.int .u64 (lo q.num.natAbs : Int))).setCell ⟨ga, j * 5 + 2, none⟩ (.string (mo q.num.natAbs))).setCell ⟨ga, j * 5 + 3, none⟩ (.int .u64 (lo (qden q) : Int))).setCell ⟨ga, j * 5 + 4, none⟩ (.string (mo (qden q)))) := (((((Exc.refl ga wr).set_ _ _).set_ _ _).set_ _ _).set_ _ _).set_ _ _
 have h1 := h.hW
 have h2 := h.h67
 have h3 := h.h78
 have h4 := h.h8L
 refine ⟨h.model.exc hx (by omega), h.res.exc hx (by omega), h.next.exc hx (by omega), j9 j q, ?_, h.cnt.exc hx (fun e => ?_), Kl h.bel (by omega) _ _ _ _ _, h1, h.hd, h.hd6, h2, h3, h4, by rw [Jjy]; exact h.hLw⟩
 ·rw [Jjy]
  exact OwnSA.excQ (by decide) h.sums hx (.inl (by omega)) (by omega)
 have := Yv e; omega
end
theorem Jdz (A A' : Option Addr) (n c n' c' wd B m : Nat) (f x : List (List Rat)) (w : World) (h : MX w B A A' n n' wd m f x) (hwd1 : 1 <= wd) :
  Calls Tryz.prog 60 #[.agg #[.slice A n c], .slice A' n' c'] w fun e w' => ∃ g, e = .returned (.tuple #[.agg #[.slice (some ⟨g, 0, none⟩) n n], .int .i64 (Zq wd f x : Int)]) /\ w.heap.size <= g /\ Jc6 w g n (Xr wd f x) w' /\ Below w.heap.size w w' := by
 have hlx := h.hx.len
 have hlf := h.hf.len
 have hn' := h.hn'
 have hn := h.hn
 have hn2 := h.hn2
 have hwd := h.hwd
 have H := lh h
 clear h
 obtain ⟨b0, b1, hB, hZ⟩ := bx2 w 30 #[.slice A n c] 30 #[.slice none 0 0]
 have HD := lh (fun w' (hb : Below w.heap.size w w') => Jfl A n c wd B f w' ((H.out.next hb).hf) (H.out.next hb).hB (by omega) hwd1 (by omega) H.out.hlf)
 have HB0 := lh hB
 clear hB
 have x0 := b0.c1
 go_enter Tryz.func60, Tryz.ntmps60
 go_upto_region 1 with fail
 generalize ((w.alloc (.cells #[.slice A n c] 30)).alloc (.cells #[.slice none 0 0] 30)) = W at *
 go_cut [6] (fun v wc => ∃ g6 gd, v = .pointer (some ⟨g6, 0, none⟩) /\ ST0 W w n c A f g6 gd wc)
 case first =>
  go_wp2_with fail
  refine (HD.out _ HB0.out).mono ?_
  rintro e w1 ⟨gd, rfl, eZ, hm, y9⟩
  go_wp2
  go_meet
  have hW := hZ.out
  have e0 := b0.below y9 b0.lt
  have e1 := b1.below y9 b1.lt
  have j8 := y9.size
  have ho := OwnSA.next (Qm (by decide)).toKind hm (Jb w1 (.cells #[.slice (some ⟨gd, 0, none⟩) n n] 30))
  refine ⟨w1.heap.size, gd, rfl, e0.alloc _, e1.alloc _, Blk.new _ _ _, ho, ?_, Ja (HB0.out.trans (y9.mono HB0.out.size)) (Jb _ _), by omega, by omega, by omega⟩
  have := OwnS.lt hm.plain gd rfl
  omega
 case rest =>
  obtain ⟨g6, gd, rfl, j9⟩ := hcut
  rename World => w1
  clear HD HB0 x0 b0 b1 hZ
  have lw1 := j9.bel.size
  have l0 := j9.model.lt
  have l1 := j9.res.lt
  have l6 := j9.next.lt
  have aR := Qf (P := Tryz.prog) SW.v ⟨none, 0, 0⟩ 28 31 24 (Tryz.eltQQ).under (Tryz.eltQQ).info rfl .i64 .i64 n (by omega) (by omega) w1
  have dB := fun L B => Jds (T := 31) (Qm (by decide)) (e := []) (fun w => OwnW.nil_ _ _ _ _) L B n w1 (by unfold maxLen; omega)
  have aS := Jb w1 (.cells ((List.replicate n (⟨none, 0, 0⟩ : SW)).map SW.v).toArray 31)
  have fA : (w1.alloc (.cells ((List.replicate n (⟨none, 0, 0⟩ : SW)).map SW.v).toArray 31)).heap.size = w1.heap.size + 1 := by simp
  generalize w1.alloc (.cells ((List.replicate n (⟨none, 0, 0⟩ : SW)).map SW.v).toArray 31) = w2 at *
  obtain ⟨g7, bX⟩ : ∃ g7, w1.heap.size = g7 := ⟨_, rfl⟩
  obtain ⟨w3, aT, bY, bS⟩ := Jfm (P := Tryz.prog) iv 0 148 2 8 (Tryz.eltI64).under (Tryz.eltI64).info rfl n n zd (by omega) (by unfold maxLen; omega) w2
  obtain ⟨g8, bZ⟩ : ∃ g8, w2.heap.size = g8 := ⟨_, rfl⟩
  have l8 := bY.lt _ rfl
  have dC := fun w' (hb : Below w.heap.size w w') => Vk A A' n c n' c' wd B m f x w' (H.out.next hb)
  have aC := j9.bel.trans (aS.mono j9.bel.size)
  have aU := aC.trans (bS.mono aC.size)
  have HG := lh (dC w3 aU)
  have x1 := j9.model.c1
  have x2 := (j9.model.below aS l0).c1
  have x3 := ((j9.model.below aS l0).below bS (by omega)).c1
  have H2 := lh dB
  have H3 := lh bY
  have HB2 := lh (And.intro aS bS)
  have HS := lh j9
  rw [bX] at aR
  rw [bZ] at aT
  clear dC dB bY aS bS aC aU j9
  go_wp2_with fail
  refine HG.out.mono ?_
  rintro e w4 ⟨gg, rfl, eH, cA, bT⟩
  have l9 := cA.lt _ rfl
  have aD := HB2.out.2
  have x7 := aD.trans (bT.mono aD.size)
  have aV := HB2.out.1.trans (x7.mono HB2.out.1.size)
  have eI : w1.heap.size < w4.heap.size := by have := x7.size; omega
  have HI : Hid (ST1 w1 w4.heap.size n n' g7 g8 gg (Jl f x) (Yf wd f x n 0) (Kh f x n 0) w4) := lh (by
   have e2 := H2.out w4.heap.size w4.heap.size
   rw [bX, <- Jis (wd := wd) (f := f) (x := x)] at e2
   have e3 := H3.out
   rw [bZ, <- Jla (f := f) (x := x)] at e3
   exact ⟨OwnSA.next (Qm (by decide)).toKind e2 x7, e3.below bT e3.lt, cA, aV, by omega, by omega, by have := bT.size; omega, l9, Nat.le_refl _⟩)
  clear H2 H3 HB2 HG x1 x2 x3 aR aT cA aD x7 aV bT
  go_wp2_with fail
  go_loopw [34] (fun p wr => ∃ k : Nat, k <= n' /\ p = .int .i64 (k : Int) /\ ST1 w1 w4.heap.size n n' g7 g8 gg (Jl f x) (Yf wd f x n k) (Kh f x n k) wr) (fun p _ => n' - (intOf p).toNat)
  case atStart => exact ⟨0, by omega, rfl, HI.out⟩
  case round =>
   obtain ⟨k, hk, rfl, j8⟩ := hrel
   rename World => wr
   clear HI
   by_cases fB : k < n'
   ·have k1 : (k : Int) < (n' : Int) := by omega
    obtain ⟨l, hl⟩ : ∃ l, x[k]? = some l := ⟨_, List.getElem?_eq_getElem (by omega)⟩
    obtain ⟨ad, A1, m1, cp1, rfl, dD, dE, cB⟩ := H.out.hx.at_ hl
    have dF : l.length = m1 := cB.len
    have eJ : m1 = wd := by rw [<- dF]; exact H.out.hlx l (List.mem_of_getElem? hl)
    subst eJ
    have cC : x.getD k [] = l := by rw [List.getD_eq_getElem?_getD, hl]; rfl
    have hgl := Jjg (f := f) hl
    have aN : Qk f l < n := by have := Jfh f l (Nat.le_refl f.length) (by omega); unfold Qk; omega
    have HX : Hid (Qk f (x.getD k []) = Qk f l) := lh (by rw [cC])
    obtain ⟨g0, hg⟩ : ∃ g0, Qk f l = g0 := ⟨_, rfl⟩
    rw [hg] at hgl aN HX
    obtain ⟨C, hC⟩ : ∃ C, Xu f x g0 k = C := ⟨_, rfl⟩
    have eK : C <= k := by rw [<- hC]; exact Jai f x g0 k
    have p1 := Own.cellf (by rw [show (Jl f x).length = n' by unfold Jl; rw [List.length_map, hlx]]; exact j8.grp) hgl
    have p2 := Own.cellf (by rw [show (Kh f x n k).length = n by simp [Kh]]; exact j8.cnt) (Jg1 (f := f) (x := x) (k := k) aN)
    rw [hC] at p2
    unfold iv at p1 p2
    have k2 : (g0 : Int) < (n : Int) := by omega
    have HBX : Hid (∀ w', Below w1.heap.size w1 w' -> w'.cell? (ad.add k) = some (.slice A1 m1 cp1) /\ ReadsQ w' B A1 m1 l /\ Tab w') := lh fun w' hb => by
     have cE := HS.out.bel.trans (hb.mono lw1)
     exact ⟨Xq (cE.mono H.out.hB) dE dD, cB.below (cE.mono H.out.hB), H.out.hT.next cE⟩
    have p3 := (HBX.out wr j8.bel).1
    have HL := lh (And.intro hl cC)
    have HC := lh hC
    have HS1 := lh j8
    clear hl cC hgl hg cB dE dD dF j8 hC
    go_upto_if 43 with fail
    go_cut [] (fun wc => ST1 w1 w4.heap.size n n' g7 g8 gg (Jl f x) ((Yf m1 f x n k).set g0 (Kr m1 f x g0 k 0)) (Kh f x n k) wc)
    case first =>
     by_cases cz : C = 0
     ·have q1 : ((C : Int) == 0) = true := by simp; omega
      have q2 : (C : Int) = 0 := by omega
      obtain ⟨w5, fC, dG, y9⟩ := Jog m1 (by omega) wr
      have o1 := OwnSA.next (Qm (by decide)).toKind HS1.out.sums y9
      have dH := o1.frozen g0
      obtain ⟨A9, m9, cp9, aO, -, -, -⟩ := OwnSA.at_ (Qm (T := 31) (by decide)) o1 (Jbp aN)
      have HP := lh (HS1.out.putSum y9 dG zd g0)
      rw [<- Jlt (HC.out.trans cz)] at HP
      clear o1 dG y9 cz
      go_wp2
      go_meet
      exact HP.out
     have q1 : ((C : Int) == 0) = false := by simp; omega
     have q2 : ¬ (C : Int) = 0 := by omega
     have HP := HS1
     rw [<- Jhj (Jbp (wd := m1) (f := f) (x := x) (k := k) aN), <- Jls (by rw [HC.out]; exact cz)] at HP
     clear cz
     go_wp2
     go_meet
     exact HP.out
    case rest =>
     rename World => wc
     have o0 : ST1 w1 w4.heap.size n n' g7 g8 gg (Jl f x) ((Yf m1 f x n k).set g0 (Kr m1 f x g0 k 0)) (Kh f x n k) wc := hcut
     clear hcut p1 p2 p3 HS1
     have p2 := Own.cellf (by rw [show (Kh f x n k).length = n by simp [Kh]]; exact o0.cnt) (Jg1 (f := f) (x := x) (k := k) aN)
     rw [HC.out] at p2
     unfold iv at p2
     have dH := o0.cnt.frozm g0
     obtain ⟨D, hD⟩ : ∃ D, C + 1 = D := ⟨_, rfl⟩
     have e1 : (C : Int) + 1 = (D : Int) := by omega
     have e2 : IntKind.i64.wrap (D : Int) = (D : Int) := IntWalk.i64_in _ (by omega)
     have j0 := o0.setCnt g0 D
     rw [show (Kh f x n k).set g0 D = Kh f x n (k + 1) by rw [<- hD, <- HC.out]; exact Jmq HX.out] at j0
     have HS3 := lh j0
     clear o0 j0 hD
     go_upto_region 9 with fail
     go_cut [] (fun wc => ST1 w1 w4.heap.size n n' g7 g8 gg (Jl f x) ((Yf m1 f x n k).set g0 (Kr m1 f x g0 k 0)) (Kh f x n (k + 1)) wc)
     case first =>
      go_wp2
      go_meet
      exact HS3.out
     case rest =>
      rename World => wd0
      have o0 : ST1 w1 w4.heap.size n n' g7 g8 gg (Jl f x) ((Yf m1 f x n k).set g0 (Kr m1 f x g0 k 0)) (Kh f x n (k + 1)) wd0 := hcut
      clear hcut p2 dH e1 e2 HS3
      have p3 := (HBX.out wd0 o0.bel).1
      have HS2 := lh o0
      clear o0
      go_wp2_with fail
      clear p3
      go_loopw [64] (fun p wq => ∃ j : Nat, j <= m1 /\ p = .int .i64 (j : Int) /\ ST1 w1 w4.heap.size n n' g7 g8 gg (Jl f x) ((Yf m1 f x n k).set g0 (Kr m1 f x g0 k j)) (Kh f x n (k + 1)) wq) (fun p _ => m1 - (intOf p).toNat)
      case atStart => exact ⟨0, by omega, rfl, HS2.out⟩
      case round =>
       obtain ⟨j, hj, rfl, o0⟩ := hrel
       rename World => wq
       clear HS2
       by_cases aP : j < m1
       ·have k3 : (j : Int) < (m1 : Int) := by omega
        have cF := (HBX.out wq o0.bel).2.1
        obtain ⟨y, hy⟩ : ∃ y, l[j]? = some y := ⟨_, List.getElem?_eq_getElem (by rw [cF.len]; exact aP)⟩
        obtain ⟨ad1, g1, o1, rfl, eL, -, b1⟩ := ReadsQ.at_ cF hy
        obtain ⟨x0, x1, x2, x3, x4⟩ := b1.c5
        have HS2 := lh o0
        have HY := lh hy
        clear cF b1 o0 hy
        go_upto_region 12 with fail
        go_cut [11, 12] (fun v p wc => v = .int .i64 (j : Int) /\ Vr wq 65 #[.bool (decide (y.num < 0)), .int .u64 (lo y.num.natAbs : Int), .string (mo y.num.natAbs), .int .u64 (lo ((qden y)) : Int), .string (mo ((qden y)))] p wc)
        case first =>
         go_wp2
         go_meet
         refine ⟨rfl, ?_⟩
         first | with_reducible exact Va (Below.refl _ _) | with_reducible exact Jge (Ja (Below.refl _ _) (Jb _ _)) (Blk.new _ _ _) zd
        case rest =>
         obtain ⟨rfl, g12, rfl, eM, b12, aW⟩ := hcut
         rename World => w5
         clear x0 x1 x2 x3 x4 eL
         have t8 := HS2.out.next aW
         have e8 : ((Yf m1 f x n k).set g0 (Kr m1 f x g0 k j))[g0]? = some (Kr m1 f x g0 k j) := by rw [List.getElem?_set_self]; simp [Yf]; exact aN
         obtain ⟨A9, m9, cp9, aO, x8, eN, -⟩ := OwnSA.at_ (Qm (T := 31) (by decide)) t8.sums e8
         obtain ⟨ga, rfl, aX⟩ := OwnQ.addr' x8 (by rw [Jhn]; omega)
         obtain rfl : m9 = m1 := by rw [aX, Jhn]
         have b4 := OwnQ.at_ x8 (Jj0 (f := f) (x := x) (g := g0) (k := k) aP)
         have b3 := At1.mk' aO
         have aY : QS 400000000 (Xt f x g0 j k) := by
          refine (Jah H.out.hm H.out.hsx g0 j k).mono ?_
          have h1 := H.out.hm2
          have h4 := Nat.mul_le_mul (show k <= 300 by omega) (show m + 1 <= 1000001 by omega)
          omega
         have dI := H.out.hsx l (List.mem_of_getElem? HL.out.1) y (List.mem_of_getElem? HY.out)
         have aZ := dI.mono H.out.hm2
         have aE := fun w (hT : Tab w) => Jbz (Xt f x g0 j k) y w (aY.mono (by omega)) (aZ.mono (by omega)) hT
         have bA : (Kr m9 f x g0 k j).set j (Xt f x g0 j k + y) = Kr m9 f x g0 k (j + 1) := by
          have h1 := Jlr (wd := m9) (j := j) HX.out
          rw [HL.out.2, List.getD_eq_getElem?_getD, HY.out] at h1
          exact h1
         generalize Xt f x g0 j k = s at *
         generalize s + y = s' at *
         unfold qV at aE
         have HAD := lh aE
         have HN := lh bA
         have tT := (HBX.out w5 t8.bel).2.2
         have HS5 := lh t8
         have HR9 := lh x8
         have HW := lh e8
         have HSJ : Hid (∃ u, (Kr m9 f x g0 k j)[j]? = some u) := lh ⟨_, Jj0 aP⟩
         clear aE bA aY dI aZ t8 x8 e8 eN aX aO HS2 aW
         go_upto_region 13 with fail
         obtain ⟨dJ, dK, dL, dM, dN⟩ := b12.c5; have c12 := b12.drew; have bB := c12.lt; obtain ⟨aF, aG⟩ := b3.c2; have c3 := b3.drew; have o8 := c3.lt; obtain ⟨eO, eP, eQ, eR, eS⟩ := b4.c5; have c4 := b4.drew; have aH := c4.lt; have hc := Ji w5; go_region_law (first | (go_simp; go_at_call 53; (with_reducible refine (HAD.out _ (tT.next hc)).mono ?_); rintro e w1 ⟨rfl, e9⟩; (try clear bC bD bE bF bG); obtain ⟨c12, bC, bD, bE, bF, bG⟩ := c12.zc5 e9; (try clear bB); have bB := c12.lt; (try clear j6 j7); obtain ⟨c3, j6, j7⟩ := c3.zc2 e9; (try clear o8); have o8 := c3.lt; (try clear cG cH cI cJ cK); obtain ⟨c4, cG, cH, cI, cJ, cK⟩ := c4.zc5 e9; (try clear aH); have aH := c4.lt; have hc := Ja hc e9; have p7 := OwnW.next HR9.out hc; have z0 := OwnQ.frozen p7 (j * 5); have z1 := OwnQ.frozen p7 (j * 5 + 1); have z2 := OwnQ.frozen p7 (j * 5 + 2); have z3 := OwnQ.frozen p7 (j * 5 + 3); have z4 := OwnQ.frozen p7 (j * 5 + 4)))
         all_goals
          go_wp2
          have o1 := (HS5.out.next hc).store HW.out c3.c2.1 j s'
          rw [List.set_set, HN.out] at o1
          exact ⟨⟨j + 1, by omega, by go_num, o1⟩, by simp [intOf]; omega⟩
       obtain rfl : j = m1 := by omega
       have k3 : ¬ (j : Int) < (j : Int) := by omega
       rw [Jki HX.out] at o0
       have HS2 := lh o0
       clear o0
       go_wp2
       exact ⟨⟨k + 1, by omega, by go_num, HS2.out⟩, by simp [intOf]; omega⟩
   obtain rfl : k = n' := by omega
   have k1 : ¬ (k : Int) < (k : Int) := by omega
   have j0 : ST3 w W n c A g6 gd g7 g8 w4.heap.size (Yh wd f x n 0) (Yf wd f x n k) (Kh f x n k) wr := by
    rw [Ji6 hlf]
    have h1 := HS.out
    have h2 := h1.hW
    have h3 := h1.hd
    exact ⟨h1.model.below j8.bel l0, h1.res.below j8.bel l1, h1.next.below j8.bel l6, OwnSA.next (Qm (by decide)).toKind h1.rows j8.bel, j8.sums, j8.cnt, h1.bel.trans (j8.bel.mono lw1), h2, by omega, h1.hg, by omega, j8.h78, by have := j8.h8g; have := j8.hgL; omega, j8.hL⟩
   have HS3 := lh j0
   clear j8 j0 HS eI lw1 l0 l1 l6 l8 l9 eH bX bZ
   go_wp2_with fail
   go_loopw [13, 88] (fun v p wr => ∃ g : Nat, g <= n /\ v = .int .i64 (Xc wd f x g : Int) /\ p = .int .i64 (g : Int) /\ ST3 w W n c A g6 gd g7 g8 w4.heap.size (Yh wd f x n g) (Yf wd f x n k) (Kh f x n k) wr) (fun _ p _ => n - (intOf p).toNat)
   case atStart => exact ⟨0, by omega, rfl, rfl, HS3.out⟩
   case round =>
    obtain ⟨g, hg, rfl, rfl, j0⟩ := hrel
    rename World => wq
    clear HS3
    by_cases aQ : g < n
    ·have k2 : (g : Int) < (n : Int) := by omega
     obtain ⟨C, hC⟩ : ∃ C, Xu f x g k = C := ⟨_, rfl⟩
     have eK : C <= k := by rw [<- hC]; exact Jai f x g k
     have p2 := Own.cellf (by rw [show (Kh f x n k).length = n by simp [Kh]]; exact j0.cnt) (Jg1 (f := f) (x := x) (k := k) aQ)
     rw [hC] at p2
     unfold iv at p2
     have eT := Jbg wd f x g
     by_cases cz : C = 0
     ·have q1 : ((C : Int) == 0) = true := by simp; omega
      have q2 : (C : Int) = 0 := by omega
      have aA : Xi wd f x g = f.getD g [] := if_pos (by rw [hlx, hC, cz])
      have dO : Xc wd f x (g + 1) = Xc wd f x g := if_pos aA
      rw [<- Ji7 aA] at j0
      rw [<- dO]
      have HS3 := lh j0
      clear j0 aA dO hC cz eT
      go_wp2
      exact ⟨⟨g + 1, by omega, rfl, by go_num, HS3.out⟩, by simp [intOf]; omega⟩
     have q1 : ((C : Int) == 0) = false := by simp; omega
     have q2 : ¬ (C : Int) = 0 := by omega
     obtain ⟨A9, m9, cp9, aO, x8, -, -⟩ := OwnSA.at_ (Qm (T := 31) (by decide)) j0.sums (Jbp (wd := wd) (f := f) (x := x) (k := k) aQ)
     have dP : Vx wd f x g k = (List.range wd).map fun c => Xt f x g c k := if_neg (by rw [hC]; exact cz)
     rw [dP] at x8
     obtain ⟨ga, rfl, aX⟩ := OwnQ.addr' x8 (by simp; omega)
     obtain rfl : m9 = wd := by rw [aX]; simp
     have cL : f.getD g [] ∈ f := by rw [List.getD_eq_getElem?_getD, List.getElem?_eq_getElem (by omega)]; exact List.getElem_mem _
     have cM : (f.getD g []).length = m9 := H.out.hlf _ cL
     have o9 : ST3 w W n c A g6 gd g7 g8 w4.heap.size ((Yh m9 f x n g).set g (Vy m9 f x g 0)) (Yf m9 f x n k) (Kh f x n k) wq := by
      rw [Jkl cM, Jhj (Jlz aQ)]
      exact j0
     have HS4 := lh o9
     have HC := lh hC
     have HG := lh (And.intro cL cM)
     have bH := (OwnSA.at_ (Qm (T := 31) (by decide)) j0.sums (Jbp (wd := m9) (f := f) (x := x) (k := k) aQ))
     have eU : w4.heap.size <= ga := by
      obtain ⟨A7, m7, cp7, eV, -, eW, -⟩ := bH
      have e := Option.some.inj (eV.symm.trans aO)
      injection e with e1 e2 e3
      subst e1
      exact (eW ga rfl).1
     have HR9 := lh x8
     have HCZ := lh cz
     clear j0 o9 x8 dP aX hC cL cM cz bH
     go_wp2_with fail
     clear aO p2
     go_loopw [100] (fun p wr => ∃ j : Nat, j <= m9 /\ p = .int .i64 (j : Int) /\ ST3 w W n c A g6 gd g7 g8 w4.heap.size ((Yh m9 f x n g).set g (Vy m9 f x g j)) (Yf m9 f x n k) (Kh f x n k) wr /\ OwnQ wr (.slice (some ⟨ga, 0, none⟩) m9 cp9) ((List.range m9).map fun c => Xt f x g c k)) (fun p _ => m9 - (intOf p).toNat)
     case atStart => exact ⟨0, by omega, rfl, HS4.out, HR9.out⟩
     case round =>
      obtain ⟨j, hj, rfl, o9, e8⟩ := hrel
      rename World => wr
      clear HS4 HR9
      by_cases aP : j < m9
      ·have k3 : (j : Int) < (m9 : Int) := by omega
       have b1 := OwnQ.at_ e8 (Yn (r := fun c => Xt f x g c k) aP)
       have aY : QS 400000000 (Xt f x g j k) := by
        refine (Jah H.out.hm H.out.hsx g j k).mono ?_
        have h1 := H.out.hm2
        have h4 := Nat.mul_le_mul (show k <= 300 by omega) (show m + 1 <= 1000001 by omega)
        omega
       have bA : ∀ y, Xt f x g j k / ((C : Nat) : Rat) = y -> (Vy m9 f x g j).set j y = Vy m9 f x g (j + 1) := fun y hy => Jlq (by rw [hlx, HC.out]; exact hy)
       generalize Xt f x g j k = q at *
       obtain ⟨x0, x1, x2, x3, x4⟩ := b1.c5
       have HS4 := lh o9
       have HRW := lh e8
       have HN := lh bA
       have HQS := lh aY
       clear b1 o9 e8 bA aY
       go_upto_region 23 with fail
       go_cut [16, 17] (fun v p wc => v = .int .i64 (j : Int) /\ Vr wr 65 #[.bool (decide (q.num < 0)), .int .u64 (lo q.num.natAbs : Int), .string (mo q.num.natAbs), .int .u64 (lo ((qden q)) : Int), .string (mo ((qden q)))] p wc)
       case first =>
        go_wp2
        go_meet
        refine ⟨rfl, ?_⟩
        first | with_reducible exact Va (Below.refl _ _) | with_reducible exact Jge (Ja (Below.refl _ _) (Jb _ _)) (Blk.new _ _ _) zd
       case rest =>
        obtain ⟨rfl, g17, rfl, cN, b17, aI⟩ := hcut
        rename World => w5
        clear x0 x1 x2 x3 x4
        have t8 := HS4.out.after aI
        have e8 : ((Yh m9 f x n g).set g (Vy m9 f x g j))[g]? = some (Vy m9 f x g j) := by rw [List.getElem?_set_self]; simp [Yh]; exact aQ
        obtain ⟨A8, m8, cp8, bI, aB, dQ, dR⟩ := OwnSA.at_ (Qm (T := 31) (by decide)) t8.rows e8
        obtain ⟨gr, rfl, bJ⟩ := OwnQ.addr' aB (by rw [Jhm]; omega)
        obtain rfl : m8 = m9 := by rw [bJ, Jhm]
        have bK : ¬ gd = gr := fun e => (dR gr rfl).1 e.symm
        have hLw : w4.heap.size <= g17 := nt HS4.out.hLw cN
        clear dR
        have b4 := OwnQ.at_ aB (Jm8 (f := f) (x := x) (g := g) aP)
        generalize (f.getD g []).getD j 0 = o at *
        have b3 := At1.mk' bI
        have b6 := At1.mk' t8.next.c1
        have bU := fun w => Jnp (C : Int) w (by omega) (by omega)
        have dS : ((C : Int) : Rat) = ((C : Nat) : Rat) := Rat.intCast_natCast C
        have dT : ((C : Nat) : Rat) ≠ 0 := fun e => HCZ.out (by exact_mod_cast e)
        have dU : QS 64 ((C : Nat) : Rat) := QS.nat (Nat.lt_of_le_of_lt (show C <= 300 by omega) (by decide)) (by omega)
        rw [dS] at bU
        have HNN := lh (HN.out _ rfl)
        generalize ((C : Nat) : Rat) = cq at *
        have cO := fun w (hT : Tab w) => Jml q cq w (HQS.out.mono (by omega)) (dU.mono (by omega)) dT hT
        generalize q / cq = s' at *
        unfold qV at bU cO
        have HOF := lh bU
        have HDV := lh cO
        have tT := H.out.hT.next t8.bel
        have HS5 := lh t8
        have HR8 := lh aB
        have HW := lh e8
        have HRW2 := lh (OwnW.next HRW.out aI)
        have HL8 := lh (dQ gr rfl)
        clear bU cO dS dT dU t8 aB e8 dQ bJ bI HS4 aI HRW HN HQS
        have ny1 : ¬ g17 = gr := by have e1 := HL8.out.2; have e2 := HS5.out.h67; have e3 := HS5.out.h78; have e4 := HS5.out.h8L; have e5 := hLw; omega
        have ny2 : ¬ gr = g17 := fun e => ny1 e.symm
        have ny3 : ¬ g6 = gr := by have := HL8.out.2; omega
        have ny4 : ¬ gr = g6 := fun e => ny3 e.symm
        have ny5 : ¬ gd = gr := bK
        have ny6 : ¬ gr = gd := fun e => bK e.symm
        go_upto_region 24 with fail
        obtain ⟨dV, dW, dX, dY, dZ⟩ := b17.c5; have c17 := b17.drew; have x9 := c17.lt; obtain ⟨bL, bM⟩ := b6.c2; have c6 := b6.drew; have u4 := c6.lt; obtain ⟨aF, aG⟩ := b3.c2; have c3 := b3.drew; have o8 := c3.lt; have c4 := b4.drew; have aH := c4.lt; have hc := Ji w5; go_region_held3 (fun w' => w'.cell? ⟨g17, 0, none⟩ = some (.bool (decide (q.num < 0))) /\ w'.cell? ⟨g17, 1, none⟩ = some (.int .u64 (lo q.num.natAbs : Int)) /\ w'.cell? ⟨g17, 2, none⟩ = some (.string (mo q.num.natAbs)) /\ w'.cell? ⟨g17, 3, none⟩ = some (.int .u64 (lo ((qden q)) : Int)) /\ w'.cell? ⟨g17, 4, none⟩ = some (.string (mo ((qden q)))) /\ w'.cell? ⟨g6, 0, none⟩ = some (.slice (some ⟨gd, 0, none⟩) n n) /\ w'.cell? ⟨gd, g, none⟩ = some (.slice (some ⟨gr, 0, none⟩) m8 cp8)) (go_keep) (first | (go_at_call 35; (with_reducible refine (HOF.out _).mono ?_); rintro e w1 ⟨rfl, e9⟩; (try clear p8 p9 q8 s9 t7); obtain ⟨c17, p8, p9, q8, s9, t7⟩ := c17.zc5 e9; (try clear x9); have x9 := c17.lt; (try clear o6 o7); obtain ⟨c6, o6, o7⟩ := c6.zc2 e9; (try clear u4); have u4 := c6.lt; (try clear j6 j7); obtain ⟨c3, j6, j7⟩ := c3.zc2 e9; (try clear o8); have o8 := c3.lt; have c4 := c4.below e9 c4.lt; (try clear aH); have aH := c4.lt; have hc := Ja hc e9) | (go_at_call 108; (with_reducible refine (HDV.out _ (tT.next hc)).mono ?_); rintro e w2 ⟨rfl, bN⟩; (try clear p8 p9 q8 s9 t7); obtain ⟨c17, p8, p9, q8, s9, t7⟩ := c17.zc5 bN; (try clear x9); have x9 := c17.lt; (try clear o6 o7); obtain ⟨c6, o6, o7⟩ := c6.zc2 bN; (try clear u4); have u4 := c6.lt; (try clear j6 j7); obtain ⟨c3, j6, j7⟩ := c3.zc2 bN; (try clear o8); have o8 := c3.lt; have c4 := c4.below bN c4.lt; (try clear aH); have aH := c4.lt; have hc := Ja hc bN; obtain ⟨v0, v1, v2, v3, v4⟩ := c4.c5; have p7 := OwnW.next HR8.out hc; have z0 := OwnQ.frozen p7 (j * 5); have z1 := OwnQ.frozen p7 (j * 5 + 1); have z2 := OwnQ.frozen p7 (j * 5 + 2); have z3 := OwnQ.frozen p7 (j * 5 + 3); have z4 := OwnQ.frozen p7 (j * 5 + 4)))
        all_goals
         go_wp2
         have o1 := (HS5.out.after hc).store HW.out c3.c2.1 j s'
         rw [List.set_set, HNN.out] at o1
         have o2 := OwnQ.excm (OwnW.next HRW2.out hc) ((((((Exc.refl gr _).set_ (j * 5) (.bool (decide (s'.num < 0)))).set_ (j * 5 + 1) (.int .u64 (lo s'.num.natAbs : Int))).set_ (j * 5 + 2) (.string (mo s'.num.natAbs))).set_ (j * 5 + 3) (.int .u64 (lo (qden s') : Int))).set_ (j * 5 + 4) (.string (mo (qden s')))) (fun e => by have e1 := Yv e; have e2 := HL8.out.2; have e3 := HS5.out.h67; have e4 := HS5.out.h78; have e5 := HS5.out.h8L; omega)
         exact ⟨⟨j + 1, by omega, by go_num, o1, o2⟩, by simp [intOf]; omega⟩
      obtain rfl : j = m9 := by omega
      have k3 : ¬ (j : Int) < (j : Int) := by omega
      have aA : Xi j f x g = Kb j f x g := if_neg (by rw [hlx, HC.out]; exact HCZ.out)
      rw [Jkm, <- aA, Jkr] at o9
      have e8 : (Yh j f x n (g + 1))[g]? = some (Xi j f x g) := by unfold Yh; rw [Yn aQ, if_pos (by omega)]
      obtain ⟨A8, m8, cp8, bI, aB, -, -⟩ := OwnSA.at_ (Qm (T := 31) (by decide)) o9.rows e8
      have cP : (Xi j f x g).length = j := by rw [aA]; simp [Kb]
      obtain ⟨gr, rfl, bJ⟩ := OwnQ.addr' aB (by rw [cP]; omega)
      obtain rfl : m8 = j := by rw [bJ, cP]
      obtain ⟨l, bO⟩ : ∃ l, f[g]? = some l := ⟨_, List.getElem?_eq_getElem (by omega)⟩
      have eA : f.getD g [] = l := by rw [List.getD_eq_getElem?_getD, bO]; rfl
      have eB := H.out.hf.below Xh (o9.bel.mono H.out.hB)
      obtain ⟨adf, Af, mf, cpf, rfl, cQ, bV, cS⟩ := eB.at_ bO
      obtain rfl : mf = m8 := by rw [<- cS.len]; exact H.out.hlf l (List.mem_of_getElem? bO)
      obtain ⟨gf, of, eX, -⟩ := Xy bV
      rw [eX] at bV
      have b5 := At1.mk' bV
      have b3 := At1.mk' bI
      have b6 := At1.mk' o9.next.c1
      have b0 := At1.mk' o9.model.c1
      have cT : B <= wr.heap.size := nt H.out.hB o9.bel.size
      have eC : ∀ y ∈ Xi mf f x g, QS 549755813888 y := by
       rw [aA]
       intro y hy
       obtain ⟨c, -, rfl⟩ := List.mem_map.1 hy
       refine (Jmp (Jah H.out.hm H.out.hsx g c x.length) (nt (Jai f x g _) (by omega))).mono ?_
       have h1 := H.out.hm2
       have h4 := Nat.mul_le_mul (show x.length <= 300 by omega) (show m + 1 <= 1000001 by omega)
       omega
      have eD : ∀ y ∈ l, QS 549755813888 y := fun y hy => (H.out.hsf l (List.mem_of_getElem? bO) y hy).mono (by have := H.out.hm2; omega)
      have hsm := fun w' (hb : Below wr.heap.size wr w') => Jjh (some ⟨gr, 0, none⟩) Af mf cp8 cpf wr.heap.size B (Xi mf f x g) l w' ((OwnQ.reads_ aB).below hb) (cS.below (hb.mono cT)) hb.size (nt cT hb.size) (by omega) eC eD
      have bP : Xc mf f x (g + 1) = if Xi mf f x g = l then Xc mf f x g else Xc mf f x g + 1 := by rw [<- eA]; rfl
      generalize Xc mf f x g = M at *
      have HS4 := lh o9
      have HMV := lh bP
      have HSM := lh hsm
      clear o9 hsm bP eC eD e8 aB cP bJ bO eA eB cQ bV cS bI cT aA
      cases y8 : decide (Xi mf f x g = l) with
      | true =>
       rw [y8] at HSM
       rw [if_pos (of_decide_eq_true y8)] at HMV
       go_upto_region 26 with fail
       obtain ⟨bL, bM⟩ := b6.c2; have c6 := b6.drew; have u4 := c6.lt; obtain ⟨aF, aG⟩ := b3.c2; have c3 := b3.drew; have o8 := c3.lt; obtain ⟨cU, cV⟩ := b0.c2; have c0 := b0.drew; have bQ := c0.lt; obtain ⟨cW, cZ⟩ := b5.c2; have c5 := b5.drew; have bR := c5.lt; have hc := Ji wr; go_region_held3 (fun w' => w'.cell? ⟨g6, 0, none⟩ = some (.slice (some ⟨gd, 0, none⟩) n n) /\ w'.cell? ⟨gd, g, none⟩ = some (.slice (some ⟨gr, 0, none⟩) mf cp8) /\ w'.cell? ⟨w.heap.size, 0, none⟩ = some (.slice (some adf) n c) /\ w'.cell? ⟨gf, of, none⟩ = some (.slice Af mf cpf)) (go_keep) (first | (go_at_call 48; (with_reducible refine (HSM.out _ hc).mono ?_); rintro e w1 ⟨rfl, e9⟩; (try clear o6 o7); obtain ⟨c6, o6, o7⟩ := c6.zc2 e9; (try clear u4); have u4 := c6.lt; (try clear j6 j7); obtain ⟨c3, j6, j7⟩ := c3.zc2 e9; (try clear o8); have o8 := c3.lt; (try clear aJ aK); obtain ⟨c0, aJ, aK⟩ := c0.zc2 e9; (try clear bQ); have bQ := c0.lt; (try clear aL aM); obtain ⟨c5, aL, aM⟩ := c5.zc2 e9; (try clear bR); have bR := c5.lt; have hc := Ja hc e9))
       all_goals
        go_wp2
        exact ⟨⟨g + 1, by omega, by rw [HMV.out], by go_num, HS4.out.after hc⟩, by simp [intOf]; omega⟩
      | false =>
       rw [y8] at HSM
       rw [if_neg (of_decide_eq_false y8)] at HMV
       obtain ⟨M2, eY⟩ : ∃ M2, M + 1 = M2 := ⟨_, rfl⟩
       have e1 : (M : Int) + 1 = (M2 : Int) := by omega
       have e2 : IntKind.i64.wrap (M2 : Int) = (M2 : Int) := IntWalk.i64_in _ (by omega)
       rw [eY] at HMV
       go_upto_region 26 with fail
       obtain ⟨bL, bM⟩ := b6.c2; have c6 := b6.drew; have u4 := c6.lt; obtain ⟨aF, aG⟩ := b3.c2; have c3 := b3.drew; have o8 := c3.lt; obtain ⟨cU, cV⟩ := b0.c2; have c0 := b0.drew; have bQ := c0.lt; obtain ⟨cW, cZ⟩ := b5.c2; have c5 := b5.drew; have bR := c5.lt; have hc := Ji wr; go_region_held3 (fun w' => w'.cell? ⟨g6, 0, none⟩ = some (.slice (some ⟨gd, 0, none⟩) n n) /\ w'.cell? ⟨gd, g, none⟩ = some (.slice (some ⟨gr, 0, none⟩) mf cp8) /\ w'.cell? ⟨w.heap.size, 0, none⟩ = some (.slice (some adf) n c) /\ w'.cell? ⟨gf, of, none⟩ = some (.slice Af mf cpf)) (go_keep) (first | (go_at_call 48; (with_reducible refine (HSM.out _ hc).mono ?_); rintro e w1 ⟨rfl, e9⟩; (try clear o6 o7); obtain ⟨c6, o6, o7⟩ := c6.zc2 e9; (try clear u4); have u4 := c6.lt; (try clear j6 j7); obtain ⟨c3, j6, j7⟩ := c3.zc2 e9; (try clear o8); have o8 := c3.lt; (try clear aJ aK); obtain ⟨c0, aJ, aK⟩ := c0.zc2 e9; (try clear bQ); have bQ := c0.lt; (try clear aL aM); obtain ⟨c5, aL, aM⟩ := c5.zc2 e9; (try clear bR); have bR := c5.lt; have hc := Ja hc e9))
       all_goals
        go_wp2
        exact ⟨⟨g + 1, by omega, by rw [HMV.out], by go_num, HS4.out.after hc⟩, by simp [intOf]; omega⟩
    obtain rfl : g = n := by omega
    have k2 : ¬ (g : Int) < (g : Int) := by omega
    rw [Ji8 hlf] at j0
    have eE : Xc wd f x g = Zq wd f x := by unfold Zq; rw [hlf]
    rw [eE]
    generalize hmv2 : Zq wd f x = mv at *
    have HM := lh hmv2
    have x6 := j0.next.c1
    have HS3 := lh j0
    obtain ⟨f0, f1, f2⟩ := j0.res.f1
    clear j0 eE hmv2
    go_wp2
    refine bodyPost_ret (v := .tuple #[.agg #[.slice (some ⟨gd, 0, none⟩) g g], .int .i64 (mv : Int)]) (by simp [results, Tryz.results60, go_sem, f2]) rfl ?_
    have h0 := HS3.out
    have hx : Exc (w.heap.size + 1) wq (wq.setCell ⟨w.heap.size + 1, 0, none⟩ (.slice (some ⟨gd, 0, none⟩) g g)) := (Exc.refl _ _).set_ _ _
    have h1 := h0.hW
    have h2 := h0.hd
    have h3 := h0.hd6
    have h4 := h0.next.lt
    refine ⟨gd, by rw [HM.out], by omega, ?_, h0.bel.setCell (show w.heap.size <= w.heap.size + 1 by omega) _⟩
    unfold Jc6
    refine OwnSA.low ?_ (show w.heap.size <= W.heap.size by omega)
    exact (OwnSA.excQ (by decide) h0.rows hx (.inl (by omega)) (by omega)).more (by simp; omega)
