import Derived.Test.YtcoloflmigcphaaGreatDoorBayesG
namespace Go.Proofs.YtcoloflmigcphaaGreatDoor
set_option maxRecDepth 100000
set_option maxHeartbeats 8000000
open Go.RowKit
set_option linter.all false
theorem Own.putB {w : World} {e : TypeId} {g n c : Nat} {l : List Int} (h : Own w e zv (.slice (some ⟨g, 0, none⟩) n c) l) (k : Nat) (y : Int) : Own (w.setCell ⟨g, k, none⟩ (.int .i64 y)) e zv (.slice (some ⟨g, 0, none⟩) n c) (l.set k y) := (NRow.store (NRow.of h) k y).1
theorem Own.frozB {w : World} {e : TypeId} {g n c : Nat} {l : List Int} (h : Own w e zv (.slice (some ⟨g, 0, none⟩) n c) l) (j : Nat) : w.frozen? ⟨g, j, none⟩ = false := (NRow.of h).frozen j
theorem Own.cellB {w : World} {e : TypeId} {g n c k : Nat} {l : List Int} {y : Int} (h : Own w e zv (.slice (some ⟨g, 0, none⟩) n c) l) (hy : l[k]? = some y) : w.cell? ⟨g, k, none⟩ = some (.int .i64 y) := (NRow.of h).cell hy
theorem Jbc {P : Program} {T e : TypeId} (ht : P.underlying T = some (.slice e)) (hi : (P.info? e).map (fun i => (i.zero, i.size, i.bytes)) = some (some (.int .i64 0), 1, 8)) (n : Nat) (hn : n <= 1000) (w : World) :
  (Instr.makeSlice T (.int .i64 (n : Int)) (.int .i64 (n : Int))).run P w = .ok (.slice (some ⟨w.heap.size, 0, none⟩) n n) (w.alloc (.cells ((List.replicate n (0 : Int)).map zv).toArray e)) :=
 Qh zv 0 T e 8 ht hi rfl .i64 .i64 n (by omega) (by omega) w
theorem Jis (K : Nat) (hK : ∀ (args : Array Value) (w : World), (callFunc K args).run Tryz.prog w = .ok (.enter K args) w) (f : Int -> Int -> Int) (p : Int -> Prop) (hf : ∀ (x y : Int) (w : World), p x -> p y -> Calls Tryz.prog K #[.int .i64 x, .int .i64 y] w (Ret (.int .i64 (f x y)) w)) (A A' : Option Addr) (n c c' B gf : Nat) (xs ys : List Int) (w : World) (h : ReadsI w B A n xs) (h' : ReadsI w B A' n ys) (hB : B <= w.heap.size) (hn : n <= 1000)
  (hx : ∀ x ∈ xs, p x) (hy : ∀ x ∈ ys, p x) (hg : At1 w gf 0 (.func (.func K) #[] #[])) :
  Calls Tryz.prog 112 #[.slice A n c, .slice A' n c', .pointer (some ⟨gf, 0, none⟩)] w fun e w' => ∃ g, e = .returned (.slice (some ⟨g, 0, none⟩) n n) /\ w.heap.size <= g /\ Own w' 3 zv (.slice (some ⟨g, 0, none⟩) n n) (List.zipWith f xs ys) /\ Below w.heap.size w w' := by
 have iB : xs.length = n := h.len
 have iC : ys.length = n := h'.len
 obtain ⟨zs, hz⟩ : ∃ zs, List.zipWith f xs ys = zs := ⟨_, rfl⟩
 rw [hz]
 have bM : zs.length = n := by rw [<- hz, List.length_zipWith]; omega
 have HZ : Hid (∀ (k : Nat) (x y : Int), xs[k]? = some x -> ys[k]? = some y -> zs[k]? = some (f x y)) := lh fun k x y h1 h2 => by
  rw [<- hz, List.getElem?_zipWith, h1, h2]
 have H := lh h
 have H' := lh h'
 have HX := lh hx
 have HY := lh hy
 have HF := lh hf
 have s9 := Jbc (P := Tryz.prog) (Tryz.eltZ1).under (Tryz.eltZ1).info n hn w
 have j7 := Own.lit w 3 zv (List.replicate n (0 : Int)) (by rw [List.length_replicate]; unfold maxLen; omega)
 have bN := Jb w (.cells ((List.replicate n (0 : Int)).map zv).toArray 3)
 have iY := hg.alloc (.cells ((List.replicate n (0 : Int)).map zv).toArray 3)
 rw [List.length_replicate] at j7
 rw [show List.replicate n (0 : Int) = Jm zs 0 0 by rw [Zk, bM]] at j7 s9 bN iY
 generalize w.alloc (.cells ((Jm zs 0 0).map zv).toArray 3) = W at *
 obtain ⟨g, dL⟩ : ∃ g, w.heap.size = g := ⟨_, rfl⟩
 have aA : w.heap.size <= g := by omega
 have iD : gf < g := by have := hg.lt; omega
 rw [dL] at s9 j7
 have HI := lh (And.intro j7 (And.intro iY bN))
 clear h h' hx hy hf hz j7 bN iY dL hg
 go_enter Tryz.func112, Tryz.ntmps112
 go_wp2_with fail
 clear s9
 go_loopw [13] (fun p wr => ∃ k : Nat, k <= n /\ p = .int .i64 (k : Int) /\ Own wr 3 zv (.slice (some ⟨g, 0, none⟩) n n) (Jm zs 0 k) /\ At1 wr gf 0 (.func (.func K) #[] #[]) /\ Below w.heap.size w wr) (fun p _ => n - (intOf p).toNat)
 case atStart => exact ⟨0, by omega, rfl, HI.out⟩
 case round =>
  obtain ⟨k, hk, rfl, ho, b0, aS⟩ := hrel
  rename World => wr
  clear HI
  by_cases bO : k < n
  ·have k1 : (k : Int) < (n : Int) := by omega
   obtain ⟨ad, g1, o1, x, rfl, bP, iX, hx, b1w⟩ := H.out.spot bO
   obtain ⟨ad2, g2, o2, y, rfl, iE, bQ, hy, b2w⟩ := H'.out.spot bO
   have b1 := b1w.below (aS.mono hB) iX
   have b2 := b2w.below (aS.mono hB) bQ
   have dM := Zw (HZ.out k x y hx hy) 0
   have HFC := lh (fun w => HF.out x y w (HX.out x (List.mem_of_getElem? hx)) (HY.out y (List.mem_of_getElem? hy)))
   have HNX := lh dM
   have HO := lh ho
   have HBW := lh aS
   have dN := Jej (l := zs) (k := k) (by omega) (0 : Int)
   have HAT := lh dN
   have ne1 : ¬ gf = g := by omega
   have ne2 : ¬ g = gf := by omega
   have ne3 : ¬ g1 = g := by omega
   have ne4 : ¬ g = g1 := by omega
   have ne5 : ¬ g2 = g := by omega
   have ne6 : ¬ g = g2 := by omega
   clear dM ho aS hx hy b1w b2w dN
   go_upto_region 5 with fail
   obtain ⟨aB, aC⟩ := b0.c2; have c0 := b0.drew; have bR := c0.lt; obtain ⟨aT, aU⟩ := b1.c2; have c1 := b1.drew; have o0 := c1.lt; obtain ⟨eJ, eK⟩ := b2.c2; have c2 := b2.drew; have o9 := c2.lt; have hc := Jt wr; go_region_held3 (fun w' => w'.cell? ⟨gf, 0, none⟩ = some (.func (.func K) #[] #[]) /\ w'.cell? ⟨g1, o1, none⟩ = some (.int .i64 x) /\ w'.cell? ⟨g2, o2, none⟩ = some (.int .i64 y)) (go_keep) (first | ((with_reducible refine (HFC.out _).mono ?_); rintro e w1 ⟨rfl, j6⟩; (try clear j8 j9); obtain ⟨c0, j8, j9⟩ := c0.zc2 j6; (try clear bR); have bR := c0.lt; (try clear iV iW); obtain ⟨c1, iV, iW⟩ := c1.zc2 j6; (try clear o0); have o0 := c1.lt; (try clear bS bT); obtain ⟨c2, bS, bT⟩ := c2.zc2 j6; (try clear o9); have o9 := c2.lt; have hc := Ja hc j6; have j7 := HO.out.below hc HO.out.lt; have iF := j7.frozB k; have iG := j7.cellB HAT.out; have HO1 := lh j7; clear j7))
   all_goals
    go_wp2
    exact ⟨⟨k + 1, by omega, by go_num, by rw [<- HNX.out]; exact HO1.out.putB k _, At1.mk' ((World.cell?_setCell_other _ _ _ _ (by simp [ne1, ne2])).trans c0.c2.1), (HBW.out.trans (hc.mono HBW.out.size)).setCell aA _⟩, by simp [intOf]; omega⟩
  obtain rfl : k = n := by omega
  have k1 : ¬ (k : Int) < (k : Int) := by omega
  rw [<- bM, Zl] at ho
  have HO := lh ho
  have HBW := lh aS
  clear ho aS b0
  go_wp2
  go_ret
  exact ⟨g, rfl, aA, by have := HO.out; rw [bM] at this; exact this, HBW.out⟩
structure MgI (W : World) (q : Rat) (n1 n2 n3 : Nat) (AW : Option Addr) (cW gS g8 gC : Nat) (F G : Nat -> Prop) (ws ss : List Int) (cs : List (List (List Int))) (wr : World) : Prop where
 box : Blk wr g8 43 #[.bool (decide (q.num < 0)), .int .u64 (lo q.num.natAbs : Int), .string (mo q.num.natAbs), .int .u64 (lo ((qden q)) : Int), .string (mo ((qden q))), .slice AW n1 cW, .slice (some ⟨gS, 0, none⟩) n2 n2, .slice (some ⟨gC, 0, none⟩) n3 n3]
 own : ∃ H, OwB 3 22 65 W.heap.size wr ⟨AW, n1, cW⟩ ⟨some ⟨gS, 0, none⟩, n2, n2⟩ ⟨some ⟨gC, 0, none⟩, n3, n3⟩ F G H ⟨q, ws, ss, cs⟩ /\ ¬ H g8
 n8 : W.heap.size <= g8
 bel : Below W.heap.size W wr
section
variable {W wr w' : World} {q : Rat} {n1 n2 n3 cW gS g8 gC : Nat} {AW : Option Addr} {F G : Nat -> Prop} {ws ss : List Int} {cs : List (List (List Int))}
theorem MgI.next (h : MgI W q n1 n2 n3 AW cW gS g8 gC F G ws ss cs wr) (hb : Below wr.heap.size wr w') : MgI W q n1 n2 n3 AW cW gS g8 gC F G ws ss cs w' := by
 obtain ⟨H, ho, hn⟩ := h.own
 exact ⟨h.box.below hb h.box.lt, ⟨H, ho.next hb, hn⟩, h.n8, h.bel.trans (hb.mono h.bel.size)⟩
theorem MgI.tab (h : MgI W q n1 n2 n3 AW cW gS g8 gC F G ws ss cs wr) {k : Nat} (hk : k < cs.length) : gC ≠ g8 /\ wr.frozen? ⟨gC, k, none⟩ = false /\ (∃ A n c, wr.cell? ⟨gC, k, none⟩ = some (.slice A n c)) /\ W.heap.size <= gC := by
 obtain ⟨H, ho, hn⟩ := h.own
 obtain ⟨h1, h2⟩ := ho.tab hk
 exact ⟨fun e => hn (by rw [<- e]; exact ho.tabs), h1, h2, ho.from3 gC ho.tabs⟩
theorem MgI.putTab (h : MgI W q n1 n2 n3 AW cW gS g8 gC F G ws ss cs wr) (hb : Below wr.heap.size wr w') {k n' c' : Nat} {A : Option Addr} {t : List (List Int)} {S' : Nat -> Prop} (bU : Nest 22 (NRow 3 zv) w' S' (.slice A n' c') t) (iZ : ∀ x, S' x -> wr.heap.size <= x) : MgI W q n1 n2 n3 AW cW gS g8 gC F G ws ss (cs.set k t) (w'.setCell ⟨gC, k, none⟩ (.slice A n' c')) := by
 obtain ⟨H, ho, hn⟩ := h.own
 obtain ⟨H', h1, h2, h3⟩ := ho.putTab (i := k) hb bU iZ h.bel.size ho.tabs
 have bV := h.box.below hb h.box.lt
 have p9 : g8 ≠ gC := fun e => hn (by rw [e]; exact ho.tabs)
 exact ⟨bV.far (p := ⟨gC, k, none⟩) p9 _, ⟨H', h1, fun e => by
  rcases h3 g8 e with h4 | h4
  ·exact hn h4
  have := h.box.lt
  omega⟩, h.n8, (h.bel.trans (hb.mono h.bel.size)).setCell (p := ⟨gC, k, none⟩) (ho.from3 gC ho.tabs) _⟩
theorem MgI.putCol (h : MgI W q n1 n2 n3 AW cW gS g8 gC F G ws ss cs wr) (hb : Below wr.heap.size wr w') {k i u m1 k1 n' c' : Nat} {A : Option Addr} {t : List (List Int)} {b : List Int} {S' : Nat -> Prop} (ht : cs[k]? = some t) (hc : w'.cell? ⟨gC, k, none⟩ = some (.slice (some ⟨u, 0, none⟩) m1 k1)) (bU : NRow 3 zv w' S' (.slice A n' c') b) (iZ : ∀ x, S' x -> wr.heap.size <= x) :
  MgI W q n1 n2 n3 AW cW gS g8 gC F G ws ss (cs.set k (t.set i b)) (w'.setCell ⟨u, i, none⟩ (.slice A n' c')) /\ (w'.setCell ⟨u, i, none⟩ (.slice A n' c')).cell? ⟨gC, k, none⟩ = some (.slice (some ⟨u, 0, none⟩) m1 k1) := by
 obtain ⟨H, ho, hn⟩ := h.own
 obtain ⟨H', h1, h3, eL, hu⟩ := ho.putCol (l := i) hb ht hc bU iZ h.bel.size
 have bV := h.box.below hb h.box.lt
 have p9 : g8 ≠ u := fun e => hn (by rw [e]; exact hu)
 exact ⟨⟨bV.far (p := ⟨u, i, none⟩) p9 _, ⟨H', h1, fun e => by
  rcases h3 g8 e with h4 | h4
  ·exact hn h4
  have := h.box.lt
  omega⟩, h.n8, (h.bel.trans (hb.mono h.bel.size)).setCell (p := ⟨u, i, none⟩) (ho.from3 u hu) _⟩, (World.cell?_setCell_other _ _ _ _ (fun e => eL (congrArg Addr.block e))).trans hc⟩
theorem MgI.who (h : MgI W q n1 n2 n3 AW cW gS g8 gC F G ws ss cs wr) {k u m1 k1 : Nat} {t : List (List Int)} (ht : cs[k]? = some t) (hc : wr.cell? ⟨gC, k, none⟩ = some (.slice (some ⟨u, 0, none⟩) m1 k1)) : u ≠ g8 /\ u ≠ gC /\ W.heap.size <= u := by
 obtain ⟨H, ho, hn⟩ := h.own
 obtain ⟨A', m', k', F', h1, h2, h3, h4, h5⟩ := ho.counts.at_ (Xt (Js _ zv) _) ht
 have e1 := Option.some.inj (h1.symm.trans hc)
 injection e1 with e1 e2 e3
 subst e1 e2 e3
 have hF : F' u := by
  obtain ⟨rl, F, q1, q2, q3, q4, q5, q6, q7⟩ := h2
  exact q6 u rfl
 exact ⟨fun e => hn (by rw [<- e]; exact (h3 u hF).1), (h3 u hF).2, ho.from3 u (h3 u hF).1⟩
theorem MgI.spot (h : MgI W q n1 n2 n3 AW cW gS g8 gC F G ws ss cs wr) {k i u m1 k1 : Nat} {t : List (List Int)} (ht : cs[k]? = some t) (hc : wr.cell? ⟨gC, k, none⟩ = some (.slice (some ⟨u, 0, none⟩) m1 k1)) (hi : i < t.length) : wr.frozen? ⟨u, i, none⟩ = false /\ ∃ A n c, wr.cell? ⟨u, i, none⟩ = some (.slice A n c) := by
 obtain ⟨H, ho, hn⟩ := h.own
 exact ho.spot ht hc hi
end
section
variable {W wr w' : World} {q : Rat} {n1 n2 n3 cW gS g8 gC : Nat} {AW : Option Addr} {F G : Nat -> Prop} {ws ss : List Int} {cs : List (List (List Int))}
theorem MgI.setCount (h : MgI W q n1 n2 n3 AW cW gS g8 gC F G ws ss cs wr) {i l u k1 x k2 m1 m2 : Nat} {t : List (List Int)} {b : List Int} (ht : cs[i]? = some t) (hb : t[l]? = some b) (eM : wr.cell? ⟨gC, i, none⟩ = some (.slice (some ⟨u, 0, none⟩) m1 k1)) (hc : wr.cell? ⟨u, l, none⟩ = some (.slice (some ⟨x, 0, none⟩) m2 k2)) (j : Nat) (y : Int) :
  MgI W q n1 n2 n3 AW cW gS g8 gC F G ws ss (cs.set i (t.set l (b.set j y))) (wr.setCell ⟨x, j, none⟩ (.int .i64 y)) := by
 obtain ⟨H, ho, hn⟩ := h.own
 obtain ⟨H', h1, h2, h3⟩ := ho.setCount ht hb eM hc j y
 exact ⟨h.box.far (p := ⟨x, j, none⟩) (fun e => hn (by rw [e]; exact h3)) _, ⟨H', h1, fun e => hn (h2 _ e)⟩, h.n8, h.bel.setCell (p := ⟨x, j, none⟩) (ho.from3 x h3) _⟩
theorem MgI.deep (h : MgI W q n1 n2 n3 AW cW gS g8 gC F G ws ss cs wr) {i l j : Nat} {t : List (List Int)} {b : List Int} {y : Int} (ht : cs[i]? = some t) (hb : t[l]? = some b) (hy : b[j]? = some y) :
  ∃ u k1 x k2, wr.cell? ⟨gC, i, none⟩ = some (.slice (some ⟨u, 0, none⟩) t.length k1) /\ wr.cell? ⟨u, l, none⟩ = some (.slice (some ⟨x, 0, none⟩) b.length k2) /\ wr.cell? ⟨x, j, none⟩ = some (.int .i64 y) /\ wr.frozen? ⟨x, j, none⟩ = false := by
 obtain ⟨H, ho, hn⟩ := h.own
 exact ho.deep ht hb hy
theorem MgI.setSeen (h : MgI W q n1 n2 n3 AW cW gS g8 gC F G ws ss cs wr) (k : Nat) (y : Int) : MgI W q n1 n2 n3 AW cW gS g8 gC F G ws (ss.set k y) cs (wr.setCell ⟨gS, k, none⟩ (.int .i64 y)) := by
 obtain ⟨H, ho, hn⟩ := h.own
 have hG : G gS := (ho.seen.2 gS).2 rfl
 refine ⟨h.box.far (p := ⟨gS, k, none⟩) (fun e => ?_) _, ⟨H, ho.setSeen k y, hn⟩, h.n8, h.bel.setCell (p := ⟨gS, k, none⟩) (ho.from2 gS hG) _⟩
 obtain ⟨cs', fr, h1⟩ := Own.blk ho.seen.1 (g := gS) rfl
 have hb := h.box
 unfold Blk at hb
 rw [show g8 = gS from e, h1] at hb
 injection hb with hb
 injection hb with _ hb _
 exact absurd hb (by decide)
theorem MgI.seen (h : MgI W q n1 n2 n3 AW cW gS g8 gC F G ws ss cs wr) {k : Nat} {y : Int} (hy : ss[k]? = some y) : wr.cell? ⟨gS, k, none⟩ = some (.int .i64 y) /\ wr.frozen? ⟨gS, k, none⟩ = false := by
 obtain ⟨H, ho, hn⟩ := h.own
 exact ⟨ho.seen.cell hy, ho.seen.frozen k⟩
theorem MgI.new {w1 : World} {m : BM} {H : Nat -> Prop} (ho : OwB 3 22 65 W.heap.size w1 ⟨AW, n1, cW⟩ ⟨some ⟨gS, 0, none⟩, n2, n2⟩ ⟨some ⟨gC, 0, none⟩, n3, n3⟩ F G H m) (hb : Below W.heap.size W w1) :
  MgI W m.smooth n1 n2 n3 AW cW gS w1.heap.size gC F G m.words m.seen m.counts (w1.alloc (.cells #[.bool (decide (m.smooth.num < 0)), .int .u64 (lo m.smooth.num.natAbs : Int), .string (mo m.smooth.num.natAbs), .int .u64 (lo ((qden m.smooth)) : Int), .string (mo ((qden m.smooth))), .slice AW n1 cW, .slice (some ⟨gS, 0, none⟩) n2 n2, .slice (some ⟨gC, 0, none⟩) n3 n3] 43)) := by
 obtain ⟨o1, o2, o3⟩ := ho.old
 exact ⟨Blk.new _ _ _, ⟨H, ho.next (Jb w1 _), fun e => by have := o3 _ e; omega⟩, hb.size, Ja hb (Jb w1 _)⟩
end
theorem MgI.start {W wc : World} {q : Rat} {n1 n2 n3 cW gS g8 : Nat} {AW : Option Addr} {ws ss : List Int} (aD : W.heap.size <= g8) (hb : Blk wc g8 43 #[.bool (decide (q.num < 0)), .int .u64 (lo q.num.natAbs : Int), .string (mo q.num.natAbs), .int .u64 (lo ((qden q)) : Int), .string (mo ((qden q))), .slice AW n1 cW, .slice (some ⟨gS, 0, none⟩) n2 n2, .slice none 0 0]) (hW : Own wc 3 zv (.slice AW n1 cW) ws) (hf : ∀ b, (Value.slice AW n1 cW).ownBlock = some b -> W.heap.size <= b /\ b ≠ gS) (hS : Own wc 3 zv (.slice (some ⟨gS, 0, none⟩) n2 n2) ss) (aV : W.heap.size <= gS) (hc : Below W.heap.size W wc) (hn : n3 <= 1000) :
  MgI W q n1 n2 n3 AW cW gS g8 wc.heap.size (fun k => (Value.slice AW n1 cW).ownBlock = some k) (fun k => (Value.slice (some ⟨gS, 0, none⟩) n2 n2).ownBlock = some k) ws ss (List.replicate n3 []) ((wc.alloc (.cells ((List.replicate n3 (⟨none, 0, 0⟩ : SW)).map SW.v).toArray 65)).setCell ⟨g8, 7, none⟩ (.slice (some ⟨wc.heap.size, 0, none⟩) n3 n3)) := by
 have p9 : ∀ {v : Value} {l : List Int}, Own wc 3 zv v l -> v.ownBlock ≠ some g8 := fun h e => by
  obtain ⟨cs, fr, h1⟩ := Own.blk h e
  unfold Blk at hb
  rw [hb] at h1
  injection h1 with h1
  injection h1 with _ h1 _
  exact absurd h1 (by decide)
 have eN := Ja9 (P := Nest 22 (NRow 3 zv)) (e := ([] : List (List Int))) (fun w => Nest.nil _ _ _) 65 n3 wc (by unfold maxLen; omega)
 have h1 : OwB 3 22 65 W.heap.size (wc.alloc (.cells ((List.replicate n3 (⟨none, 0, 0⟩ : SW)).map SW.v).toArray 65)) ⟨AW, n1, cW⟩ ⟨some ⟨gS, 0, none⟩, n2, n2⟩ ⟨some ⟨wc.heap.size, 0, none⟩, n3, n3⟩ (fun k => (Value.slice AW n1 cW).ownBlock = some k) (fun k => (Value.slice (some ⟨gS, 0, none⟩) n2 n2).ownBlock = some k) (fun k => k = wc.heap.size) ⟨q, ws, ss, List.replicate n3 []⟩ := by
  refine ⟨NRow.of (Own.alloc hW _), NRow.of (Own.alloc hS _), eN, fun k hk => (hf k hk).1, fun k hk => ?_, fun k hk => by rw [hk]; exact hc.size, fun k hk bW => ?_, fun k hk bW => ?_, fun k hk bW => ?_⟩
  ·have e : gS = k := by simpa [Value.ownBlock] using hk
   omega
  ·have e : gS = k := by simpa [Value.ownBlock] using bW
   exact (hf k hk).2 e.symm
  ·have := hW.lt k hk
   omega
  have := hS.lt k hk
  omega
 have l8 := hb.lt
 refine ⟨?_, ⟨_, h1.exc ((Exc.refl g8 _).set_ 7 (.slice (some ⟨wc.heap.size, 0, none⟩) n3 n3)) (fun e => p9 hW e) (fun e => p9 hS e) (fun e => by omega), fun e => by omega⟩, aD, (Ja hc (Jb _ _)).setCell (p := ⟨g8, 7, none⟩) aD _⟩
 have := (hb.alloc (.cells ((List.replicate n3 (⟨none, 0, 0⟩ : SW)).map SW.v).toArray 65)).set_ 7 (.slice (some ⟨wc.heap.size, 0, none⟩) n3 n3)
 simpa using this
def ModB (L n1 n2 n3 : Nat) (m : BM) (v : Value) (w : World) : Prop :=
 ∃ (AW : Option Addr) (cW gS gC : Nat) (F G H : Nat -> Prop), v = .agg #[.bool (decide (m.smooth.num < 0)), .int .u64 (lo m.smooth.num.natAbs : Int), .string (mo m.smooth.num.natAbs), .int .u64 (lo ((qden m.smooth)) : Int), .string (mo ((qden m.smooth))), .slice AW n1 cW, .slice (some ⟨gS, 0, none⟩) n2 n2, .slice (some ⟨gC, 0, none⟩) n3 n3] /\ OwB 3 22 65 L w ⟨AW, n1, cW⟩ ⟨some ⟨gS, 0, none⟩, n2, n2⟩ ⟨some ⟨gC, 0, none⟩, n3, n3⟩ F G H m
structure LikeB (p : Int -> Prop) (a b : BM) : Prop where
 words : 1 <= a.words.length
 seen : a.seen.length = b.seen.length
 counts : a.counts.length = b.counts.length
 rows : ∀ (i : Nat) (t t' : List (List Int)), a.counts[i]? = some t -> b.counts[i]? = some t' -> t.length = t'.length /\ ∀ (j : Nat) (x x' : List Int), t[j]? = some x -> t'[j]? = some x' -> x.length = x'.length
 okA : (∀ x ∈ a.seen, p x) /\ ∀ t ∈ a.counts, ∀ col ∈ t, ∀ x ∈ col, p x
 okB : (∀ x ∈ b.seen, p x) /\ ∀ t ∈ b.counts, ∀ col ∈ t, ∀ x ∈ col, p x
theorem Jjq (w : World) : Own (w.alloc (.cells #[] 3)) 3 zv (.slice (some ⟨w.heap.size, 0, none⟩) 0 0) [] := by
 have h := World.ownsRow_made (base := 0) (size := 1) (e := 3) w #[] 0 (Nat.zero_le _) (Nat.zero_le _) rfl
 exact h
theorem Ji7 (A : Option Addr) (n c B : Nat) (l : List Int) (w : World) (h : ReadsI w B A n l) (hB : B <= w.heap.size) (hn : n <= 1000) (h1 : 1 <= n) :
  Calls Tryz.prog 50 #[.slice A n c] w fun e w' => ∃ v, e = .returned v /\ (∃ A c, v = .slice A n c) /\ (Own w' 3 zv v l /\ ∀ b, v.ownBlock = some b -> w.heap.size <= b) /\ Below w.heap.size w w' := by
 have eO : l.length = n := h.len
 obtain ⟨ad, g1, o1, x, rfl, bP, iX, hx, b1⟩ := h.spot (k := 0) (by omega)
 rw [Addr.add_zero'] at bP
 subst bP
 have H := lh (Reads.alloc h hB (.cells #[] 3))
 have HE := lh (Jjq w)
 have q22 : ∀ (w : World) (a : Option Addr) (n c n' c' : Nat), (binOp .eql 22 (.slice a n c) (.slice none n' c')).run Tryz.prog w = .ok (.bool a.isNone) w := fun w a n c n' c' => Lib.run_eql_slice_nil w _ _ a n c n' c' (Tryz.eltZ1).under
 clear h hx b1
 go_enter Tryz.func50, Tryz.ntmps50
 go_wp2_with (at_builtin; refine Jnx Tryz.eltZ1 rfl (.tmp 5) (.tmp 6) rfl (w.alloc (.cells #[] 3)) _ [] B (some ⟨g1, o1, none⟩) n c l rfl HE.out rfl H.out (fun _ => rfl) (by unfold maxLen; simp; omega) (by simp; omega) ?_; intro v' w1 j7 iY; have j7 := lh j7; have iY := lh iY)
 go_returns
 obtain ⟨A', c', hv, -⟩ := Own.form j7.out
 simp [eO] at hv
 subst hv
 refine ⟨_, rfl, ⟨A', c', rfl⟩, ⟨by simpa using j7.out, fun b hb => ?_⟩, ?_⟩
 ·rcases iY.out.own b hb with h1 | h1
  ·have e : w.heap.size = b := Option.some.inj h1
   omega
  rw [World.size_alloc] at h1
  omega
 exact (Jb w _).trans (iY.out.below (by simp) (fun k hk => by have e : w.heap.size = k := Option.some.inj hk; omega))
abbrev set8m (w : World) (g : Nat) (a b c d e x y z : Value) : World := (((((((w.setCell ⟨g, 0, none⟩ a).setCell ⟨g, 1, none⟩ b).setCell ⟨g, 2, none⟩ c).setCell ⟨g, 3, none⟩ d).setCell ⟨g, 4, none⟩ e).setCell ⟨g, 5, none⟩ x).setCell ⟨g, 6, none⟩ y).setCell ⟨g, 7, none⟩ z
section
variable {w : World} {g : Nat} {a b c d e x y z : Value}
theorem Jnr : Exc g w (set8m w g a b c d e x y z) := ((((((((Exc.refl g w).set_ _ _).set_ _ _).set_ _ _).set_ _ _).set_ _ _).set_ _ _).set_ _ _).set_ _ _
theorem Jnc : (set8m w g a b c d e x y z).heap.size = w.heap.size := by simp [set8m]
theorem Blk.set8m {T : TypeId} {a' b' c' d' e' x' y' z' : Value} (h : Blk w g T #[a', b', c', d', e', x', y', z']) : Blk (Go.Proofs.YtcoloflmigcphaaGreatDoor.set8m w g a b c d e x y z) g T #[a, b, c, d, e, x, y, z] := by
 have := (((((((h.set_ 0 a).set_ 1 b).set_ 2 c).set_ 3 d).set_ 4 e).set_ 5 x).set_ 6 y).set_ 7 z
 show Blk ((((((((w.setCell _ _).setCell _ _).setCell _ _).setCell _ _).setCell _ _).setCell _ _).setCell _ _).setCell _ _) g T _
 simpa using this
theorem Own.exB {e : TypeId} {v : Value} {l : List Int} {w w' : World} {g : Nat} (h : Own w e zv v l) (hx : Exc g w w') (p9 : v.ownBlock ≠ some g) : Own w' e zv v l := Own.loc h fun k hk => hx.block k (h.lt k hk) fun e => p9 (by rw [<- e]; exact hk)
theorem Ji9 {B : Nat} {w0 : World} (h : Below B w0 w) (hg : B <= g) : Below B w0 (Go.Proofs.YtcoloflmigcphaaGreatDoor.set8m w g a b c d e x y z) := (((((((h.setCell hg _).setCell hg _).setCell hg _).setCell hg _).setCell hg _).setCell hg _).setCell hg _).setCell hg _
end
def Jc9 (n1 n2 : Nat) (q : Rat) (ws ss : List Int) (W : World) (v : Value) (wc : World) : Prop :=
 ∃ (g8 : Nat) (AW : Option Addr) (cW gS : Nat), v = .pointer (some ⟨g8, 0, none⟩) /\ W.heap.size <= g8 /\ Blk wc g8 43 #[.bool (decide (q.num < 0)), .int .u64 (lo q.num.natAbs : Int), .string (mo q.num.natAbs), .int .u64 (lo ((qden q)) : Int), .string (mo ((qden q))), .slice AW n1 cW, .slice (some ⟨gS, 0, none⟩) n2 n2, .slice none 0 0] /\ Own wc 3 zv (.slice AW n1 cW) ws /\ (∀ b, (Value.slice AW n1 cW).ownBlock = some b -> W.heap.size <= b /\ b ≠ gS) /\
  Own wc 3 zv (.slice (some ⟨gS, 0, none⟩) n2 n2) ss /\ W.heap.size <= gS /\ Below W.heap.size W wc
section
variable {n1 n2 cW gS g8 : Nat} {q : Rat} {ws ss : List Int} {W w2 : World} {AW : Option Addr}
theorem Jbd (hW : Own w2 3 zv (.slice AW n1 cW) ws) (hf : ∀ b, (Value.slice AW n1 cW).ownBlock = some b -> W.heap.size <= b /\ b ≠ gS) (hS : Own w2 3 zv (.slice (some ⟨gS, 0, none⟩) n2 n2) ss) (hg : W.heap.size <= gS) (hc : Below W.heap.size W w2) :
  Jc9 n1 n2 q ws ss W (.pointer (some ⟨w2.heap.size, 0, none⟩)) (w2.alloc (.cells #[.bool (decide (q.num < 0)), .int .u64 (lo q.num.natAbs : Int), .string (mo q.num.natAbs), .int .u64 (lo ((qden q)) : Int), .string (mo ((qden q))), .slice AW n1 cW, .slice (some ⟨gS, 0, none⟩) n2 n2, .slice none 0 0] 43)) :=
 ⟨_, AW, cW, gS, rfl, hc.size, Blk.new _ _ _, Own.alloc hW _, hf, Own.alloc hS _, hg, Ja hc (Jb _ _)⟩
theorem Jea {a' b' c' d' e' x' y' z' : Value} (ca : Blk w2 g8 43 #[a', b', c', d', e', x', y', z']) (aD : W.heap.size <= g8) (hW : Own w2 3 zv (.slice AW n1 cW) ws) (hf : ∀ b, (Value.slice AW n1 cW).ownBlock = some b -> W.heap.size <= b /\ b ≠ gS) (hS : Own w2 3 zv (.slice (some ⟨gS, 0, none⟩) n2 n2) ss) (hg : W.heap.size <= gS) (hc : Below W.heap.size W w2) :
  Jc9 n1 n2 q ws ss W (.pointer (some ⟨g8, 0, none⟩)) (set8m w2 g8 (.bool (decide (q.num < 0))) (.int .u64 (lo q.num.natAbs : Int)) (.string (mo q.num.natAbs)) (.int .u64 (lo (qden q) : Int)) (.string (mo (qden q))) (.slice AW n1 cW) (.slice (some ⟨gS, 0, none⟩) n2 n2) (.slice none 0 0)) := by
 have p9 : ∀ {v : Value} {l : List Int}, Own w2 3 zv v l -> v.ownBlock ≠ some g8 := fun h e => by
  obtain ⟨cs, fr, h1⟩ := Own.blk h e
  unfold Blk at ca
  rw [ca] at h1
  injection h1 with h1
  injection h1 with _ h1 _
  exact absurd h1 (by decide)
 exact ⟨g8, AW, cW, gS, rfl, aD, ca.set8m, hW.exB Jnr (p9 hW), hf, hS.exB Jnr (p9 hS), hg, Ji9 hc aD⟩
end
theorem Um (K : Nat) (hK : ∀ (args : Array Value) (w : World), (callFunc K args).run Tryz.prog w = .ok (.enter K args) w) (f : Int -> Int -> Int) (p : Int -> Prop) (hf : ∀ (x y : Int) (w : World), p x -> p y -> Calls Tryz.prog K #[.int .i64 x, .int .i64 y] w (Ret (.int .i64 (f x y)) w)) (X1 X2 X3 : Option Addr) (n1 s1 n2 s2 n3 s3 : Nat) (Y1 Y2 Y3 : Option Addr) (m1 t1 m2 t2 m3 t3 B : Nat) (a b : BM) (w : World)
  (h : RdB w B ⟨X1, n1, s1⟩ ⟨X2, n2, s2⟩ ⟨X3, n3, s3⟩ a) (h' : RdB w B ⟨Y1, m1, t1⟩ ⟨Y2, m2, t2⟩ ⟨Y3, m3, t3⟩ b) (hB : B <= w.heap.size) (hL : LenB a) (hk : LikeB p a b) :
  Calls Tryz.prog 70 #[.agg #[.bool (decide (a.smooth.num < 0)), .int .u64 (lo a.smooth.num.natAbs : Int), .string (mo a.smooth.num.natAbs), .int .u64 (lo ((qden a.smooth)) : Int), .string (mo ((qden a.smooth))), .slice X1 n1 s1, .slice X2 n2 s2, .slice X3 n3 s3], .agg #[.bool (decide (b.smooth.num < 0)), .int .u64 (lo b.smooth.num.natAbs : Int), .string (mo b.smooth.num.natAbs), .int .u64 (lo ((qden b.smooth)) : Int), .string (mo ((qden b.smooth))), .slice Y1 m1 t1, .slice Y2 m2 t2, .slice Y3 m3 t3], .func (.func K) #[] #[]] w fun e w' =>
   ∃ v, e = .returned v /\ ModB w.heap.size n1 n2 n3 (Jam f a b) v w' /\ Below w.heap.size w w' := by
 have j6 : a.words.length = n1 := h.words.len
 have jG : a.seen.length = n2 := h.seen.len
 have dO : a.counts.length = n3 := ReadsS.len h.counts
 have bX : b.seen.length = m2 := h'.seen.len
 have eP : b.counts.length = m3 := ReadsS.len h'.counts
 obtain rfl : n2 = m2 := by have := hk.seen; omega
 obtain rfl : n3 = m3 := by have := hk.counts; omega
 have eQ : n1 <= 1000 := by have := hL.words; omega
 have eR : n2 <= 1000 := by have := hL.seen; omega
 have dP : n3 <= 1000 := by have := hL.counts; omega
 have eS : 1 <= n1 := by have := hk.words; omega
 have iH : ∀ (fn : Fn) (first cap : Array Value) (w : World), (Instr.makeFunc fn first cap).run Tryz.prog w = .ok (.func fn first cap) w := fun _ _ _ _ => rfl
 obtain ⟨b0, b1, b2, b3, hB, hZ⟩ := bx4 w 43 #[.bool (decide (a.smooth.num < 0)), .int .u64 (lo a.smooth.num.natAbs : Int), .string (mo a.smooth.num.natAbs), .int .u64 (lo (qden a.smooth) : Int), .string (mo (qden a.smooth)), .slice X1 n1 s1, .slice X2 n2 s2, .slice X3 n3 s3] 43 #[.bool (decide (b.smooth.num < 0)), .int .u64 (lo b.smooth.num.natAbs : Int), .string (mo b.smooth.num.natAbs), .int .u64 (lo (qden b.smooth) : Int), .string (mo (qden b.smooth)), .slice Y1 m1 t1, .slice Y2 n2 t2, .slice Y3 n3 t3] 33 #[.func (.func K) #[] #[]] 43 #[.bool false, .int .u64 0, .string ⟨#[]⟩, .int .u64 0, .string ⟨#[]⟩, .slice none 0 0, .slice none 0 0, .slice none 0 0]
 go_enter Tryz.func70, Tryz.ntmps70
 go_upto_region 2 with fail
 generalize ((((w.alloc (.cells #[.bool (decide (a.smooth.num < 0)), .int .u64 (lo a.smooth.num.natAbs : Int), .string (mo a.smooth.num.natAbs), .int .u64 (lo (qden a.smooth) : Int), .string (mo (qden a.smooth)), .slice X1 n1 s1, .slice X2 n2 s2, .slice X3 n3 s3] 43)).alloc (.cells #[.bool (decide (b.smooth.num < 0)), .int .u64 (lo b.smooth.num.natAbs : Int), .string (mo b.smooth.num.natAbs), .int .u64 (lo (qden b.smooth) : Int), .string (mo (qden b.smooth)), .slice Y1 m1 t1, .slice Y2 n2 t2, .slice Y3 n3 t3] 43)).alloc (.cells #[.func (.func K) #[] #[]] 33)).alloc (.cells #[.bool false, .int .u64 0, .string ⟨#[]⟩, .int .u64 0, .string ⟨#[]⟩, .slice none 0 0, .slice none 0 0, .slice none 0 0] 43)) = W at *
 rename B <= w.heap.size => hBB
 have hM := hB.mono hBB
 have HCL : Hid (∀ w', Below W.heap.size W w' -> Calls Tryz.prog 50 #[.slice X1 n1 s1] w' fun e w'' => ∃ v, e = .returned v /\ (∃ A c, v = .slice A n1 c) /\ (Own w'' 3 zv v a.words /\ ∀ b, v.ownBlock = some b -> W.heap.size <= b) /\ Below w'.heap.size w' w'') := lh fun w' hb => by
  have jA := hB.trans (hb.mono hB.size)
  refine (Ji7 X1 n1 s1 B a.words w' (rkindI.below h.words (jA.mono hBB)) (nt hBB jA.size) eQ eS).mono ?_
  rintro e w2 ⟨v, rfl, hv, ⟨ho, iZ⟩, eT⟩
  exact ⟨v, rfl, hv, ⟨ho, fun b eU => nt hb.size (iZ b eU)⟩, eT⟩
 have HLI : Hid (∀ w' gf X Y x y xs ys n, Below W.heap.size W w' -> At1 w' gf 0 (.func (.func K) #[] #[]) -> ReadsI w B X n xs -> ReadsI w B Y n ys -> n <= 1000 -> (∀ x ∈ xs, p x) -> (∀ x ∈ ys, p x) -> Calls Tryz.prog 112 #[.slice X n x, .slice Y n y, .pointer (some ⟨gf, 0, none⟩)] w' fun e w'' => ∃ v, e = .returned v /\ (∃ A c, v = .slice A n c) /\ (∃ g, v = .slice (some ⟨g, 0, none⟩) n n /\ W.heap.size <= g /\ w'.heap.size <= g /\ Own w'' 3 zv v (List.zipWith f xs ys)) /\ Below w'.heap.size w' w'') := lh fun w' gf X Y x y xs ys n hb hg h1 h2 h3 h4 h5 => by
  have jA := hB.trans (hb.mono hB.size)
  refine (Jis K hK f p hf X Y n x y B gf xs ys w' (rkindI.below h1 (jA.mono hBB)) (rkindI.below h2 (jA.mono hBB)) (nt hBB jA.size) h3 h4 h5 hg).mono ?_
  rintro e w2 ⟨g, rfl, aA, ho, jA⟩
  exact ⟨_, rfl, ⟨_, _, rfl⟩, ⟨g, rfl, nt hb.size aA, aA, ho⟩, jA⟩
 have HL2 := lh (fun w' gf hb hg => HLI.out w' gf X2 Y2 s2 t2 a.seen b.seen n2 hb hg h.seen h'.seen eR hk.okA.1 hk.okB.1)
 have H := lh h
 have H' := lh h'
 have HK := lh hk
 have HL := lh hL
 have HBB := lh hBB
 have HF := lh hf
 have HW := lh (And.intro j6 (And.intro jG dO))
 have HBW := lh hB
 have HM := lh hM
 have HZ := lh hZ.out
 clear h h' hk hL hf j6 jG dO bX eP hB hZ hM hBB hK
 have b2 := At1.mk' b2.c1
 go_cut [8] (fun v wc => Jc9 n1 n2 a.smooth a.words (List.zipWith f a.seen b.seen) W v wc)
 case first =>
  obtain ⟨aB, aC, eV, eW, eX, eY, eZ, fA⟩ := b0.c8; have c0 := b0.drew; have bR := c0.lt; obtain ⟨aT, aU, fB, fC, fD, fE, fF, fG⟩ := b1.c8; have c1 := b1.drew; have o0 := c1.lt; have c2 := b2.drew; have o9 := c2.lt; have hc := Jt W; go_region_held3 (fun w' => w'.cell? ⟨w.heap.size, 0, none⟩ = some (.bool (decide (a.smooth.num < 0))) /\ w'.cell? ⟨w.heap.size, 1, none⟩ = some (.int .u64 (lo a.smooth.num.natAbs : Int)) /\ w'.cell? ⟨w.heap.size, 2, none⟩ = some (.string (mo a.smooth.num.natAbs)) /\ w'.cell? ⟨w.heap.size, 3, none⟩ = some (.int .u64 (lo (qden a.smooth) : Int)) /\ w'.cell? ⟨w.heap.size, 4, none⟩ = some (.string (mo (qden a.smooth))) /\ w'.cell? ⟨w.heap.size, 5, none⟩ = some (.slice X1 n1 s1) /\ w'.cell? ⟨w.heap.size, 6, none⟩ = some (.slice X2 n2 s2) /\ w'.cell? ⟨w.heap.size, 7, none⟩ = some (.slice X3 n3 s3) /\ w'.cell? ⟨w.heap.size + 1, 0, none⟩ = some (.bool (decide (b.smooth.num < 0))) /\ w'.cell? ⟨w.heap.size + 1, 1, none⟩ = some (.int .u64 (lo b.smooth.num.natAbs : Int)) /\ w'.cell? ⟨w.heap.size + 1, 2, none⟩ = some (.string (mo b.smooth.num.natAbs)) /\ w'.cell? ⟨w.heap.size + 1, 3, none⟩ = some (.int .u64 (lo (qden b.smooth) : Int)) /\ w'.cell? ⟨w.heap.size + 1, 4, none⟩ = some (.string (mo (qden b.smooth))) /\ w'.cell? ⟨w.heap.size + 1, 5, none⟩ = some (.slice Y1 m1 t1) /\ w'.cell? ⟨w.heap.size + 1, 6, none⟩ = some (.slice Y2 n2 t2) /\ w'.cell? ⟨w.heap.size + 1, 7, none⟩ = some (.slice Y3 n3 t3)) (go_keep) (first | ((first | (go_at_call 50; (first | with_reducible refine (HCL.out _ hc).mono ?_ | (have bY : W.heap.size <= W.heap.size := hc.size; have ca : Blk _ W.heap.size _ _ := Blk.new W.drew 43 #[.bool false, .int .u64 0, .string ⟨#[]⟩, .int .u64 0, .string ⟨#[]⟩, .slice none 0 0, .slice none 0 0, .slice none 0 0]; have aW := Jq (show _ < W.heap.size from bR) zd; have c0 := c0.alloc (.cells #[.bool false, .int .u64 0, .string ⟨#[]⟩, .int .u64 0, .string ⟨#[]⟩, .slice none 0 0, .slice none 0 0, .slice none 0 0] 43); have aX := Jq (show _ < W.heap.size from o0) zd; have c1 := c1.alloc (.cells #[.bool false, .int .u64 0, .string ⟨#[]⟩, .int .u64 0, .string ⟨#[]⟩, .slice none 0 0, .slice none 0 0, .slice none 0 0] 43); have aY := Jq (show _ < W.heap.size from o9) zd; have c2 := c2.alloc (.cells #[.bool false, .int .u64 0, .string ⟨#[]⟩, .int .u64 0, .string ⟨#[]⟩, .slice none 0 0, .slice none 0 0, .slice none 0 0] 43); have hc := Ja hc (Jb _ (.cells #[.bool false, .int .u64 0, .string ⟨#[]⟩, .int .u64 0, .string ⟨#[]⟩, .slice none 0 0, .slice none 0 0, .slice none 0 0] 43)); with_reducible refine (HCL.out _ hc).mono ?_) | (have bY : W.heap.size <= W.heap.size := hc.size; have ca : Blk (W.alloc (.cells #[.bool false, .int .u64 0, .string ⟨#[]⟩, .int .u64 0, .string ⟨#[]⟩, .slice none 0 0, .slice none 0 0, .slice none 0 0] 43)).drew W.heap.size _ _ := Blk.new W.drew 43 #[.bool false, .int .u64 0, .string ⟨#[]⟩, .int .u64 0, .string ⟨#[]⟩, .slice none 0 0, .slice none 0 0, .slice none 0 0]; have aW := Jq (show _ < W.heap.size from bR) zd; have c0 : Blk (W.alloc (.cells #[.bool false, .int .u64 0, .string ⟨#[]⟩, .int .u64 0, .string ⟨#[]⟩, .slice none 0 0, .slice none 0 0, .slice none 0 0] 43)).drew _ _ _ := c0.alloc (.cells #[.bool false, .int .u64 0, .string ⟨#[]⟩, .int .u64 0, .string ⟨#[]⟩, .slice none 0 0, .slice none 0 0, .slice none 0 0] 43); have aX := Jq (show _ < W.heap.size from o0) zd; have c1 : Blk (W.alloc (.cells #[.bool false, .int .u64 0, .string ⟨#[]⟩, .int .u64 0, .string ⟨#[]⟩, .slice none 0 0, .slice none 0 0, .slice none 0 0] 43)).drew _ _ _ := c1.alloc (.cells #[.bool false, .int .u64 0, .string ⟨#[]⟩, .int .u64 0, .string ⟨#[]⟩, .slice none 0 0, .slice none 0 0, .slice none 0 0] 43); have aY := Jq (show _ < W.heap.size from o9) zd; have c2 : At1 (W.alloc (.cells #[.bool false, .int .u64 0, .string ⟨#[]⟩, .int .u64 0, .string ⟨#[]⟩, .slice none 0 0, .slice none 0 0, .slice none 0 0] 43)).drew _ _ _ := c2.alloc (.cells #[.bool false, .int .u64 0, .string ⟨#[]⟩, .int .u64 0, .string ⟨#[]⟩, .slice none 0 0, .slice none 0 0, .slice none 0 0] 43); have hc : Below W.heap.size W (W.alloc (.cells #[.bool false, .int .u64 0, .string ⟨#[]⟩, .int .u64 0, .string ⟨#[]⟩, .slice none 0 0, .slice none 0 0, .slice none 0 0] 43)).drew := Ja hc (Jb _ (.cells #[.bool false, .int .u64 0, .string ⟨#[]⟩, .int .u64 0, .string ⟨#[]⟩, .slice none 0 0, .slice none 0 0, .slice none 0 0] 43)); with_reducible refine (HCL.out _ hc).mono ?_)); rintro e w1 ⟨v1, rfl, ⟨A1, c1c, bZ⟩, y9, jB⟩; subst bZ) | (go_at_call 112; (first | with_reducible refine (HL2.out _ _ hc c2).mono ?_ | (have bY : W.heap.size <= w1.heap.size := hc.size; have ca : Blk _ w1.heap.size _ _ := Blk.new w1 43 #[.bool false, .int .u64 0, .string ⟨#[]⟩, .int .u64 0, .string ⟨#[]⟩, .slice none 0 0, .slice none 0 0, .slice none 0 0]; have aW := Jq (show _ < w1.heap.size from bR) zd; have c0 := c0.alloc (.cells #[.bool false, .int .u64 0, .string ⟨#[]⟩, .int .u64 0, .string ⟨#[]⟩, .slice none 0 0, .slice none 0 0, .slice none 0 0] 43); have aX := Jq (show _ < w1.heap.size from o0) zd; have c1 := c1.alloc (.cells #[.bool false, .int .u64 0, .string ⟨#[]⟩, .int .u64 0, .string ⟨#[]⟩, .slice none 0 0, .slice none 0 0, .slice none 0 0] 43); have aY := Jq (show _ < w1.heap.size from o9) zd; have c2 := c2.alloc (.cells #[.bool false, .int .u64 0, .string ⟨#[]⟩, .int .u64 0, .string ⟨#[]⟩, .slice none 0 0, .slice none 0 0, .slice none 0 0] 43); have hc := Ja hc (Jb _ (.cells #[.bool false, .int .u64 0, .string ⟨#[]⟩, .int .u64 0, .string ⟨#[]⟩, .slice none 0 0, .slice none 0 0, .slice none 0 0] 43)); with_reducible refine (HL2.out _ _ hc c2).mono ?_)); rintro e w2 ⟨v2, rfl, ⟨A2, c2c, bX⟩, fH, jB⟩; subst bX; have lst := True.intro)); (try have ca := ca.below jB ca.lt); (try clear j8 j9 aE aF aG aH aI aJ); obtain ⟨c0, j8, j9, aE, aF, aG, aH, aI, aJ⟩ := c0.zc8 jB; (try clear bR); have bR := c0.lt; (try clear iV iW aK aL aM aN aO aP); obtain ⟨c1, iV, iW, aK, aL, aM, aN, aO, aP⟩ := c1.zc8 jB; (try clear o0); have o0 := c1.lt; have c2 := c2.below jB c2.lt; (try clear o9); have o9 := c2.lt; have hc := Ja hc jB; (try (clear lst; (try (have iI := ca.lt; obtain ⟨fI, fJ, fK, fL, fM, fN, fO, fP, fQ, fR, fS, fT, fU, fV, fW, fX, fY, fZ, gA, gB, gD, gE, gF, gG⟩ := ca.f8)); have iX := y9.1.lt; obtain ⟨gS, gH, aV, aZ, bA⟩ := fH; injection gH with y1 y2 y3; subst y1 y3; have iJ : w1.heap.size <= gS := (by first | exact aZ | exact nt (Nat.le_of_lt (by simp)) aZ); (first | have cA := y9.1.below jB y9.1.lt | have cA := (Own.alloc y9.1 _).below jB (Own.lt (Own.alloc y9.1 _)))))))
  all_goals
   go_wp2
   go_meet
   have iZ : ∀ b, (Value.slice A1 n1 c1c).ownBlock = some b -> W.heap.size <= b /\ b ≠ gS := fun b hb => ⟨y9.2 b hb, by have := iX b hb; omega⟩
   first
    | with_reducible exact Jbd cA iZ bA aV hc
    | with_reducible exact Jea ca bY cA iZ bA aV hc
 case rest =>
  obtain ⟨g8, AW, cW, gS, rfl, aD, b8, dQ, dR, bA, aV, bK⟩ := hcut
  rename World => wc
  have HST := lh (MgI.start (n3 := n3) aD b8 dQ dR bA aV bK dP)
  have s9 : ∀ (w : World) (n : Nat), n <= 1000 -> (Instr.makeSlice 29 (.int .i64 (n : Int)) (.int .i64 (n : Int))).run Tryz.prog w = .ok (.slice (some ⟨w.heap.size, 0, none⟩) n n) (w.alloc (.cells ((List.replicate n (⟨none, 0, 0⟩ : SW)).map SW.v).toArray 65)) := fun w n hn => Qh SW.v ⟨none, 0, 0⟩ 29 65 24 (Tryz.eltZ3).under (Tryz.eltZ3).info rfl .i64 .i64 n (by omega) (by omega) w
  have cB := s9 wc n3 dP
  have b0c := (b0.below bK b0.lt).alloc (.cells ((List.replicate n3 (⟨none, 0, 0⟩ : SW)).map SW.v).toArray 65)
  have b8c := b8.alloc (.cells ((List.replicate n3 (⟨none, 0, 0⟩ : SW)).map SW.v).toArray 65)
  have HB0 := lh (And.intro b0 (And.intro b1 (And.intro b2 b3)))
  have dS := HST.out
  obtain ⟨x0, x1, x2, x3, x4, x5, x6, x7⟩ := b0.below bK b0.lt |>.c8
  generalize wc.alloc (.cells ((List.replicate n3 (⟨none, 0, 0⟩ : SW)).map SW.v).toArray 65) = wd at *
  generalize wc.heap.size = gC at *
  have y7 := (b0c.c8).2.2.2.2.2.2.2
  have f7 := (b8c.c8).2.2.2.2.2.2.2
  have f15 := b8c.frozen 7
  have HST := lh dS
  have iK : w.heap.size < g8 := by have := HZ.out; omega
  have y7s : (wd.setCell ⟨g8, 7, none⟩ (.slice (some ⟨gC, 0, none⟩) n3 n3)).cell? ⟨w.heap.size, 7, none⟩ = some (.slice X3 n3 s3) := (b0c.far (p := ⟨g8, 7, none⟩) (by show w.heap.size ≠ g8; omega) _).c8.2.2.2.2.2.2.2
  clear b0 b1 b2 b3 dQ dR bA bK b8 x0 x1 x2 x3 x4 x5 x6 s9 HCL HL2 b0c b8c dS
  obtain ⟨F, G, HST⟩ : ∃ F G, Hid (MgI W a.smooth n1 n2 n3 AW cW gS g8 gC F G a.words (List.zipWith f a.seen b.seen) (List.replicate n3 []) (wd.setCell ⟨g8, 7, none⟩ (.slice (some ⟨gC, 0, none⟩) n3 n3))) := ⟨_, _, HST⟩
  obtain ⟨R, hR⟩ : ∃ R, List.zipWith (List.zipWith (List.zipWith f)) a.counts b.counts = R := ⟨_, rfl⟩
  have HRM : Hid (Jam f a b = ⟨a.smooth, a.words, List.zipWith f a.seen b.seen, R⟩) := lh (by rw [<- hR]; rfl)
  have jC : R.length = n3 := by rw [<- hR, List.length_zipWith]; have := HW.out.2.2; have := HK.out.counts; omega
  have HRA : Hid (∀ (k : Nat) (t t' : List (List Int)), a.counts[k]? = some t -> b.counts[k]? = some t' -> R[k]? = some (List.zipWith (List.zipWith f) t t')) := lh fun k t t' h1 h2 => by
   rw [<- hR, List.getElem?_zipWith, h1, h2]
  have HR0 : Hid (List.replicate n3 ([] : List (List Int)) = Jm R [] 0) := lh (by rw [Zk, jC])
  clear hR
  obtain ⟨ss, dT⟩ : ∃ ss, List.zipWith f a.seen b.seen = ss := ⟨_, rfl⟩
  rw [dT] at HST HRM
  clear dT
  go_wp2_with fail
  clear cB x7 y7 f7 f15 y7s
  go_loopw [32] (fun p wr => ∃ k : Nat, k <= n3 /\ p = .int .i64 (k : Int) /\ MgI W a.smooth n1 n2 n3 AW cW gS g8 gC F G a.words ss (Jm R [] k) wr) (fun p _ => n3 - (intOf p).toNat)
  case atStart => exact ⟨0, by omega, rfl, by rw [<- HR0.out]; exact HST.out⟩
  case round =>
   obtain ⟨k, iL, rfl, j0⟩ := hrel
   rename World => wr
   clear HST HR0
   by_cases bO : k < n3
   ·as_aux_lemma =>
    have k1 : (k : Int) < (n3 : Int) := by omega
    obtain ⟨t, ht⟩ : ∃ t, a.counts[k]? = some t := ⟨_, List.getElem?_eq_getElem (by have := HW.out.2.2; omega)⟩
    obtain ⟨t', bB⟩ : ∃ t', b.counts[k]? = some t' := ⟨_, List.getElem?_eq_getElem (by have := HW.out.2.2; have := HK.out.counts; omega)⟩
    obtain ⟨ad, g4, o4, A4, n4, v4, rfl, iM, bC, b4, cD⟩ := H.out.counts.spotB ht
    obtain ⟨ae, g5, o5, A5, n5, v5, rfl, iN, bD, b5, cE⟩ := H'.out.counts.spotB bB
    have dU : t.length = n4 := ReadsS.len cD
    have dV : t'.length = n5 := ReadsS.len cE
    have bE := HK.out.rows k t t' ht bB
    have iO : n4 <= 1000 := by have := (HL.out.rows t (List.mem_of_getElem? ht)).1; omega
    obtain rfl : n4 = n5 := by omega
    obtain ⟨T, hT⟩ : ∃ T, List.zipWith (List.zipWith f) t t' = T := ⟨_, rfl⟩
    have cF := HRA.out k t t' ht bB
    rw [hT] at cF
    have dW : T.length = n4 := by rw [<- hT, List.length_zipWith]; omega
    have HTA : Hid (∀ (i : Nat) (x x' : List Int), t[i]? = some x -> t'[i]? = some x' -> T[i]? = some (List.zipWith f x x')) := lh fun i x x' h1 h2 => by
     rw [<- hT, List.getElem?_zipWith, h1, h2]
    have cG : List.replicate n4 ([] : List Int) = Jm T [] 0 := by rw [Zk, dW]
    have HB4 := lh (And.intro b4 (And.intro b5 (And.intro bC bD)))
    have HTT := lh (And.intro ht (And.intro bB (And.intro dU dV)))
    have HR4 := lh (And.intro cD cE)
    have HRW := lh bE
    have HRK := lh cF
    have HT0 := lh cG
    have s9 : ∀ (w : World), (Instr.makeSlice 65 (.int .i64 (n4 : Int)) (.int .i64 (n4 : Int))).run Tryz.prog w = .ok (.slice (some ⟨w.heap.size, 0, none⟩) n4 n4) (w.alloc (.cells ((List.replicate n4 (⟨none, 0, 0⟩ : SW)).map SW.v).toArray 22)) := fun w => Qh SW.v ⟨none, 0, 0⟩ 65 22 24 (Tryz.eltZ2).under (Tryz.eltZ2).info rfl .i64 .i64 n4 (by omega) (by omega) w
    have bF := Ja9 (P := NRow 3 zv) (e := ([] : List Int)) (fun w => NRow.nil _ _ _) 22 n4 wr (by unfold maxLen; omega)
    rw [cG] at bF
    obtain ⟨ob, dX⟩ : ∃ o, Obj.cells ((List.replicate n4 (⟨none, 0, 0⟩ : SW)).map SW.v).toArray 22 = o := ⟨_, rfl⟩
    rw [dX] at s9 bF
    obtain ⟨bG, gI, ⟨A9, n9, c9, bL⟩, iP⟩ := j0.tab (k := k) (by rw [Zd _ _ (by omega)]; omega)
    have HMG := lh j0
    have HNM := lh bF
    have HRA := lh (fun (k : Nat) (hk : R[k]? = some T) => Zw hk ([] : List (List Int)))
    have HFA : Hid ((Jm R [] k).length = n3) := lh (by rw [Zd _ _ (by omega)]; exact jC)
    have hW := j0.bel.size
    have b8 : At1 wr g8 7 (.slice (some ⟨gC, 0, none⟩) n3 n3) := At1.mk' j0.box.c8.2.2.2.2.2.2.2
    have b0 : At1 wr w.heap.size 7 (.slice (some ad) n3 s3) := At1.mk' (HB0.out.1.below j0.bel HB0.out.1.lt).c8.2.2.2.2.2.2.2
    have b1 : At1 wr (w.heap.size + 1) 7 (.slice (some ae) n3 t3) := At1.mk' (HB0.out.2.1.below j0.bel HB0.out.2.1.lt).c8.2.2.2.2.2.2.2
    have gQ := HM.out.trans (j0.bel.mono (nt HBB.out HM.out.size))
    have b4 := b4.below gQ bC
    have b5 := b5.below gQ bD
    have z1 : (wr.alloc ob).frozen? ⟨gC, k, none⟩ = false := (World.frozen?_alloc_past _ _ _ (Xw bL)).trans gI
    have z2 : (wr.alloc ob).cell? ⟨gC, k, none⟩ = some (.slice A9 n9 c9) := (World.cell?_alloc_past _ _ _ (Xw bL)).trans bL
    have ne1 : ¬ gC = g8 := bG
    have ne2 : ¬ g8 = gC := fun e => bG e.symm
    have ne3 : ¬ w.heap.size = gC := by have := HZ.out; omega
    have ne4 : ¬ gC = w.heap.size := by omega
    have ne5 : ¬ g4 = gC := by have := HBB.out; have := HZ.out; omega
    have ne6 : ¬ gC = g4 := by omega
    have bH : MgI W a.smooth n1 n2 n3 AW cW gS g8 gC F G a.words ss ((Jm R [] k).set k (Jm T [] 0)) ((wr.alloc ob).setCell ⟨gC, k, none⟩ (.slice (some ⟨wr.heap.size, 0, none⟩) n4 n4)) := j0.putTab (Jb wr ob) bF (fun x hx => by rw [hx]; exact Nat.le_refl _)
    have HEND := lh bH
    have HCC := lh (lh bL).out
    clear j0 bF cD cE ht bB dU dV bE cF cG hT dX bH gQ bC bD
    go_upto_region 7 with fail
    go_cut [] (fun wc => ∃ u, MgI W a.smooth n1 n2 n3 AW cW gS g8 gC F G a.words ss ((Jm R [] k).set k (Jm T [] 0)) wc /\ wc.cell? ⟨gC, k, none⟩ = some (.slice (some ⟨u, 0, none⟩) n4 n4))
    case first =>
     obtain ⟨cH, cI⟩ := b8.c2; have c8 := b8.drew; have cJ := c8.lt; obtain ⟨aB, aC⟩ := b0.c2; have c0 := b0.drew; have bR := c0.lt; obtain ⟨cK, cL⟩ := b4.c2; have c4 := b4.drew; have cN := c4.lt; have hc := Jt wr; go_region_held3 (fun w' => w'.cell? ⟨g8, 7, none⟩ = some (.slice (some ⟨gC, 0, none⟩) n3 n3) /\ w'.cell? ⟨w.heap.size, 7, none⟩ = some (.slice (some ad) n3 s3) /\ w'.cell? ⟨g4, o4, none⟩ = some (.slice A4 n4 v4)) (go_keep) (first | fail)
     all_goals
      go_wp2
      go_meet
      exact ⟨_, HEND.out.next (Jt _), World.cell?_setCell_same _ _ _ z2⟩
    case rest =>
     obtain ⟨u, j0, aQ⟩ := hcut
     rename World => ws
     clear HEND HCC z1 z2 b0 b1 b4 b5 b8 HMG HNM s9
     have HI := lh (And.intro j0 aQ)
     have x7 := (HB0.out.1.below j0.bel HB0.out.1.lt).c8.2.2.2.2.2.2.2
     have gQ := HM.out.trans (j0.bel.mono (nt HBB.out HM.out.size))
     have x4 := (HB4.out.1.below gQ HB4.out.2.2.1).c2.1
     clear j0 aQ gQ
     go_wp2_with fail
     clear x7 x4
     go_loopw [52] (fun p wi => ∃ i : Nat, i <= n4 /\ p = .int .i64 (i : Int) /\ MgI W a.smooth n1 n2 n3 AW cW gS g8 gC F G a.words ss ((Jm R [] k).set k (Jm T [] i)) wi /\ wi.cell? ⟨gC, k, none⟩ = some (.slice (some ⟨u, 0, none⟩) n4 n4)) (fun p _ => n4 - (intOf p).toNat)
     case atStart => exact ⟨0, by omega, rfl, HI.out⟩
     case round =>
      obtain ⟨i, hi, rfl, j0, aQ⟩ := hrel
      rename World => wi
      clear HI
      by_cases iQ : i < n4
      ·as_aux_lemma =>
       have k2 : (i : Int) < (n4 : Int) := by omega
       obtain ⟨x, hx⟩ : ∃ x, t[i]? = some x := ⟨_, List.getElem?_eq_getElem (by have := HTT.out; omega)⟩
       obtain ⟨x', bI⟩ : ∃ x', t'[i]? = some x' := ⟨_, List.getElem?_eq_getElem (by have := HTT.out; omega)⟩
       obtain ⟨ad6, g6, o6, A6, n6, v6, rfl, iR, dY, b6, cO⟩ := HR4.out.1.spotB hx
       obtain ⟨ad7, g7, o7, A7, n7, v7, rfl, iS, dZ, b7, cP⟩ := HR4.out.2.spotB bI
       have gJ : x.length = n6 := cO.len
       have gK : x'.length = n7 := cP.len
       have gL := HRW.out.2 i x x' hx bI
       obtain rfl : n6 = n7 := by omega
       have gM : n6 <= 1000 := by have := (HL.out.rows t (List.mem_of_getElem? HTT.out.1)).2 x (List.mem_of_getElem? hx); omega
       have aR := Zw (HTA.out i x x' hx bI) ([] : List Int)
       have jD := fun w' (hb : Below wi.heap.size wi w') (hg : At1 w' (w.heap.size + 1 + 1) 0 (.func (.func K) #[] #[])) => HLI.out w' _ A6 A7 v6 v7 x x' n6 (j0.bel.trans (hb.mono j0.bel.size)) hg cO cP gM (HK.out.okA.2 t (List.mem_of_getElem? HTT.out.1) x (List.mem_of_getElem? hx)) (HK.out.okB.2 t' (List.mem_of_getElem? HTT.out.2.1) x' (List.mem_of_getElem? bI))
       obtain ⟨zs, eA⟩ : ∃ zs, List.zipWith f x x' = zs := ⟨_, rfl⟩
       rw [eA] at aR jD
       have cR : ((Jm R [] k).set k (Jm T [] i))[k]? = some (Jm T [] i) := by
        rw [List.getElem?_set_self]
        have := HFA.out
        omega
       obtain ⟨jE, cT, iT⟩ := j0.who cR aQ
       have gQ := HM.out.trans (j0.bel.mono (nt HBB.out HM.out.size))
       have b8 : At1 wi g8 7 (.slice (some ⟨gC, 0, none⟩) n3 n3) := At1.mk' j0.box.c8.2.2.2.2.2.2.2
       have b0 : At1 wi w.heap.size 7 (.slice (some ad) n3 s3) := At1.mk' (HB0.out.1.below j0.bel HB0.out.1.lt).c8.2.2.2.2.2.2.2
       have b1 : At1 wi (w.heap.size + 1) 7 (.slice (some ae) n3 t3) := At1.mk' (HB0.out.2.1.below j0.bel HB0.out.2.1.lt).c8.2.2.2.2.2.2.2
       have b2 := HB0.out.2.2.1.below j0.bel HB0.out.2.2.1.lt
       have b3 : At1 wi gC k (.slice (some ⟨u, 0, none⟩) n4 n4) := At1.mk' aQ
       have b4 := HB4.out.1.below gQ HB4.out.2.2.1
       have b5 := HB4.out.2.1.below gQ HB4.out.2.2.2
       have b6 := b6.below gQ dY
       have b7 := b7.below gQ dZ
       have bC := HB4.out.2.2.1
       have bD := HB4.out.2.2.2
       have cU := HZ.out
       have gO := HBB.out
       have m1 : ¬ u = g8 := jE
       have m2 : ¬ g8 = u := fun e => jE e.symm
       have m3 : ¬ u = gC := cT
       have m4 : ¬ gC = u := fun e => cT e.symm
       have m5 : ¬ w.heap.size = u := by omega
       have m6 : ¬ u = w.heap.size := by omega
       have m7 : ¬ w.heap.size + 1 = u := by omega
       have m8 : ¬ u = w.heap.size + 1 := by omega
       have m9 : ¬ g4 = u := by omega
       have m10 : ¬ u = g4 := by omega
       have m11 : ¬ g5 = u := by omega
       have m12 : ¬ u = g5 := by omega
       have m13 : ¬ g6 = u := by omega
       have m14 : ¬ u = g6 := by omega
       have m15 : ¬ g7 = u := by omega
       have m16 : ¬ u = g7 := by omega
       have m17 : ¬ w.heap.size + 1 + 1 = u := by omega
       have m18 : ¬ u = w.heap.size + 1 + 1 := by omega
       have eB : i < (Jm T ([] : List Int) i).length := by rw [Zd _ _ (by omega)]; omega
       have HFL := lh (And.intro cR eB)
       have HSET := lh aR
       have HLC := lh jD
       have HMI := lh j0
       clear j0 aQ hx bI cO cP gJ gK gL aR jD eA cR jE cT gQ dY dZ bC bD cU gO eB
       go_upto_region 11 with fail
       obtain ⟨cH, cI⟩ := b8.c2; have c8 := b8.drew; have cJ := c8.lt; obtain ⟨gP, jH⟩ := b3.c2; have c3 := b3.drew; have eC := c3.lt; obtain ⟨aB, aC⟩ := b0.c2; have c0 := b0.drew; have bR := c0.lt; obtain ⟨cK, cL⟩ := b4.c2; have c4 := b4.drew; have cN := c4.lt; obtain ⟨gU, gV⟩ := b6.c2; have c6 := b6.drew; have eD := c6.lt; obtain ⟨aT, aU⟩ := b1.c2; have c1 := b1.drew; have o0 := c1.lt; obtain ⟨gW, gY⟩ := b5.c2; have c5 := b5.drew; have eE := c5.lt; obtain ⟨gZ, hJ⟩ := b7.c2; have c7 := b7.drew; have eF := c7.lt; have c2 := b2.drew; have o9 := c2.lt; have hc := Jt wi; go_region_held3 (fun w' => w'.cell? ⟨g8, 7, none⟩ = some (.slice (some ⟨gC, 0, none⟩) n3 n3) /\ w'.cell? ⟨gC, k, none⟩ = some (.slice (some ⟨u, 0, none⟩) n4 n4) /\ w'.cell? ⟨w.heap.size, 7, none⟩ = some (.slice (some ad) n3 s3) /\ w'.cell? ⟨g4, o4, none⟩ = some (.slice (some ad6) n4 v4) /\ w'.cell? ⟨g6, o6, none⟩ = some (.slice A6 n6 v6) /\ w'.cell? ⟨w.heap.size + 1, 7, none⟩ = some (.slice (some ae) n3 t3) /\ w'.cell? ⟨g5, o5, none⟩ = some (.slice (some ad7) n4 v5) /\ w'.cell? ⟨g7, o7, none⟩ = some (.slice A7 n6 v7)) (go_keep) (first | (go_at_call 112; (with_reducible refine (HLC.out _ hc c2).mono ?_); rintro e w1 ⟨v1, rfl, ⟨A1, c1c, bZ⟩, y9, j6⟩; subst bZ; (try clear jF cZ); obtain ⟨c8, jF, cZ⟩ := c8.zc2 j6; (try clear cJ); have cJ := c8.lt; (try clear dA dB); obtain ⟨c3, dA, dB⟩ := c3.zc2 j6; (try clear eC); have eC := c3.lt; (try clear j8 j9); obtain ⟨c0, j8, j9⟩ := c0.zc2 j6; (try clear bR); have bR := c0.lt; (try clear dC dD); obtain ⟨c4, dC, dD⟩ := c4.zc2 j6; (try clear cN); have cN := c4.lt; (try clear dE dF); obtain ⟨c6, dE, dF⟩ := c6.zc2 j6; (try clear eD); have eD := c6.lt; (try clear iV iW); obtain ⟨c1, iV, iW⟩ := c1.zc2 j6; (try clear o0); have o0 := c1.lt; (try clear dG dH); obtain ⟨c5, dG, dH⟩ := c5.zc2 j6; (try clear eE); have eE := c5.lt; (try clear dI dJ); obtain ⟨c7, dI, dJ⟩ := c7.zc2 j6; (try clear eF); have eF := c7.lt; have c2 := c2.below j6 c2.lt; (try clear o9); have o9 := c2.lt; have hc := Ja hc j6; obtain ⟨gN, iA, iU, dK, eG⟩ := y9; injection iA with y1 y2 y3; subst y1 y3; have mg1 := HMI.out.next hc; obtain ⟨z1, Az, nz, cz, z2⟩ := mg1.spot HFL.out.1 c3.c2.1 HFL.out.2; have HM1 := lh mg1; have HON := lh eG; have HZ2 := lh c3.c2.1; clear mg1 eG))
       all_goals
        go_wp2
        have bJ := HMI.out.putCol (i := i) hc HFL.out.1 HZ2.out (NRow.of HON.out) (fun x hx => by have e : gN = x := (by simpa [Value.ownBlock] using hx); rw [<- e]; exact dK)
        rw [List.set_set, HSET.out] at bJ
        exact ⟨⟨i + 1, by omega, by go_num, bJ⟩, by simp [intOf]; omega⟩
      obtain rfl : i = n4 := by omega
      have k2 : ¬ (i : Int) < (i : Int) := by omega
      rw [<- dW, Zl, HRA.out k HRK.out] at j0
      have HMG := lh j0
      clear j0 aQ
      go_wp2
      exact ⟨⟨k + 1, by omega, by go_num, HMG.out⟩, by simp [intOf]; omega⟩
   as_aux_lemma =>
   obtain rfl : k = n3 := by omega
   have k1 : ¬ (k : Int) < (k : Int) := by omega
   rw [show Jm R [] k = R by have e := Zl R ([] : List (List Int)); rw [jC] at e; exact e] at j0
   have b3 := HB0.out.2.2.2.below j0.bel HB0.out.2.2.2.lt
   have aA := show w.heap.size <= w.heap.size + 1 + 1 + 1 by omega
   have cU := HZ.out
   clear HB0 b2
   generalize w.heap.size + 1 + 1 + 1 = gR at *
   obtain ⟨x0, x1, x2, x3, x4, x5, x6, x7⟩ := j0.box.c8
   obtain ⟨H9, ho, hn⟩ := j0.own
   have HO := lh ho
   have HB3 := lh b3
   have HBE := lh (HBW.out.trans (j0.bel.mono HBW.out.size))
   have HNR := lh (show ¬ F gR /\ ¬ G gR /\ ¬ H9 gR from ⟨fun e => by have := ho.from1 _ e; omega, fun e => by have := ho.from2 _ e; omega, fun e => by have := ho.from3 _ e; omega⟩)
   clear j0 b3 ho hn cU
   go_wp2_with (refine Jr rfl _ (.tmp 6) (.tmp 82) rfl gR #[.bool (decide (a.smooth.num < 0)), .int .u64 (lo a.smooth.num.natAbs : Int), .string (mo a.smooth.num.natAbs), .int .u64 (lo ((qden a.smooth)) : Int), .string (mo ((qden a.smooth))), .slice AW n1 cW, .slice (some ⟨gS, 0, none⟩) n2 n2, .slice (some ⟨gC, 0, none⟩) k k] _ rfl rfl _ HB3.out (by kernel_rfl) rfl (by simp [Value.oneCell']) ?_; intro w7 eH eI; have HX7 := lh eI; have HB7 := lh eH; clear eI eH x0 x1 x2 x3 x4 x5 x6 x7)
   obtain ⟨p0, p1, p2, p3, p4, p5, p6, p7⟩ := HB7.out.c8
   refine bodyPost_ret (v := .agg #[.bool (decide (a.smooth.num < 0)), .int .u64 (lo a.smooth.num.natAbs : Int), .string (mo a.smooth.num.natAbs), .int .u64 (lo ((qden a.smooth)) : Int), .string (mo ((qden a.smooth))), .slice AW n1 cW, .slice (some ⟨gS, 0, none⟩) n2 n2, .slice (some ⟨gC, 0, none⟩) k k]) (by simp [results, Tryz.results70, go_sem, p0, p1, p2, p3, p4, p5, p6, p7]) rfl ?_
   rw [HRM.out]
   exact ⟨_, rfl, ⟨AW, cW, gS, gC, F, G, H9, rfl, (HO.out.exc HX7.out HNR.out.1 HNR.out.2.1 HNR.out.2.2).low HBW.out.size⟩, HBE.out.trans (HX7.out.below HBE.out.size aA)⟩
