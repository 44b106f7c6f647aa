import Derived.Test.YtecnjlcfoobepaaGreatDoorLinkFarsP
import Derived.Test.YtecnjlcfoobepaaGreatDoorFracDivQ
import Derived.Lib.SliceRun
import Derived.Test.YtecnjlcfoobepaaGreatDoorHandRows
namespace Go.Proofs.YtecnjlcfoobepaaGreatDoor
set_option maxRecDepth 100000
set_option maxHeartbeats 40000000
open Go.RowKit
set_option linter.unusedSimpArgs false
set_option linter.unusedVariables false
structure ClsAt (w : World) (g how : Nat) (vf vs vg : Value) (c : Cls) : Prop where
 blk : Blk w g 107 #[.int .i64 (how : Int), vf, vs, vg]
 far : OwnQQ w vf c.far
 size : Own w 3 iv vs c.size
 gone : Own w 4 Value.bool vg c.gone
theorem ClsAt.next {w w' : World} {g how : Nat} {vf vs vg : Value} {c : Cls} (h : ClsAt w g how vf vs vg c) (hb : Below w.heap.size w w') : ClsAt w' g how vf vs vg c :=
 ⟨h.blk.below hb h.blk.lt, OwnS.next Tryz.kindQQ h.far hb, h.size.below hb h.size.lt, h.gone.below hb h.gone.lt⟩
theorem ClsAt.drew {w : World} {g how : Nat} {vf vs vg : Value} {c : Cls} (h : ClsAt w g how vf vs vg c) : ClsAt w.drew g how vf vs vg c := h.next (bdrew0 w)
theorem blk4 {w : World} {g : Nat} {t : TypeId} {a b c d : Value} (h : Blk w g t #[a, b, c, d]) : w.cell? ⟨g, 0, none⟩ = some a /\ w.cell? ⟨g, 1, none⟩ = some b /\ w.cell? ⟨g, 2, none⟩ = some c /\ w.cell? ⟨g, 3, none⟩ = some d /\ w.frozen? ⟨g, 0, none⟩ = false /\ w.frozen? ⟨g, 1, none⟩ = false /\ w.frozen? ⟨g, 2, none⟩ = false /\ w.frozen? ⟨g, 3, none⟩ = false :=
 ⟨h.cell 0, h.cell 1, h.cell 2, h.cell 3, h.frozen 0, h.frozen 1, h.frozen 2, h.frozen 3⟩
theorem bdrewA1 (w : World) (o : Obj) : Below w.heap.size w (w.alloc o).drew := bthen (balloc1 w o) (bdrew0 _)
theorem Blk.c4 {w : World} {g : Nat} {t : TypeId} {a b c d : Value} (h : Blk w g t #[a, b, c, d]) : w.cell? ⟨g, 0, none⟩ = some a /\ w.cell? ⟨g, 1, none⟩ = some b /\ w.cell? ⟨g, 2, none⟩ = some c /\ w.cell? ⟨g, 3, none⟩ = some d := ⟨h.cell 0, h.cell 1, h.cell 2, h.cell 3⟩
theorem Blk.c8 {w : World} {g : Nat} {t : TypeId} {a b c d e x y z : Value} (h : Blk w g t #[a, b, c, d, e, x, y, z]) : w.cell? ⟨g, 0, none⟩ = some a /\ w.cell? ⟨g, 1, none⟩ = some b /\ w.cell? ⟨g, 2, none⟩ = some c /\ w.cell? ⟨g, 3, none⟩ = some d /\ w.cell? ⟨g, 4, none⟩ = some e /\ w.cell? ⟨g, 5, none⟩ = some x /\ w.cell? ⟨g, 6, none⟩ = some y /\ w.cell? ⟨g, 7, none⟩ = some z :=
 ⟨h.cell 0, h.cell 1, h.cell 2, h.cell 3, h.cell 4, h.cell 5, h.cell 6, h.cell 7⟩
theorem ClsAt.btw {w : World} {g how n m a b : Nat} {vf vs vg : Value} {c : Cls} (h : ClsAt w g how vf vs vg c) (hw : WalkC n m c) (hab : a < b) (hb : b < n) :
  ∃ gf gr k cf cr, vf = .slice (some ⟨gf, 0, none⟩) n cf /\ w.cell? ⟨gf, b, none⟩ = some (.slice (some ⟨gr, 0, none⟩) k cr) /\ k = b /\ AtQ w gr (a * 5) (betw c.far a b) := by
 have hb2 : b < c.far.length := by rw [hw.lenf]; exact hb
 obtain ⟨A, cf, rfl⟩ := h.far.form
 obtain ⟨gf, rfl⟩ := OwnS.addr h.far (by omega)
 have hrow : c.far[b]? = some c.far[b] := List.getElem?_eq_getElem hb2
 have hl := hw.row b hb
 rw [List.getD_eq_getElem?_getD, hrow] at hl
 have hl : (c.far[b]).length = b := hl
 obtain ⟨A2, k, cr, h1, h2⟩ := OwnS.at_ h.far hrow
 obtain ⟨gr, rfl⟩ := OwnQ.addr h2 (by omega)
 have hk := OwnQ.len h2
 refine ⟨gf, gr, k, cf, cr, by rw [hw.lenf], h1, by omega, OwnQ.at_ h2 ?_⟩
 have e : betw c.far a b = (c.far[b])[a]'(by omega) := by
  unfold betw
  rw [show max a b = b by omega, show min a b = a by omega, List.getD_eq_getElem?_getD, List.getD_eq_getElem?_getD, hrow]
  show ((c.far[b])[a]?).getD 0 = _
  rw [List.getElem?_eq_getElem (by omega)]
  rfl
 rw [e]
 exact List.getElem?_eq_getElem (by omega)
theorem link_between (g how n m a b : Nat) (vf vs vg : Value) (c : Cls) (w : World) (h : ClsAt w g how vf vs vg c) (hw : WalkC n m c) (ha : a < n) (hb : b < n) (hab : a ≠ b) :
  Calls Tryz.prog 97 #[.pointer (some ⟨g, 0, none⟩), .int .i64 (a : Int), .int .i64 (b : Int)] w (Ret (qV (betw c.far a b)) w) := by
 have key : ∃ l u, l < u /\ u < n /\ min (a : Int) (b : Int) = ((l : Nat) : Int) /\ max (a : Int) (b : Int) = ((u : Nat) : Int) /\ betw c.far a b = betw c.far l u := by
  rcases Nat.lt_or_gt_of_ne hab with h1 | h1
  ·exact ⟨a, b, h1, hb, by omega, by omega, rfl⟩
  exact ⟨b, a, h1, ha, by omega, by omega, betw_swap _ _ _⟩
 obtain ⟨l, u, hlu, hun, hmin, hmax, e⟩ := key
 rw [e]
 obtain ⟨gf, gr, k, cf, cr, rfl, hc, hk, hat⟩ := h.btw hw hlu hun
 generalize betw c.far l u = q at *
 obtain ⟨r0, r1, r2, r3, -, -, -, -⟩ := blk4 h.blk
 have hB := balloc1 w (.cells #[.bool false, .int .u64 0, .string ⟨#[]⟩, .int .u64 0, .string ⟨#[]⟩] 56)
 have hl1 := cell_lt hc
 have hl2 := cell_lt r0
 have e1 := hB.cell (p := ⟨gf, u, none⟩) hl1
 have e2 := hB.cell (p := ⟨g, 1, none⟩) hl2
 rw [hc] at e1
 rw [r1] at e2
 have hat := hat.alloc (.cells #[.bool false, .int .u64 0, .string ⟨#[]⟩, .int .u64 0, .string ⟨#[]⟩] 56)
 obtain ⟨x0, x1, x2, x3, x4⟩ := hat.c5
 have b0 := Blk.new w 56 #[.bool false, .int .u64 0, .string ⟨#[]⟩, .int .u64 0, .string ⟨#[]⟩]
 have hsz : w.heap.size <= w.heap.size := Nat.le_refl _
 obtain ⟨b0q0, b0q1, b0q2, b0q3, b0q4, b0f0, b0f1, b0f2, b0f3, b0f4, b0s0, b0s1, b0s2, b0s3, b0s4⟩ := b0.f5
 unfold qV
 have k1 : (l : Int) < (k : Int) := by omega
 have k2 : (u : Int) < (n : Int) := by omega
 clear h hw hat hc r0 r1 r2 r3 e ha hb hab
 go_enter Tryz.func97, Tryz.ntmps97
 go_wp2
 go_returns
 exact ⟨rfl, balloc1 _ _⟩
theorem two55 {W wn : World} {g h : Nat} {t t' : TypeId} {a b c d e a' b' c' d' e' x y z u v x' y' z' u' v' : Value} (hc : Below W.heap.size W wn) (ca : Blk wn g t #[a, b, c, d, e]) (cd : Blk wn h t' #[a', b', c', d', e']) (hne : g ≠ h) (hg : W.heap.size <= g) (hh : W.heap.size <= h) :
  Born2 W t #[x, y, z, u, v] t' #[x', y', z', u', v'] (.pointer (some ⟨g, 0, none⟩)) (.pointer (some ⟨h, 0, none⟩)) ((((((((((wn.setCell ⟨g, 0, none⟩ x).setCell ⟨g, 1, none⟩ y).setCell ⟨g, 2, none⟩ z).setCell ⟨g, 3, none⟩ u).setCell ⟨g, 4, none⟩ v).setCell ⟨h, 0, none⟩ x').setCell ⟨h, 1, none⟩ y').setCell ⟨h, 2, none⟩ z').setCell ⟨h, 3, none⟩ u').setCell ⟨h, 4, none⟩ v') := by
 refine ⟨g, h, rfl, rfl, hne, hg, hh, ?_, ?_, ?_⟩
 ·have e1 := (((((((((ca.set_ 0 x).set_ 1 y).set_ 2 z).set_ 3 u).set_ 4 v).far (p := ⟨h, 0, none⟩) hne x').far (p := ⟨h, 1, none⟩) hne y').far (p := ⟨h, 2, none⟩) hne z').far (p := ⟨h, 3, none⟩) hne u').far (p := ⟨h, 4, none⟩) hne v'
  simpa using e1
 ·have e2 := (((((((((cd.far (p := ⟨g, 0, none⟩) (Ne.symm hne) x).far (p := ⟨g, 1, none⟩) (Ne.symm hne) y).far (p := ⟨g, 2, none⟩) (Ne.symm hne) z).far (p := ⟨g, 3, none⟩) (Ne.symm hne) u).far (p := ⟨g, 4, none⟩) (Ne.symm hne) v).set_ 0 x').set_ 1 y').set_ 2 z').set_ 3 u').set_ 4 v'
  simpa using e2
 exact bset5' (bset5' hc hg _ _ _ _ _) hh _ _ _ _ _
theorem twoM5 {W wn : World} {g : Nat} {t t' : TypeId} {a b c d e x y z u v : Value} {cs' : Array Value} (hc : Below W.heap.size W wn) (ca : Blk wn g t #[a, b, c, d, e]) (hg : W.heap.size <= g) :
  Born2 W t #[x, y, z, u, v] t' cs' (.pointer (some ⟨g, 0, none⟩)) (.pointer (some ⟨wn.heap.size, 0, none⟩)) ((((((wn.setCell ⟨g, 0, none⟩ x).setCell ⟨g, 1, none⟩ y).setCell ⟨g, 2, none⟩ z).setCell ⟨g, 3, none⟩ u).setCell ⟨g, 4, none⟩ v).alloc (.cells cs' t')) := by
 have h1 := (((((ca.set_ 0 x).set_ 1 y).set_ 2 z).set_ 3 u).set_ 4 v).alloc (.cells cs' t')
 have h2 := Blk.new (((((wn.setCell ⟨g, 0, none⟩ x).setCell ⟨g, 1, none⟩ y).setCell ⟨g, 2, none⟩ z).setCell ⟨g, 3, none⟩ u).setCell ⟨g, 4, none⟩ v) t' cs'
 simp only [World.size_setCell] at h2
 have := ca.lt
 exact ⟨_, _, rfl, rfl, by omega, hg, hc.size, by simpa using h1, h2, bthen (bset5' hc hg _ _ _ _ _) (balloc1 _ _)⟩
theorem Born2.to {W : World} {t t' : TypeId} {cs cs' : Array Value} {v v' : Value} {wc : World} (h : Born2 W t' cs' t cs v' v wc) : Born2 W t cs t' cs' v v' wc := h.swap
theorem link_merged (g how n m A B i : Nat) (S : Int) (hq : Rat) (vf vs vg : Value) (c : Cls) (w : World) (h : ClsAt w g how vf vs vg c) (hw : WalkC n m c) (hm : m <= 1000000000) (hm1 : 1 <= m) (hh : how = 1 \/ how = 2 \/ how = 3) (hA : A < n) (hB : B < n) (hi : i < n) (hAi : A ≠ i) (hBi : B ≠ i)
  (hS : S = ((c.size.getD A 0 + c.size.getD B 0 : Nat) : Int)) (hpos : 0 < c.size.getD A 0 + c.size.getD B 0) (hT : Tab w) :
  Calls Tryz.prog 98 #[.pointer (some ⟨g, 0, none⟩), .agg #[.int .i64 (A : Int), .int .i64 (B : Int), .int .i64 S, .bool (decide (hq.num < 0)), .int .u64 (lo hq.num.natAbs : Int), .string (mo hq.num.natAbs), .int .u64 (lo ((qden hq)) : Int), .string (mo ((qden hq)))], .int .i64 (i : Int)] w
   (Ret (qV (mergedQ how (c.size.getD A 0) (c.size.getD B 0) (betw c.far A i) (betw c.far B i))) w) := by
 have hb1 := fun w' (hb' : Below w.heap.size w w') => link_between g how n m A i vf vs vg c w' (h.next hb') hw hA hi hAi
 have hb2 := fun w' (hb' : Below w.heap.size w w') => link_between g how n m B i vf vs vg c w' (h.next hb') hw hB hi hBi
 have qx := hw.qs.betw hm1 A i
 have qy := hw.qs.betw hm1 B i
 generalize betw c.far A i = x at *
 generalize betw c.far B i = y at *
 have sa := hw.sz A
 have sb := hw.sz B
 have hsA : c.size[A]? = some (c.size.getD A 0) := by rw [List.getD_eq_getElem?_getD, List.getElem?_eq_getElem (by rw [hw.lens]; omega)]; rfl
 have hsB : c.size[B]? = some (c.size.getD B 0) := by rw [List.getD_eq_getElem?_getD, List.getElem?_eq_getElem (by rw [hw.lens]; omega)]; rfl
 generalize c.size.getD A 0 = za at *
 generalize c.size.getD B 0 = zb at *
 obtain ⟨As, cs, hvs, -⟩ := Own.form h.size
 have hown := h.size
 rw [hvs] at hown
 obtain ⟨gs, rfl⟩ := Own.addr hown (by rw [hw.lens]; omega)
 have hca := Own.cellf hown hsA
 have hcb := Own.cellf hown hsB
 have lA := hw.lens
 subst hvs
 rw [lA] at h
 unfold iv at hca hcb
 obtain ⟨r, hr⟩ : ∃ r, mergedQ how za zb x y = r := ⟨_, rfl⟩
 rw [hr]
 have hblk := h.blk
 unfold qV at hb1 hb2 ⊢
 have HB1 := lh hb1
 have HB2 := lh hb2
 have HX := lh qx
 have HY := lh qy
 have HR := lh hr
 have HS := lh hS
 clear hS
 have HT := lh hT
 clear hb1 hb2 qx qy hr hT h hown hsA hsB hAi hBi lA
 generalize hng : decide (hq.num < 0) = ng at *
 clear hng
 generalize hq.num.natAbs = qn at *
 generalize qden hq = qd at *
 have ka := At1.mk' hca
 have kb := At1.mk' hcb
 have hgl := hblk.lt
 clear hca hcb
 have b0 := (Blk.new w  58 #[.int .i64 (A : Int), .int .i64 (B : Int), .int .i64 S, .bool ng, .int .u64 (lo qn : Int), .string (mo qn), .int .u64 (lo qd : Int), .string (mo qd)]).alloc (.cells #[.bool false, .int .u64 0, .string ⟨#[]⟩, .int .u64 0, .string ⟨#[]⟩] 56); have b1 := Blk.new2 w (.cells #[.int .i64 (A : Int), .int .i64 (B : Int), .int .i64 S, .bool ng, .int .u64 (lo qn : Int), .string (mo qn), .int .u64 (lo qd : Int), .string (mo qd)] 58) 56 #[.bool false, .int .u64 0, .string ⟨#[]⟩, .int .u64 0, .string ⟨#[]⟩]; have hB := balloc2 w (.cells #[.int .i64 (A : Int), .int .i64 (B : Int), .int .i64 S, .bool ng, .int .u64 (lo qn : Int), .string (mo qn), .int .u64 (lo qd : Int), .string (mo qd)] 58) (.cells #[.bool false, .int .u64 0, .string ⟨#[]⟩, .int .u64 0, .string ⟨#[]⟩] 56); have hZ := lh (show ((w.alloc (.cells #[.int .i64 (A : Int), .int .i64 (B : Int), .int .i64 S, .bool ng, .int .u64 (lo qn : Int), .string (mo qn), .int .u64 (lo qd : Int), .string (mo qd)] 58)).alloc (.cells #[.bool false, .int .u64 0, .string ⟨#[]⟩, .int .u64 0, .string ⟨#[]⟩] 56)).heap.size = w.heap.size + 1 + 1 from by simp)
 have b2 := hblk.below hB hgl
 have b3 := ka.below hB ka.lt
 have b4 := kb.below hB kb.lt
 have HB1 := lh (fun w' (hb' : Below _ _ w') => HB1.out w' (bthen hB hb'))
 have HB2 := lh (fun w' (hb' : Below _ _ w') => HB2.out w' (bthen hB hb'))
 go_enter Tryz.func98, Tryz.ntmps98
 go_wp2_with fail
 generalize ((w.alloc (.cells #[.int .i64 (A : Int), .int .i64 (B : Int), .int .i64 S, .bool ng, .int .u64 (lo qn : Int), .string (mo qn), .int .u64 (lo qd : Int), .string (mo qd)] 58)).alloc (.cells #[.bool false, .int .u64 0, .string ⟨#[]⟩, .int .u64 0, .string ⟨#[]⟩] 56)) = W at *
 have b0a := At1.mk' (b0.cell 0)
 have b0b := At1.mk' (b0.cell 1)
 have b0c := At1.mk' (b0.cell 2)
 have b2c := At1.mk' (b2.cell 2)
 clear b0 hblk ka kb hgl
 go_upto_region 1 with fail
 go_cut [7, 8] (fun v7 v8 wc => Born2 W 56 #[.bool (decide (x.num < 0)), .int .u64 (lo x.num.natAbs : Int), .string (mo x.num.natAbs), .int .u64 (lo ((qden x)) : Int), .string (mo ((qden x)))] 56 #[.bool (decide (y.num < 0)), .int .u64 (lo y.num.natAbs : Int), .string (mo y.num.natAbs), .int .u64 (lo ((qden y)) : Int), .string (mo ((qden y)))] v7 v8 wc)
 case first =>
  obtain ⟨b0aq0, b0aq1⟩ := b0a.c2; have c0az := b0a.lt; have c0a := b0a.drew; have c0al := c0a.lt; obtain ⟨b0bq0, b0bq1⟩ := b0b.c2; have c0bz := b0b.lt; have c0b := b0b.drew; have c0bl := c0b.lt; have hc := bdrew0 W; go_region_held3 (fun w' => w'.cell? ⟨w.heap.size, 0, none⟩ = some (.int .i64 (A : Int)) /\ w'.cell? ⟨w.heap.size, 1, none⟩ = some (.int .i64 (B : Int))) (go_keep) (first | (go_at_call 97; (first | with_reducible refine (HB1.out _ hc).mono ?_ | with_reducible refine (HB1.out _ (bthen hc (balloc1 _ _))).mono ?_ | with_reducible refine (HB1.out _ (bthen hc (balloc2 _ _ _))).mono ?_ | with_reducible refine (HB1.out _ (bthen (balloc1 _ _) (bdrew0 _))).mono ?_ | with_reducible refine (HB1.out _ (bthen (balloc2 _ _ _) (bdrew0 _))).mono ?_); rintro e w1 ⟨rfl, hw1⟩; (first | have c0a := c0a.ya hw1 | have c0a := c0a.yb hw1 | have c0a := c0a.yc hw1); (try clear c0aq0 c0aq1); obtain ⟨c0aq0, c0aq1⟩ := c0a.c2; (try clear c0al); have c0al := c0a.lt; (first | have c0b := c0b.ya hw1 | have c0b := c0b.yb hw1 | have c0b := c0b.yc hw1); (try clear c0bq0 c0bq1); obtain ⟨c0bq0, c0bq1⟩ := c0b.c2; (try clear c0bl); have c0bl := c0b.lt; (try have hl0 := ca.lt); (try (first | have ca := ca.below hw1 ca.lt | have ca := (ca.alloc _).below hw1 (ca.alloc _).lt)); (try (first | have cd := cd.below hw1 cd.lt | have cd := (cd.alloc _).below hw1 (cd.alloc _).lt)); (first | have hc := bthen hc hw1 | (have hlt := hl0; have hb1 := born1 hc hw1; obtain ⟨cd, hgd, hc⟩ := hb1) | (have hb1 := born1d hc hw1; obtain ⟨ca, hga, hc⟩ := hb1) | (have hb1 := born1 hc hw1; obtain ⟨ca, hga, hc⟩ := hb1) | (have hb1 := born2d hc hw1; obtain ⟨ca, hga, cd, hgd, hlt, hc⟩ := hb1) | (have hb1 := born2 hc hw1; obtain ⟨ca, hga, cd, hgd, hlt, hc⟩ := hb1)); (try have c0ana := nelt c0az hga); (try have c0anc := nelt c0az hgd); (try have c0bna := nelt c0bz hga); (try have c0bnc := nelt c0bz hgd); (try have hna := nelt hlt zd)) | (go_at_call 97; (first | with_reducible refine (HB2.out _ hc).mono ?_ | with_reducible refine (HB2.out _ (bthen hc (balloc1 _ _))).mono ?_ | with_reducible refine (HB2.out _ (bthen hc (balloc2 _ _ _))).mono ?_ | with_reducible refine (HB2.out _ (bthen (balloc1 _ _) (bdrew0 _))).mono ?_ | with_reducible refine (HB2.out _ (bthen (balloc2 _ _ _) (bdrew0 _))).mono ?_); rintro e w2 ⟨rfl, hw2⟩; (first | have c0a := c0a.ya hw2 | have c0a := c0a.yb hw2 | have c0a := c0a.yc hw2); (try clear c0aq0 c0aq1); obtain ⟨c0aq0, c0aq1⟩ := c0a.c2; (try clear c0al); have c0al := c0a.lt; (first | have c0b := c0b.ya hw2 | have c0b := c0b.yb hw2 | have c0b := c0b.yc hw2); (try clear c0bq0 c0bq1); obtain ⟨c0bq0, c0bq1⟩ := c0b.c2; (try clear c0bl); have c0bl := c0b.lt; (try have hl0 := ca.lt); (try (first | have ca := ca.below hw2 ca.lt | have ca := (ca.alloc _).below hw2 (ca.alloc _).lt)); (try (first | have cd := cd.below hw2 cd.lt | have cd := (cd.alloc _).below hw2 (cd.alloc _).lt)); (first | have hc := bthen hc hw2 | (have hlt := hl0; have hb1 := born1 hc hw2; obtain ⟨cd, hgd, hc⟩ := hb1) | (have hb1 := born1d hc hw2; obtain ⟨ca, hga, hc⟩ := hb1) | (have hb1 := born1 hc hw2; obtain ⟨ca, hga, hc⟩ := hb1) | (have hb1 := born2d hc hw2; obtain ⟨ca, hga, cd, hgd, hlt, hc⟩ := hb1) | (have hb1 := born2 hc hw2; obtain ⟨ca, hga, cd, hgd, hlt, hc⟩ := hb1)); (try have c0ana := nelt c0az hga); (try have c0anc := nelt c0az hgd); (try have c0bna := nelt c0bz hga); (try have c0bnc := nelt c0bz hgd); (try have hna := nelt hlt zd); (try (have cal := ca.lt; obtain ⟨caq0, caq1, caq2, caq3, caq4, caf0, caf1, caf2, caf3, caf4, cas0, cas1, cas2, cas3, cas4⟩ := ca.f5)); (try (have cdl := cd.lt; obtain ⟨cdq0, cdq1, cdq2, cdq3, cdq4, cdf0, cdf1, cdf2, cdf3, cdf4, cds0, cds1, cds2, cds3, cds4⟩ := cd.f5))))
  all_goals
   go_wp2
   go_meet
   have hcs := hc.size
   first
    | with_reducible exact twoL hc
    | with_reducible exact twoLs hc
    | with_reducible exact twoM5 hc ca hga
    | with_reducible exact (twoM5 hc ca hga).to
    |(with_reducible refine two55 hc ca cd ?_ ?_ ?_) <;> omega
    |(with_reducible refine two55 hc cd ca ?_ ?_ ?_) <;> omega
    |(with_reducible refine (two55 hc ca cd ?_ ?_ ?_).to) <;> omega
    |(with_reducible refine (two55 hc cd ca ?_ ?_ ?_).to) <;> omega
 case rest =>
  obtain ⟨g7, g8, rfl, rfl, hne, h7, h8, b7, b8, hbc⟩ := hcut
  have b0a := b0a.below hbc b0a.lt
  have b0b := b0b.below hbc b0b.lt
  have b0c := b0c.below hbc b0c.lt
  have b2c := b2c.below hbc b2c.lt
  have b1 := b1.below hbc b1.lt
  have b2 := b2.below hbc b2.lt
  have b3 := b3.below hbc b3.lt
  have b4 := b4.below hbc b4.lt
  have hB2 := bthen hB hbc
  have hl1 := b1.lt
  rename World => wc
  clear HB1 HB2
  rcases hh with rfl | rfl | rfl
  ·have er : (if y < x then y else x) = r := by rw [<- HR.out]; rfl
   have hmn := frac_min x y wc (HX.out.mono (by omega)) (HY.out.mono (by omega))
   rw [er] at hmn
   unfold qV at hmn
   have HM := lh hmn
   clear hmn er HR
   obtain ⟨b7q0, b7q1, b7q2, b7q3, b7q4⟩ := b7.c5; obtain ⟨b8q0, b8q1, b8q2, b8q3, b8q4⟩ := b8.c5; obtain ⟨b2q0, b2q1, b2q2, b2q3⟩ := b2.c4
   go_wp2_with fail
   refine HM.out.mono ?_
   rintro e w1 ⟨rfl, hw1⟩
   have b1 := b1.below hw1 b1.lt
   have hB3 := bthen hB2 hw1
   obtain ⟨b1q0, b1q1, b1q2, b1q3, b1q4, b1f0, b1f1, b1f2, b1f3, b1f4, b1s0, b1s1, b1s2, b1s3, b1s4⟩ := b1.f5
   go_wp2
   refine bodyPost_ret (v := .agg #[.bool (decide (r.num < 0)), .int .u64 (lo r.num.natAbs : Int), .string (mo r.num.natAbs), .int .u64 (lo ((qden r)) : Int), .string (mo ((qden r)))]) (by simp [results, Tryz.results98, go_sem, b1s0, b1s1, b1s2, b1s3, b1s4]) rfl ?_
   exact ⟨rfl, bset5 hB3 (by omega) _ _ _ _ _⟩
  ·have er : (if x < y then y else x) = r := by rw [<- HR.out]; rfl
   have hmn := frac_max x y wc (HX.out.mono (by omega)) (HY.out.mono (by omega))
   rw [er] at hmn
   unfold qV at hmn
   have HM := lh hmn
   clear hmn er HR
   obtain ⟨b7q0, b7q1, b7q2, b7q3, b7q4⟩ := b7.c5; obtain ⟨b8q0, b8q1, b8q2, b8q3, b8q4⟩ := b8.c5; obtain ⟨b2q0, b2q1, b2q2, b2q3⟩ := b2.c4
   go_wp2_with fail
   refine HM.out.mono ?_
   rintro e w1 ⟨rfl, hw1⟩
   have b1 := b1.below hw1 b1.lt
   have hB3 := bthen hB2 hw1
   obtain ⟨b1q0, b1q1, b1q2, b1q3, b1q4, b1f0, b1f1, b1f2, b1f3, b1f4, b1s0, b1s1, b1s2, b1s3, b1s4⟩ := b1.f5
   go_wp2
   refine bodyPost_ret (v := .agg #[.bool (decide (r.num < 0)), .int .u64 (lo r.num.natAbs : Int), .string (mo r.num.natAbs), .int .u64 (lo ((qden r)) : Int), .string (mo ((qden r)))]) (by simp [results, Tryz.results98, go_sem, b1s0, b1s1, b1s2, b1s3, b1s4]) rfl ?_
   exact ⟨rfl, bset5 hB3 (by omega) _ _ _ _ _⟩
  have er : (x * ((za : Int) : Rat) + y * ((zb : Int) : Rat)) / ((S : Int) : Rat) = r := by
   rw [<- HR.out, HS.out]
   unfold mergedQ
   rw [if_neg (by omega), if_neg (by omega)]
   rfl
  have hS0 : ((S : Int) : Rat) ≠ 0 := by
   rw [HS.out]
   intro e
   have e2 : ((za + zb : Nat) : Int) = 0 := by exact_mod_cast e
   omega
  have hS1 : -9223372036854775808 <= S /\ S <= 9223372036854775807 := by rw [HS.out]; omega
  have qa : QS 10 ((za : Int) : Rat) := by
   have h := QS.nat (k := 10) (n := za) (by omega) (by omega)
   exact_mod_cast h
  have qb : QS 10 ((zb : Int) : Rat) := by
   have h := QS.nat (k := 10) (n := zb) (by omega) (by omega)
   exact_mod_cast h
  have qs : QS 11 ((S : Int) : Rat) := by
   rw [HS.out]
   have h := QS.nat (k := 11) (n := za + zb) (by omega) (by omega)
   exact_mod_cast h
  have hoa := fun w => frac_of (za : Int) w (by omega) (by omega)
  have hob := fun w => frac_of (zb : Int) w (by omega) (by omega)
  have hos := fun w => frac_of S w hS1.1 hS1.2
  generalize ((za : Int) : Rat) = ra at *
  generalize ((zb : Int) : Rat) = rb at *
  generalize ((S : Int) : Rat) = rs at *
  have hma := fun w (hT : Tab w) => frac_mul x ra w (HX.out.mono (by omega)) (qa.mono (by omega)) hT
  have hmb := fun w (hT : Tab w) => frac_mul y rb w (HY.out.mono (by omega)) (qb.mono (by omega)) hT
  have q1 := HX.out.mul qa
  have q2 := HY.out.mul qb
  generalize x * ra = p at *
  generalize y * rb = q at *
  have had := fun w (hT : Tab w) => frac_add p q w (q1.mono (by omega)) (q2.mono (by omega)) hT
  have q3 := q1.add q2
  generalize p + q = s at *
  have hdv := fun w (hT : Tab w) => frac_div s rs w (q3.mono (by omega)) (qs.mono (by omega)) hS0 hT
  rw [er] at hdv
  unfold qV at hoa hob hos hma hmb had hdv
  have HOA := lh hoa
  have HOB := lh hob
  have HOS := lh hos
  have HMA := lh hma
  have HMB := lh hmb
  have HAD := lh had
  have HDV := lh hdv
  have tT := HT.out.next hB2
  have k1 : (A : Int) < (n : Int) := by omega
  have k2 : (B : Int) < (n : Int) := by omega
  have k3 : ¬ (A : Int) < 0 := by omega
  have k4 : ¬ (B : Int) < 0 := by omega
  clear hoa hob hos hma hmb had hdv q1 q2 q3 qa qb qs er hS0 hS1 HR HX HY
  obtain ⟨b2q0, b2q1, b2q2, b2q3⟩ := b2.c4
  go_upto_region 7 with fail
  go_cut [9] (fun v w2 => Born wc 56 #[.bool (decide (s.num < 0)), .int .u64 (lo s.num.natAbs : Int), .string (mo s.num.natAbs), .int .u64 (lo ((qden s)) : Int), .string (mo ((qden s)))] v w2)
  case first =>
   clear hw hm hm1 hi sa sb hpos HS HT hB2 hZ hne h7 h8 hbc hl1 b1 b2 b2q0 b2q1 b2q2 b2q3 HOS HDV b0c hB
   obtain ⟨b0aq0, b0aq1⟩ := b0a.c2; have c0az := b0a.lt; have c0a := b0a.drew; have c0al := c0a.lt; obtain ⟨b0bq0, b0bq1⟩ := b0b.c2; have c0bz := b0b.lt; have c0b := b0b.drew; have c0bl := c0b.lt; obtain ⟨b2cq0, b2cq1⟩ := b2c.c2; have c2cz := b2c.lt; have c2c := b2c.drew; have c2cl := c2c.lt; obtain ⟨b3q0, b3q1⟩ := b3.c2; have c3z := b3.lt; have c3 := b3.drew; have c3l := c3.lt; obtain ⟨b4q0, b4q1⟩ := b4.c2; have c4z := b4.lt; have c4 := b4.drew; have c4l := c4.lt; obtain ⟨b7q0, b7q1, b7q2, b7q3, b7q4⟩ := b7.c5; have c7z := b7.lt; have c7 := b7.drew; have c7l := c7.lt; obtain ⟨b8q0, b8q1, b8q2, b8q3, b8q4⟩ := b8.c5; have c8z := b8.lt; have c8 := b8.drew; have c8l := c8.lt; have hc := bdrew0 wc; have tT : Tab wc.drew := tT; go_region_held3 (fun w' => w'.cell? ⟨w.heap.size, 0, none⟩ = some (.int .i64 (A : Int)) /\ w'.cell? ⟨w.heap.size, 1, none⟩ = some (.int .i64 (B : Int)) /\ w'.cell? ⟨g, 2, none⟩ = some (.slice (some ⟨gs, 0, none⟩) n cs) /\ w'.cell? ⟨gs, A, none⟩ = some (.int .i64 (za : Int)) /\ w'.cell? ⟨gs, B, none⟩ = some (.int .i64 (zb : Int)) /\ w'.cell? ⟨g7, 0, none⟩ = some (.bool (decide (x.num < 0))) /\ w'.cell? ⟨g7, 1, none⟩ = some (.int .u64 (lo x.num.natAbs : Int)) /\ w'.cell? ⟨g7, 2, none⟩ = some (.string (mo x.num.natAbs)) /\ w'.cell? ⟨g7, 3, none⟩ = some (.int .u64 (lo ((qden x)) : Int)) /\ w'.cell? ⟨g7, 4, none⟩ = some (.string (mo ((qden x)))) /\ w'.cell? ⟨g8, 0, none⟩ = some (.bool (decide (y.num < 0))) /\ w'.cell? ⟨g8, 1, none⟩ = some (.int .u64 (lo y.num.natAbs : Int)) /\ w'.cell? ⟨g8, 2, none⟩ = some (.string (mo y.num.natAbs)) /\ w'.cell? ⟨g8, 3, none⟩ = some (.int .u64 (lo ((qden y)) : Int)) /\ w'.cell? ⟨g8, 4, none⟩ = some (.string (mo ((qden y))))) (go_keep) (first | (go_at_call 38; (with_reducible refine (HOA.out _).mono ?_); rintro e w1 ⟨rfl, hw1⟩; (first | have c0a := c0a.ya hw1 | have c0a := c0a.yb hw1 | have c0a := c0a.yc hw1); (try clear c0aq0 c0aq1); obtain ⟨c0aq0, c0aq1⟩ := c0a.c2; (try clear c0al); have c0al := c0a.lt; (first | have c0b := c0b.ya hw1 | have c0b := c0b.yb hw1 | have c0b := c0b.yc hw1); (try clear c0bq0 c0bq1); obtain ⟨c0bq0, c0bq1⟩ := c0b.c2; (try clear c0bl); have c0bl := c0b.lt; (first | have c2c := c2c.ya hw1 | have c2c := c2c.yb hw1 | have c2c := c2c.yc hw1); (try clear c2cq0 c2cq1); obtain ⟨c2cq0, c2cq1⟩ := c2c.c2; (try clear c2cl); have c2cl := c2c.lt; (first | have c3 := c3.ya hw1 | have c3 := c3.yb hw1 | have c3 := c3.yc hw1); (try clear c3q0 c3q1); obtain ⟨c3q0, c3q1⟩ := c3.c2; (try clear c3l); have c3l := c3.lt; (first | have c4 := c4.ya hw1 | have c4 := c4.yb hw1 | have c4 := c4.yc hw1); (try clear c4q0 c4q1); obtain ⟨c4q0, c4q1⟩ := c4.c2; (try clear c4l); have c4l := c4.lt; (first | have c7 := c7.ya hw1 | have c7 := c7.yb hw1 | have c7 := c7.yc hw1); (try clear c7q0 c7q1 c7q2 c7q3 c7q4); obtain ⟨c7q0, c7q1, c7q2, c7q3, c7q4⟩ := c7.c5; (try clear c7l); have c7l := c7.lt; (first | have c8 := c8.ya hw1 | have c8 := c8.yb hw1 | have c8 := c8.yc hw1); (try clear c8q0 c8q1 c8q2 c8q3 c8q4); obtain ⟨c8q0, c8q1, c8q2, c8q3, c8q4⟩ := c8.c5; (try clear c8l); have c8l := c8.lt; (try (first | have ca := ca.below hw1 ca.lt | have ca := (ca.alloc _).below hw1 (ca.alloc _).lt)); (first | have tT := tT.next hw1 | have tT := (tT.next (balloc1 _ _)).next hw1 | have tT := (tT.next (balloc2 _ _ _)).next hw1); (first | have hc := bthen hc hw1 | (have hb1 := born1d hc hw1; obtain ⟨ca, hga, hc⟩ := hb1) | (have hb1 := born1 hc hw1; obtain ⟨ca, hga, hc⟩ := hb1)); (try have c0ana := nelt c0az hga); (try have c0bna := nelt c0bz hga); (try have c2cna := nelt c2cz hga); (try have c3na := nelt c3z hga); (try have c4na := nelt c4z hga); (try have c7na := nelt c7z hga); (try have c8na := nelt c8z hga)) | (go_at_call 38; (with_reducible refine (HOB.out _).mono ?_); rintro e w2 ⟨rfl, hw2⟩; (first | have c0a := c0a.ya hw2 | have c0a := c0a.yb hw2 | have c0a := c0a.yc hw2); (try clear c0aq0 c0aq1); obtain ⟨c0aq0, c0aq1⟩ := c0a.c2; (try clear c0al); have c0al := c0a.lt; (first | have c0b := c0b.ya hw2 | have c0b := c0b.yb hw2 | have c0b := c0b.yc hw2); (try clear c0bq0 c0bq1); obtain ⟨c0bq0, c0bq1⟩ := c0b.c2; (try clear c0bl); have c0bl := c0b.lt; (first | have c2c := c2c.ya hw2 | have c2c := c2c.yb hw2 | have c2c := c2c.yc hw2); (try clear c2cq0 c2cq1); obtain ⟨c2cq0, c2cq1⟩ := c2c.c2; (try clear c2cl); have c2cl := c2c.lt; (first | have c3 := c3.ya hw2 | have c3 := c3.yb hw2 | have c3 := c3.yc hw2); (try clear c3q0 c3q1); obtain ⟨c3q0, c3q1⟩ := c3.c2; (try clear c3l); have c3l := c3.lt; (first | have c4 := c4.ya hw2 | have c4 := c4.yb hw2 | have c4 := c4.yc hw2); (try clear c4q0 c4q1); obtain ⟨c4q0, c4q1⟩ := c4.c2; (try clear c4l); have c4l := c4.lt; (first | have c7 := c7.ya hw2 | have c7 := c7.yb hw2 | have c7 := c7.yc hw2); (try clear c7q0 c7q1 c7q2 c7q3 c7q4); obtain ⟨c7q0, c7q1, c7q2, c7q3, c7q4⟩ := c7.c5; (try clear c7l); have c7l := c7.lt; (first | have c8 := c8.ya hw2 | have c8 := c8.yb hw2 | have c8 := c8.yc hw2); (try clear c8q0 c8q1 c8q2 c8q3 c8q4); obtain ⟨c8q0, c8q1, c8q2, c8q3, c8q4⟩ := c8.c5; (try clear c8l); have c8l := c8.lt; (try (first | have ca := ca.below hw2 ca.lt | have ca := (ca.alloc _).below hw2 (ca.alloc _).lt)); (first | have tT := tT.next hw2 | have tT := (tT.next (balloc1 _ _)).next hw2 | have tT := (tT.next (balloc2 _ _ _)).next hw2); (first | have hc := bthen hc hw2 | (have hb1 := born1d hc hw2; obtain ⟨ca, hga, hc⟩ := hb1) | (have hb1 := born1 hc hw2; obtain ⟨ca, hga, hc⟩ := hb1)); (try have c0ana := nelt c0az hga); (try have c0bna := nelt c0bz hga); (try have c2cna := nelt c2cz hga); (try have c3na := nelt c3z hga); (try have c4na := nelt c4z hga); (try have c7na := nelt c7z hga); (try have c8na := nelt c8z hga)) | (go_at_call 37; (first | with_reducible refine (HMA.out _ tT).mono ?_ | with_reducible refine (HMA.out _ (tT.next (balloc1 _ _))).mono ?_ | with_reducible refine (HMA.out _ (tT.next (balloc2 _ _ _))).mono ?_); rintro e w3 ⟨rfl, hw3⟩; (first | have c0a := c0a.ya hw3 | have c0a := c0a.yb hw3 | have c0a := c0a.yc hw3); (try clear c0aq0 c0aq1); obtain ⟨c0aq0, c0aq1⟩ := c0a.c2; (try clear c0al); have c0al := c0a.lt; (first | have c0b := c0b.ya hw3 | have c0b := c0b.yb hw3 | have c0b := c0b.yc hw3); (try clear c0bq0 c0bq1); obtain ⟨c0bq0, c0bq1⟩ := c0b.c2; (try clear c0bl); have c0bl := c0b.lt; (first | have c2c := c2c.ya hw3 | have c2c := c2c.yb hw3 | have c2c := c2c.yc hw3); (try clear c2cq0 c2cq1); obtain ⟨c2cq0, c2cq1⟩ := c2c.c2; (try clear c2cl); have c2cl := c2c.lt; (first | have c3 := c3.ya hw3 | have c3 := c3.yb hw3 | have c3 := c3.yc hw3); (try clear c3q0 c3q1); obtain ⟨c3q0, c3q1⟩ := c3.c2; (try clear c3l); have c3l := c3.lt; (first | have c4 := c4.ya hw3 | have c4 := c4.yb hw3 | have c4 := c4.yc hw3); (try clear c4q0 c4q1); obtain ⟨c4q0, c4q1⟩ := c4.c2; (try clear c4l); have c4l := c4.lt; (first | have c7 := c7.ya hw3 | have c7 := c7.yb hw3 | have c7 := c7.yc hw3); (try clear c7q0 c7q1 c7q2 c7q3 c7q4); obtain ⟨c7q0, c7q1, c7q2, c7q3, c7q4⟩ := c7.c5; (try clear c7l); have c7l := c7.lt; (first | have c8 := c8.ya hw3 | have c8 := c8.yb hw3 | have c8 := c8.yc hw3); (try clear c8q0 c8q1 c8q2 c8q3 c8q4); obtain ⟨c8q0, c8q1, c8q2, c8q3, c8q4⟩ := c8.c5; (try clear c8l); have c8l := c8.lt; (try (first | have ca := ca.below hw3 ca.lt | have ca := (ca.alloc _).below hw3 (ca.alloc _).lt)); (first | have tT := tT.next hw3 | have tT := (tT.next (balloc1 _ _)).next hw3 | have tT := (tT.next (balloc2 _ _ _)).next hw3); (first | have hc := bthen hc hw3 | (have hb1 := born1d hc hw3; obtain ⟨ca, hga, hc⟩ := hb1) | (have hb1 := born1 hc hw3; obtain ⟨ca, hga, hc⟩ := hb1)); (try have c0ana := nelt c0az hga); (try have c0bna := nelt c0bz hga); (try have c2cna := nelt c2cz hga); (try have c3na := nelt c3z hga); (try have c4na := nelt c4z hga); (try have c7na := nelt c7z hga); (try have c8na := nelt c8z hga)) | (go_at_call 37; (first | with_reducible refine (HMB.out _ tT).mono ?_ | with_reducible refine (HMB.out _ (tT.next (balloc1 _ _))).mono ?_ | with_reducible refine (HMB.out _ (tT.next (balloc2 _ _ _))).mono ?_); rintro e w4 ⟨rfl, hw4⟩; (first | have c0a := c0a.ya hw4 | have c0a := c0a.yb hw4 | have c0a := c0a.yc hw4); (try clear c0aq0 c0aq1); obtain ⟨c0aq0, c0aq1⟩ := c0a.c2; (try clear c0al); have c0al := c0a.lt; (first | have c0b := c0b.ya hw4 | have c0b := c0b.yb hw4 | have c0b := c0b.yc hw4); (try clear c0bq0 c0bq1); obtain ⟨c0bq0, c0bq1⟩ := c0b.c2; (try clear c0bl); have c0bl := c0b.lt; (first | have c2c := c2c.ya hw4 | have c2c := c2c.yb hw4 | have c2c := c2c.yc hw4); (try clear c2cq0 c2cq1); obtain ⟨c2cq0, c2cq1⟩ := c2c.c2; (try clear c2cl); have c2cl := c2c.lt; (first | have c3 := c3.ya hw4 | have c3 := c3.yb hw4 | have c3 := c3.yc hw4); (try clear c3q0 c3q1); obtain ⟨c3q0, c3q1⟩ := c3.c2; (try clear c3l); have c3l := c3.lt; (first | have c4 := c4.ya hw4 | have c4 := c4.yb hw4 | have c4 := c4.yc hw4); (try clear c4q0 c4q1); obtain ⟨c4q0, c4q1⟩ := c4.c2; (try clear c4l); have c4l := c4.lt; (first | have c7 := c7.ya hw4 | have c7 := c7.yb hw4 | have c7 := c7.yc hw4); (try clear c7q0 c7q1 c7q2 c7q3 c7q4); obtain ⟨c7q0, c7q1, c7q2, c7q3, c7q4⟩ := c7.c5; (try clear c7l); have c7l := c7.lt; (first | have c8 := c8.ya hw4 | have c8 := c8.yb hw4 | have c8 := c8.yc hw4); (try clear c8q0 c8q1 c8q2 c8q3 c8q4); obtain ⟨c8q0, c8q1, c8q2, c8q3, c8q4⟩ := c8.c5; (try clear c8l); have c8l := c8.lt; (try (first | have ca := ca.below hw4 ca.lt | have ca := (ca.alloc _).below hw4 (ca.alloc _).lt)); (first | have tT := tT.next hw4 | have tT := (tT.next (balloc1 _ _)).next hw4 | have tT := (tT.next (balloc2 _ _ _)).next hw4); (first | have hc := bthen hc hw4 | (have hb1 := born1d hc hw4; obtain ⟨ca, hga, hc⟩ := hb1) | (have hb1 := born1 hc hw4; obtain ⟨ca, hga, hc⟩ := hb1)); (try have c0ana := nelt c0az hga); (try have c0bna := nelt c0bz hga); (try have c2cna := nelt c2cz hga); (try have c3na := nelt c3z hga); (try have c4na := nelt c4z hga); (try have c7na := nelt c7z hga); (try have c8na := nelt c8z hga)) | (go_at_call 124; (first | with_reducible refine (HAD.out _ tT).mono ?_ | with_reducible refine (HAD.out _ (tT.next (balloc1 _ _))).mono ?_ | with_reducible refine (HAD.out _ (tT.next (balloc2 _ _ _))).mono ?_); rintro e w5 ⟨rfl, hw5⟩; (first | have c0a := c0a.ya hw5 | have c0a := c0a.yb hw5 | have c0a := c0a.yc hw5); (try clear c0aq0 c0aq1); obtain ⟨c0aq0, c0aq1⟩ := c0a.c2; (try clear c0al); have c0al := c0a.lt; (first | have c0b := c0b.ya hw5 | have c0b := c0b.yb hw5 | have c0b := c0b.yc hw5); (try clear c0bq0 c0bq1); obtain ⟨c0bq0, c0bq1⟩ := c0b.c2; (try clear c0bl); have c0bl := c0b.lt; (first | have c2c := c2c.ya hw5 | have c2c := c2c.yb hw5 | have c2c := c2c.yc hw5); (try clear c2cq0 c2cq1); obtain ⟨c2cq0, c2cq1⟩ := c2c.c2; (try clear c2cl); have c2cl := c2c.lt; (first | have c3 := c3.ya hw5 | have c3 := c3.yb hw5 | have c3 := c3.yc hw5); (try clear c3q0 c3q1); obtain ⟨c3q0, c3q1⟩ := c3.c2; (try clear c3l); have c3l := c3.lt; (first | have c4 := c4.ya hw5 | have c4 := c4.yb hw5 | have c4 := c4.yc hw5); (try clear c4q0 c4q1); obtain ⟨c4q0, c4q1⟩ := c4.c2; (try clear c4l); have c4l := c4.lt; (first | have c7 := c7.ya hw5 | have c7 := c7.yb hw5 | have c7 := c7.yc hw5); (try clear c7q0 c7q1 c7q2 c7q3 c7q4); obtain ⟨c7q0, c7q1, c7q2, c7q3, c7q4⟩ := c7.c5; (try clear c7l); have c7l := c7.lt; (first | have c8 := c8.ya hw5 | have c8 := c8.yb hw5 | have c8 := c8.yc hw5); (try clear c8q0 c8q1 c8q2 c8q3 c8q4); obtain ⟨c8q0, c8q1, c8q2, c8q3, c8q4⟩ := c8.c5; (try clear c8l); have c8l := c8.lt; (try (first | have ca := ca.below hw5 ca.lt | have ca := (ca.alloc _).below hw5 (ca.alloc _).lt)); (first | have hc := bthen hc hw5 | (have hb1 := born1d hc hw5; obtain ⟨ca, hga, hc⟩ := hb1) | (have hb1 := born1 hc hw5; obtain ⟨ca, hga, hc⟩ := hb1)); (try have c0ana := nelt c0az hga); (try have c0bna := nelt c0bz hga); (try have c2cna := nelt c2cz hga); (try have c3na := nelt c3z hga); (try have c4na := nelt c4z hga); (try have c7na := nelt c7z hga); (try have c8na := nelt c8z hga); (try (have cal := ca.lt; obtain ⟨caq0, caq1, caq2, caq3, caq4, caf0, caf1, caf2, caf3, caf4, cas0, cas1, cas2, cas3, cas4⟩ := ca.f5))))
   all_goals
    go_wp2
    go_meet
    (first | with_reducible exact one5 hc ca hga | with_reducible exact oneN hc | with_reducible exact one5 (bthen hc (balloc1 _ _)) (Blk.new _ _ _) hc.size)
  case rest =>
   obtain ⟨g9, rfl, h9, b9, hb9⟩ := hcut
   rename World => w2
   have b0c := b0c.below hb9 b0c.lt
   have b1 := b1.below hb9 b1.lt
   have tT := tT.next hb9
   have hB3 := bthen hB2 hb9
   have hl1 := b1.lt
   clear HOA HOB HMA HMB HAD b3 b4 b7 b8 b0a b0b b2c
   go_upto_region 8 with fail
   go_cut [10] (fun v w3 => Born w2 56 #[.bool (decide (r.num < 0)), .int .u64 (lo r.num.natAbs : Int), .string (mo r.num.natAbs), .int .u64 (lo ((qden r)) : Int), .string (mo ((qden r)))] v w3)
   case first =>
    clear hw hm hm1 hi sa sb hpos HS HT hB2 hB3 hZ hne h7 h8 hbc hl1 b1 hB
    obtain ⟨b0cq0, b0cq1⟩ := b0c.c2; have c0cz := b0c.lt; have c0c := b0c.drew; have c0cl := c0c.lt; obtain ⟨b9q0, b9q1, b9q2, b9q3, b9q4⟩ := b9.c5; have c9z := b9.lt; have c9 := b9.drew; have c9l := c9.lt; have hc := bdrew0 w2; have tT : Tab w2.drew := tT; go_region_held3 (fun w' => w'.cell? ⟨w.heap.size, 2, none⟩ = some (.int .i64 S) /\ w'.cell? ⟨g9, 0, none⟩ = some (.bool (decide (s.num < 0))) /\ w'.cell? ⟨g9, 1, none⟩ = some (.int .u64 (lo s.num.natAbs : Int)) /\ w'.cell? ⟨g9, 2, none⟩ = some (.string (mo s.num.natAbs)) /\ w'.cell? ⟨g9, 3, none⟩ = some (.int .u64 (lo ((qden s)) : Int)) /\ w'.cell? ⟨g9, 4, none⟩ = some (.string (mo ((qden s))))) (go_keep) (first | (go_at_call 38; (with_reducible refine (HOS.out _).mono ?_); rintro e w1 ⟨rfl, hw1⟩; (first | have c0c := c0c.ya hw1 | have c0c := c0c.yb hw1 | have c0c := c0c.yc hw1); (try clear c0cq0 c0cq1); obtain ⟨c0cq0, c0cq1⟩ := c0c.c2; (try clear c0cl); have c0cl := c0c.lt; (first | have c9 := c9.ya hw1 | have c9 := c9.yb hw1 | have c9 := c9.yc hw1); (try clear c9q0 c9q1 c9q2 c9q3 c9q4); obtain ⟨c9q0, c9q1, c9q2, c9q3, c9q4⟩ := c9.c5; (try clear c9l); have c9l := c9.lt; (try (first | have ca := ca.below hw1 ca.lt | have ca := (ca.alloc _).below hw1 (ca.alloc _).lt)); (first | have tT := tT.next hw1 | have tT := (tT.next (balloc1 _ _)).next hw1 | have tT := (tT.next (balloc2 _ _ _)).next hw1); (first | have hc := bthen hc hw1 | (have hb1 := born1d hc hw1; obtain ⟨ca, hga, hc⟩ := hb1) | (have hb1 := born1 hc hw1; obtain ⟨ca, hga, hc⟩ := hb1)); (try have c0cna := nelt c0cz hga); (try have c9na := nelt c9z hga)) | (go_at_call 87; (first | with_reducible refine (HDV.out _ tT).mono ?_ | with_reducible refine (HDV.out _ (tT.next (balloc1 _ _))).mono ?_ | with_reducible refine (HDV.out _ (tT.next (balloc2 _ _ _))).mono ?_); rintro e w2 ⟨rfl, hw2⟩; (first | have c0c := c0c.ya hw2 | have c0c := c0c.yb hw2 | have c0c := c0c.yc hw2); (try clear c0cq0 c0cq1); obtain ⟨c0cq0, c0cq1⟩ := c0c.c2; (try clear c0cl); have c0cl := c0c.lt; (first | have c9 := c9.ya hw2 | have c9 := c9.yb hw2 | have c9 := c9.yc hw2); (try clear c9q0 c9q1 c9q2 c9q3 c9q4); obtain ⟨c9q0, c9q1, c9q2, c9q3, c9q4⟩ := c9.c5; (try clear c9l); have c9l := c9.lt; (try (first | have ca := ca.below hw2 ca.lt | have ca := (ca.alloc _).below hw2 (ca.alloc _).lt)); (first | have hc := bthen hc hw2 | (have hb1 := born1d hc hw2; obtain ⟨ca, hga, hc⟩ := hb1) | (have hb1 := born1 hc hw2; obtain ⟨ca, hga, hc⟩ := hb1)); (try have c0cna := nelt c0cz hga); (try have c9na := nelt c9z hga); (try (have cal := ca.lt; obtain ⟨caq0, caq1, caq2, caq3, caq4, caf0, caf1, caf2, caf3, caf4, cas0, cas1, cas2, cas3, cas4⟩ := ca.f5))))
    all_goals
     go_wp2
     go_meet
     (first | with_reducible exact one5 hc ca hga | with_reducible exact oneN hc | with_reducible exact one5 (bthen hc (balloc1 _ _)) (Blk.new _ _ _) hc.size)
   case rest =>
    obtain ⟨g10, rfl, h10, b10, hb10⟩ := hcut
    rename World => w3
    have b1 := b1.below hb10 b1.lt
    have hB4 := bthen hB3 hb10
    have ne1 : ¬ g10 = w.heap.size + 1 := by omega
    have ne2 : ¬ w.heap.size + 1 = g10 := by omega
    clear HOS HDV b0c b9
    obtain ⟨b10q0, b10q1, b10q2, b10q3, b10q4⟩ := b10.c5
    obtain ⟨b1q0, b1q1, b1q2, b1q3, b1q4, b1f0, b1f1, b1f2, b1f3, b1f4, b1s0, b1s1, b1s2, b1s3, b1s4⟩ := b1.f5
    go_wp2
    refine bodyPost_ret (v := .agg #[.bool (decide (r.num < 0)), .int .u64 (lo r.num.natAbs : Int), .string (mo r.num.natAbs), .int .u64 (lo ((qden r)) : Int), .string (mo ((qden r)))]) (by simp [results, Tryz.results98, go_sem, b1s0, b1s1, b1s2, b1s3, b1s4]) rfl ?_
    exact ⟨rfl, bset5 hB4 (by omega) _ _ _ _ _⟩
theorem Blk.q8 {w : World} {g : Nat} {t : TypeId} {a b c d e x y z : Value} (h : Blk w g t #[a, b, c, d, e, x, y, z]) : w.frozen? ⟨g, 0, none⟩ = false /\ w.frozen? ⟨g, 1, none⟩ = false /\ w.frozen? ⟨g, 2, none⟩ = false /\ w.frozen? ⟨g, 3, none⟩ = false /\ w.frozen? ⟨g, 4, none⟩ = false /\ w.frozen? ⟨g, 5, none⟩ = false /\ w.frozen? ⟨g, 6, none⟩ = false /\ w.frozen? ⟨g, 7, none⟩ = false :=
 ⟨h.frozen 0, h.frozen 1, h.frozen 2, h.frozen 3, h.frozen 4, h.frozen 5, h.frozen 6, h.frozen 7⟩
abbrev put8 (w : World) (g : Nat) (a b c d e x y z : Value) : World := (((((((w.setCell ⟨g, 0, none⟩ a).setCell ⟨g, 1, none⟩ b).setCell ⟨g, 2, none⟩ c).setCell ⟨g, 3, none⟩ d).setCell ⟨g, 4, none⟩ e).setCell ⟨g, 5, none⟩ x).setCell ⟨g, 6, none⟩ y).setCell ⟨g, 7, none⟩ z
theorem Blk.put8 {w : World} {g : Nat} {t : TypeId} {a b c d e x y z a' b' c' d' e' x' y' z' : Value} (h : Blk w g t #[a, b, c, d, e, x, y, z]) : Blk (put8 w g a' b' c' d' e' x' y' z') g t #[a', b', c', d', e', x', y', z'] := by
 have e1 := (((((((h.set_ 0 a').set_ 1 b').set_ 2 c').set_ 3 d').set_ 4 e').set_ 5 x').set_ 6 y').set_ 7 z'
 simpa using e1
theorem Blk.far8 {w : World} {g g' : Nat} {t : TypeId} {cs : Array Value} {a' b' c' d' e' x' y' z' : Value} (h : Blk w g t cs) (hne : g ≠ g') : Blk (Go.Proofs.YtecnjlcfoobepaaGreatDoor.put8 w g' a' b' c' d' e' x' y' z') g t cs :=
 (((((((h.far (p := ⟨g', 0, none⟩) hne a').far (p := ⟨g', 1, none⟩) hne b').far (p := ⟨g', 2, none⟩) hne c').far (p := ⟨g', 3, none⟩) hne d').far (p := ⟨g', 4, none⟩) hne e').far (p := ⟨g', 5, none⟩) hne x').far (p := ⟨g', 6, none⟩) hne y').far (p := ⟨g', 7, none⟩) hne z'
theorem Blk.far5' {w : World} {g g' i j k l m : Nat} {t : TypeId} {cs : Array Value} (h : Blk w g t cs) (hne : g ≠ g') (x y z u v : Value) : Blk (((((w.setCell ⟨g', i, none⟩ x).setCell ⟨g', j, none⟩ y).setCell ⟨g', k, none⟩ z).setCell ⟨g', l, none⟩ u).setCell ⟨g', m, none⟩ v) g t cs :=
 ((((h.far (p := ⟨g', i, none⟩) hne x).far (p := ⟨g', j, none⟩) hne y).far (p := ⟨g', k, none⟩) hne z).far (p := ⟨g', l, none⟩) hne u).far (p := ⟨g', m, none⟩) hne v
theorem bset8 {B g : Nat} {w w' : World} (h : Below B w w') (hg : B <= g) (a b c d e x y z : Value) : Below B w (put8 w' g a b c d e x y z) :=
 (((((((h.setCell hg a).setCell hg b).setCell hg c).setCell hg d).setCell hg e).setCell hg x).setCell hg y).setCell hg z
def optJ : Option (Nat × Nat × Rat) -> Jn
 | none => ⟨0, 0, 0, 0⟩
 | some (a, b, h) => ⟨a, b, 0, h⟩
def jA (j : Jn) : Array Value := #[.int .i64 j.a, .int .i64 j.b, .int .i64 j.size, .bool (decide (j.high.num < 0)), .int .u64 (lo j.high.num.natAbs : Int), .string (mo j.high.num.natAbs), .int .u64 (lo ((qden j.high)) : Int), .string (mo ((qden j.high)))]
def ScanRel (w : World) (g0 gj : Nat) (o : Option (Nat × Nat × Rat)) (f : Value) (wr : World) : Prop :=
 f = .bool o.isSome /\ Blk wr g0 58 (jA ⟨0, 0, 0, 0⟩) /\ Blk wr gj 58 (jA (optJ o)) /\ Below w.heap.size w wr
theorem alive_get {l : List Bool} {i : Nat} {x : Bool} (h : l[i]? = some x) : aliveL l i = !x := by
 unfold aliveL
 rw [List.getD_eq_getElem?_getD, h]
 rfl
theorem rowS_skip {al : Nat -> Bool} {D : Nat -> Nat -> Rat} {a l : Nat} {o o' : Option (Nat × Nat × Rat)} (h : rowS al D a o l = o') (hn : ¬ (a < l /\ al a = true /\ al l = true)) : rowS al D a o (l + 1) = o' := by
 show stepS al D a l (rowS al D a o l) = o'
 rw [h]
 unfold stepS
 rw [if_neg hn]
theorem rowS_none {al : Nat -> Bool} {D : Nat -> Nat -> Rat} {a l : Nat} {o : Option (Nat × Nat × Rat)} (h : rowS al D a o l = none) (hn : a < l /\ al a = true /\ al l = true) : rowS al D a o (l + 1) = some (a, l, D a l) := by
 show stepS al D a l (rowS al D a o l) = _
 rw [h]
 unfold stepS
 rw [if_pos hn]
theorem rowS_some {al : Nat -> Bool} {D : Nat -> Nat -> Rat} {a l x y : Nat} {q : Rat} {o : Option (Nat × Nat × Rat)} (h : rowS al D a o l = some (x, y, q)) (hn : a < l /\ al a = true /\ al l = true) : rowS al D a o (l + 1) = if D a l < q then some (a, l, D a l) else some (x, y, q) := by
 show stepS al D a l (rowS al D a o l) = _
 rw [h]
 unfold stepS
 rw [if_pos hn]
theorem rowS_in {al : Nat -> Bool} {D : Nat -> Nat -> Rat} {P : Rat -> Prop} (hP : ∀ a b, P (D a b)) {a : Nat} {o : Option (Nat × Nat × Rat)} (ho : ∀ x y q, o = some (x, y, q) -> P q) : ∀ l x y q, rowS al D a o l = some (x, y, q) -> P q := by
 intro l
 induction l with
 | zero => exact ho
 | succ l ih =>
  intro x y q h
  by_cases hn : a < l /\ al a = true /\ al l = true
  ·cases h0 : rowS al D a o l with
   | none =>
    rw [rowS_none h0 hn] at h
    cases h
    exact hP _ _
   | some t =>
    obtain ⟨x', y', q'⟩ := t
    rw [rowS_some h0 hn] at h
    split at h
    ·cases h
     exact hP _ _
    cases h
    exact ih _ _ _ h0
  rw [rowS_skip rfl hn] at h
  exact ih _ _ _ h
theorem scanS_in {al : Nat -> Bool} {D : Nat -> Nat -> Rat} {P : Rat -> Prop} (hP : ∀ a b, P (D a b)) {m : Nat} : ∀ k x y q, scanS al D m k = some (x, y, q) -> P q := by
 intro k
 induction k with
 | zero => intro x y q h; cases h
 | succ k ih => exact rowS_in hP ih m
theorem Own.putc {α : Type} {w : World} {e : TypeId} {f : α -> Value} {g n c : Nat} {l : List α} (h : Own w e f (.slice (some ⟨g, 0, none⟩) n c) l) (i : Nat) (x : α) : Own (w.setCell ⟨g, i, none⟩ (f x)) e f (.slice (some ⟨g, 0, none⟩) n c) (l.set i x) := by
 have hn : n = l.length := by
  obtain ⟨A', c', h4, _, _⟩ := Own.form h
  injection h4
 subst hn
 have hst := World.ownsRow.stored h i (f x)
 unfold Own
 rw [List.length_set, List.map_set]
 exact hst.1
theorem Own.frozenc {α : Type} {w : World} {e : TypeId} {f : α -> Value} {g n c : Nat} {l : List α} (h : Own w e f (.slice (some ⟨g, 0, none⟩) n c) l) (j : Nat) : w.frozen? ⟨g, j, none⟩ = false := by
 have hn : n = l.length := by
  obtain ⟨A', c', h4, _, _⟩ := Own.form h
  injection h4
 subst hn
 exact World.ownsRow.frozenAt h j
theorem TExc.grewS {β : Type} {T : TypeId} {I : World -> Value -> β -> Prop} {ts : List TypeId} {B : Nat} {w w' : World} {v v' : Value} {bl : List β} (h : Grew w w' v v') (ho : OwnS T I w v bl) (hm : T ∈ ts) (hB : ∀ b, v.ownBlock = some b -> B <= b) : TExc ts B w w' := by
 obtain ⟨rl, h1, _⟩ := ho
 exact TExc.grew1 h h1 hm hB
theorem TExc.wide {ts ts' : List TypeId} {B : Nat} {w w' : World} (h : TExc ts B w w') (hs : ∀ t ∈ ts, t ∈ ts') : TExc ts' B w w' :=
 ⟨h.os, h.tape, h.output, h.size, fun k hk hc => h.block k hk (by
  rcases hc with hc | ⟨cs, t, fr, h1, h2⟩
  ·exact .inl hc
  exact .inr ⟨cs, t, fr, h1, fun e => h2 (hs t e)⟩)⟩
theorem OwnS.form3 {β : Type} {T : TypeId} {I : World -> Value -> β -> Prop} {w : World} {v : Value} {bl : List β} (h : OwnS T I w v bl) : ∃ A n c, v = .slice A n c := by
 obtain ⟨A, c, e⟩ := h.form
 exact ⟨A, _, c, e⟩
theorem Own.form3 {α : Type} {w : World} {e : TypeId} {f : α -> Value} {v : Value} {l : List α} (h : Own w e f v l) : ∃ A n c, v = .slice A n c := by
 obtain ⟨A, c, e, -, -⟩ := h.form
 exact ⟨A, _, c, e⟩
abbrev joinTs : List TypeId := [107, 73, 3, 4]
structure JS (w : World) (L g how : Nat) (vf vs vg : Value) (far : List (List Rat)) (size : List Nat) (gone : List Bool) (g0 gj : Nat) (ja : Array Value) (wr : World) : Prop where
 cls : ClsAt wr g how vf vs vg ⟨far, size, gone⟩
 b0 : Blk wr g0 58 (jA ⟨0, 0, 0, 0⟩)
 bj : Blk wr gj 58 ja
 te : TExc joinTs L w wr
 lg : L <= g
 lf : ∀ b, vf.ownBlock = some b -> L <= b
 ls : ∀ b, vs.ownBlock = some b -> L <= b
 lo : ∀ b, vg.ownBlock = some b -> L <= b
section
variable {w wr w1 : World} {L g how g0 gj : Nat} {vf vs vg vf' vs' vg' : Value} {far : List (List Rat)} {size : List Nat} {gone : List Bool} {ja : Array Value}
theorem JS.blk (h : JS w L g how vf vs vg far size gone g0 gj ja wr) : Blk wr g 107 #[.int .i64 (how : Int), vf, vs, vg] := h.cls.blk
theorem grewL {v v' : Value} (hgr : Grew wr w1 v v') (hl : ∀ b, v.ownBlock = some b -> L <= b) (hw : L <= wr.heap.size) : ∀ b, v'.ownBlock = some b -> L <= b := by
 intro b hb
 rcases hgr.own b hb with h | h
 ·exact hl b h
 omega
theorem JS.next (h : JS w L g how vf vs vg far size gone g0 gj ja wr) (hb : Below wr.heap.size wr w1) : JS w L g how vf vs vg far size gone g0 gj ja w1 :=
 ⟨h.cls.next hb, h.b0.below hb h.b0.lt, h.bj.below hb h.bj.lt, h.te.trans (TExc.of hb), h.lg, h.lf, h.ls, h.lo⟩
theorem JS.put1 (h : Blk w1 g 107 #[.int .i64 (how : Int), vf, vs, vg]) (hL : L <= g) (i : Nat) (u : Value) : TExc [107] L w1 (w1.setCell ⟨g, i, none⟩ u) :=
 TExc.exc ((Exc.refl g w1).set_ i u) hL h (by simp)
theorem JS.far1 (h : JS w L g how vf vs vg far size gone g0 gj ja wr) (hgr : Grew wr w1 vf vf') : TExc [73] L wr w1 := TExc.grewS hgr h.cls.far (by simp) h.lf
theorem JS.addFar {row : List Rat} (h : JS w L g how vf vs vg far size gone g0 gj ja wr) (hgr : Grew wr w1 vf vf') (ho : OwnQQ w1 vf' (far ++ [row])) :
  JS w L g how vf' vs vg (far ++ [row]) size gone g0 gj ja (w1.setCell ⟨g, 1, none⟩ vf') := by
 have t1 := h.far1 hgr
 have c1 := h.cls.blk.texc t1 (by decide)
 have t2 := JS.put1 c1 h.lg 1 vf'
 have c2 := c1.set_ 1 vf'
 refine ⟨⟨by simpa using c2, OwnQQ.texc ho t2 (by decide) (by decide), (h.cls.size.texc t1 (by decide)).texc t2 (by decide), (h.cls.gone.texc t1 (by decide)).texc t2 (by decide)⟩, (h.b0.texc t1 (by decide)).texc t2 (by decide), (h.bj.texc t1 (by decide)).texc t2 (by decide), ?_, h.lg, ?_, h.ls, h.lo⟩
 ·exact h.te.trans ((t1.wide (by decide)).trans (t2.wide (by decide)))
 exact grewL hgr h.lf (nt h.lg (Nat.le_of_lt h.cls.blk.lt))
theorem JS.size1 (h : JS w L g how vf vs vg far size gone g0 gj ja wr) (hgr : Grew wr w1 vs vs') : TExc [3] L wr w1 := TExc.grew1 hgr h.cls.size (by simp) h.ls
theorem JS.addSize {s : Nat} (h : JS w L g how vf vs vg far size gone g0 gj ja wr) (hgr : Grew wr w1 vs vs') (ho : Own w1 3 iv vs' (size ++ [s])) :
  JS w L g how vf vs' vg far (size ++ [s]) gone g0 gj ja (w1.setCell ⟨g, 2, none⟩ vs') := by
 have t1 := h.size1 hgr
 have c1 := h.cls.blk.texc t1 (by decide)
 have t2 := JS.put1 c1 h.lg 2 vs'
 have c2 := c1.set_ 2 vs'
 refine ⟨⟨by simpa using c2, OwnQQ.texc (OwnQQ.texc h.cls.far t1 (by decide) (by decide)) t2 (by decide) (by decide), ho.texc t2 (by decide), (h.cls.gone.texc t1 (by decide)).texc t2 (by decide)⟩, (h.b0.texc t1 (by decide)).texc t2 (by decide), (h.bj.texc t1 (by decide)).texc t2 (by decide), ?_, h.lg, h.lf, ?_, h.lo⟩
 ·exact h.te.trans ((t1.wide (by decide)).trans (t2.wide (by decide)))
 exact grewL hgr h.ls (nt h.lg (Nat.le_of_lt h.cls.blk.lt))
theorem JS.gone1 (h : JS w L g how vf vs vg far size gone g0 gj ja wr) (hgr : Grew wr w1 vg vg') : TExc [4] L wr w1 := TExc.grew1 hgr h.cls.gone (by simp) h.lo
theorem JS.addGone {s : Bool} (h : JS w L g how vf vs vg far size gone g0 gj ja wr) (hgr : Grew wr w1 vg vg') (ho : Own w1 4 Value.bool vg' (gone ++ [s])) :
  JS w L g how vf vs vg' far size (gone ++ [s]) g0 gj ja (w1.setCell ⟨g, 3, none⟩ vg') := by
 have t1 := h.gone1 hgr
 have c1 := h.cls.blk.texc t1 (by decide)
 have t2 := JS.put1 c1 h.lg 3 vg'
 have c2 := c1.set_ 3 vg'
 refine ⟨⟨by simpa using c2, OwnQQ.texc (OwnQQ.texc h.cls.far t1 (by decide) (by decide)) t2 (by decide) (by decide), (h.cls.size.texc t1 (by decide)).texc t2 (by decide), ho.texc t2 (by decide)⟩, (h.b0.texc t1 (by decide)).texc t2 (by decide), (h.bj.texc t1 (by decide)).texc t2 (by decide), ?_, h.lg, h.lf, h.ls, ?_⟩
 ·exact h.te.trans ((t1.wide (by decide)).trans (t2.wide (by decide)))
 exact grewL hgr h.lo (nt h.lg (Nat.le_of_lt h.cls.blk.lt))
theorem JS.setGone {gg ng cg : Nat} (h : JS w L g how vf vs (.slice (some ⟨gg, 0, none⟩) ng cg) far size gone g0 gj ja wr) (i : Nat) (x : Bool) : TExc [4] L wr (wr.setCell ⟨gg, i, none⟩ (.bool x)) /\
  JS w L g how vf vs (.slice (some ⟨gg, 0, none⟩) ng cg) far size (gone.set i x) g0 gj ja (wr.setCell ⟨gg, i, none⟩ (.bool x)) := by
 obtain ⟨cs, fr, hb⟩ := Own.blk h.cls.gone (g := gg) rfl
 have t1 : TExc [4] L wr (wr.setCell ⟨gg, i, none⟩ (.bool x)) := TExc.exc ((Exc.refl gg wr).set_ i (.bool x)) (h.lo gg rfl) hb (by simp)
 exact ⟨t1, ⟨h.cls.blk.texc t1 (by decide), OwnQQ.texc h.cls.far t1 (by decide) (by decide), h.cls.size.texc t1 (by decide), h.cls.gone.putc i x⟩, h.b0.texc t1 (by decide), h.bj.texc t1 (by decide), h.te.trans (t1.wide (by decide)), h.lg, h.lf, h.ls, h.lo⟩
end
def fillL (n : Nat) (r : Nat -> Rat) (i : Nat) : List Rat := (List.range n).map fun k => if k < i then r k else 0
theorem fillL_zero (n : Nat) (r : Nat -> Rat) : fillL n r 0 = List.replicate n 0 := by
 unfold fillL
 refine List.ext_getElem (by simp) fun i h1 h2 => by simp
theorem fillL_full (n : Nat) (r : Nat -> Rat) : fillL n r n = (List.range n).map r := by
 unfold fillL
 refine List.map_congr_left fun i hi => ?_
 rw [if_pos (List.mem_range.1 hi)]
theorem fillL_at {n : Nat} {r : Nat -> Rat} {i : Nat} (hi : i < n) : (fillL n r i)[i]? = some 0 := by
 unfold fillL
 rw [List.getElem?_map, List.getElem?_range hi]
 simp
theorem fillL_skip {n : Nat} {r : Nat -> Rat} {i : Nat} (h : r i = 0) : fillL n r (i + 1) = fillL n r i := by
 unfold fillL
 refine List.map_congr_left fun k hk => ?_
 by_cases hki : k = i
 ·subst hki; rw [if_pos (show k < k + 1 by omega), if_neg (show ¬ k < k by omega), h]
 by_cases hlt : k < i
 ·rw [if_pos (show k < i + 1 by omega), if_pos hlt]
 rw [if_neg (show ¬ k < i + 1 by omega), if_neg hlt]
theorem fillL_set {n : Nat} {r : Nat -> Rat} {i : Nat} : (fillL n r i).set i (r i) = fillL n r (i + 1) := by
 unfold fillL
 refine List.ext_getElem (by simp) fun k h1 h2 => ?_
 rw [List.getElem_set]
 simp only [List.getElem_map, List.getElem_range]
 by_cases hki : i = k
 ·subst hki; rw [if_pos rfl, if_pos (by omega)]
 rw [if_neg hki]
 by_cases hlt : k < i
 ·rw [if_pos hlt, if_pos (show k < i + 1 by omega)]
 rw [if_neg hlt, if_neg (show ¬ k < i + 1 by omega)]
def FillRel (w : World) (g0 gj gl : Nat) (ja : Array Value) (n : Nat) (r : Nat -> Rat) (i : Nat) (wr : World) : Prop :=
 Blk wr g0 58 (jA ⟨0, 0, 0, 0⟩) /\ Blk wr gj 58 ja /\ OwnQ wr (.slice (some ⟨gl, 0, none⟩) n n) (fillL n r i) /\ Below w.heap.size w wr
theorem stepN1 {α : Type} {P : Program} {ops : Array Oper} {o : Oper} {a : Act} {K : Act -> World -> Prop} {Q : Exit -> Act -> World -> Prop} {E0 : Prop} {t e : TypeId} {z : Value} {bytes : Nat} {f : α -> Value}
  (E : Elt P t e z bytes) (hgd : o.guard = none) (s x : Operand)
  (ho : o.op = .call { callee := .builtin .append, args := #[s, x], argTypes := #[t, t] })
  (w : World) (v : Value) (l : List α) (B : Nat) (A : Option Addr) (n c : Nat) (l2 : List α) (hs : a.eval s = v) (hown : Own w e f v l) (hx : a.eval x = .slice A n c)
  (hr : Reads w B 1 A n (l2.map f)) (hone : ∀ m, (f m).oneCell' = true) (h63 : l.length + n <= maxLen) (hb : (l.length + n) * bytes <= 140737488355328)
  (h : ∀ v' w1, Own w1 e f v' (l ++ l2) -> Grew w w1 v v' -> K (a.put o.dst v') w1) : if Region.wanted o (yielded ops a.tmps) = true then Oper.wp P o a w K Q else E0 := by
 obtain ⟨i0, hi0, hz0, hz1, hz2⟩ := info_parts E.info
 refine step_append_any _ hgd s x t ho 0 e i0 z 1 bytes E.under hi0 hz0 hz1 hz2 E.one (by omega) v l.length (l.map f) hs hown B A n c (l2.map f) hx hr
  (by intro u hu; simp at hu; obtain ⟨m, _, rfl⟩ := hu; exact hone m) h63 hb (Nat.zero_le _) ?_
 intro v' w' hown' hgr hwh
 refine h v' w' ?_ (Grew.of_grown hgr hwh)
 have hl := hr.lenf
 unfold Own
 rw [List.length_append, List.map_append, hl]
 exact hown'
theorem Tryz.eltBool : Elt Tryz.prog 105 4 (.bool false) 1 := ⟨Tryz.underlying105, by kernel_rfl, by kernel_rfl⟩
theorem TExc.setNew {ts : List TypeId} {B g i : Nat} {w w' : World} (h : TExc ts B w w') (hg : w.heap.size <= g) (u : Value) : TExc ts B w (w'.setCell ⟨g, i, none⟩ u) :=
 ⟨h.os, h.tape, h.output, by rw [World.size_setCell]; exact h.size, fun k hk hc => (Below.heap_setCell w' ⟨g, i, none⟩ u k (by show k ≠ g; omega)).trans (h.block k hk hc)⟩
theorem TExc.put8 {ts : List TypeId} {B g : Nat} {w w' : World} (h : TExc ts B w w') (hg : w.heap.size <= g) (a b c d e x y z : Value) : TExc ts B w (Go.Proofs.YtecnjlcfoobepaaGreatDoor.put8 w' g a b c d e x y z) :=
 (((((((h.setNew hg a).setNew hg b).setNew hg c).setNew hg d).setNew hg e).setNew hg x).setNew hg y).setNew hg z
theorem JS.done {w wr : World} {L g how g0 gj : Nat} {vf vs vg : Value} {far : List (List Rat)} {size : List Nat} {gone : List Bool} {ja : Array Value} (h : JS w L g how vf vs vg far size gone g0 gj ja wr) (hg : w.heap.size <= g0) (a b c d e x y z : Value) :
  ClsAt (put8 wr g0 a b c d e x y z) g how vf vs vg ⟨far, size, gone⟩ /\ TExc joinTs L w (put8 wr g0 a b c d e x y z) := by
 have t : TExc [58] 0 wr (put8 wr g0 a b c d e x y z) := TExc.exc ((((((((( Exc.refl g0 wr).set_ 0 a).set_ 1 b).set_ 2 c).set_ 3 d).set_ 4 e).set_ 5 x).set_ 6 y).set_ 7 z) (Nat.zero_le _) h.b0 (by simp)
 exact ⟨⟨h.cls.blk.texc t (by decide), OwnQQ.texc h.cls.far t (by decide) (by decide), h.cls.size.texc t (by decide), h.cls.gone.texc t (by decide)⟩, h.te.put8 hg _ _ _ _ _ _ _ _⟩
def JoinPost (w : World) (L g how : Nat) (j : Jn) (c' : Cls) (e : Ending) (w' : World) : Prop :=
 e = .returned (jV j) /\ (∃ vf vs vg, ClsAt w' g how vf vs vg c' /\ (∀ b, vf.ownBlock = some b -> L <= b) /\ (∀ b, vs.ownBlock = some b -> L <= b) /\ ∀ b, vg.ownBlock = some b -> L <= b) /\ TExc joinTs L w w'
theorem link_join (g how n m A B L : Nat) (hq : Rat) (vf vs vg : Value) (c : Cls) (w : World) (h : ClsAt w g how vf vs vg c) (hw : WalkC n m c) (hn : n <= 200) (hm : m <= 1000000000) (hm1 : 1 <= m) (hh : how = 1 \/ how = 2 \/ how = 3) (hsc : scanC c = some (A, B, hq)) (hAB : A < B) (hBn : B < n)
  (hpos : 0 < c.size.getD A 0 + c.size.getD B 0) (hL : L <= g /\ (∀ b, vf.ownBlock = some b -> L <= b) /\ (∀ b, vs.ownBlock = some b -> L <= b) /\ ∀ b, vg.ownBlock = some b -> L <= b) (hT : Tab w) :
  Calls Tryz.prog 62 #[.pointer (some ⟨g, 0, none⟩)] w (JoinPost w L g how ⟨A, B, ((c.size.getD A 0 + c.size.getD B 0 : Nat) : Int), hq⟩ (joined how c A B)) := by
 have hbt := fun w' (hb' : Below w.heap.size w w') a b (ha : a < n) (hb : b < n) (hab : a ≠ b) => link_between g how n m a b vf vs vg c w' (h.next hb') hw ha hb hab
 have hD : ∀ a b, QS m (betw c.far a b) := fun a b => hw.qs.betw hm1 a b
 obtain ⟨As, cs, hvs, -⟩ := Own.form h.size
 obtain ⟨Ag, cg, hvg, -⟩ := Own.form h.gone
 rw [hw.lens] at hvs
 rw [hw.leng] at hvg
 subst hvs hvg
 obtain ⟨gg, rfl⟩ := Own.addr h.gone (by rw [hw.leng]; omega)
 obtain ⟨gs, rfl⟩ := Own.addr h.size (by rw [hw.lens]; omega)
 have hgl := h.blk.lt
 have hgg : gg < w.heap.size := h.gone.lt gg rfl
 have hggg : g ≠ gg := by
  intro e
  obtain ⟨cs', fr', h1⟩ := Own.blk h.gone (g := gg) rfl
  have h2 := h.blk
  rw [e] at h2
  rw [show w.heap[gg]? = _ from h2] at h1
  injection h1 with h1
  injection h1 with _ h1 _
  exact absurd h1 (by decide)
 have HC := lh h
 have HW := lh hw
 have HT := lh hT
 have HSC := lh hsc
 have HPOS := lh hpos
 have HL := lh hL
 have HD := lh hD
 have HBT := lh hbt
 clear h hw hT hsc hpos hL hD hbt
 have b0 := (Blk.new w  58 #[.int .i64 0, .int .i64 0, .int .i64 0, .bool false, .int .u64 0, .string ⟨#[]⟩, .int .u64 0, .string ⟨#[]⟩]).alloc (.cells #[.int .i64 0, .int .i64 0, .int .i64 0, .bool false, .int .u64 0, .string ⟨#[]⟩, .int .u64 0, .string ⟨#[]⟩] 58); have b1 := Blk.new2 w (.cells #[.int .i64 0, .int .i64 0, .int .i64 0, .bool false, .int .u64 0, .string ⟨#[]⟩, .int .u64 0, .string ⟨#[]⟩] 58) 58 #[.int .i64 0, .int .i64 0, .int .i64 0, .bool false, .int .u64 0, .string ⟨#[]⟩, .int .u64 0, .string ⟨#[]⟩]; have hB := balloc2 w (.cells #[.int .i64 0, .int .i64 0, .int .i64 0, .bool false, .int .u64 0, .string ⟨#[]⟩, .int .u64 0, .string ⟨#[]⟩] 58) (.cells #[.int .i64 0, .int .i64 0, .int .i64 0, .bool false, .int .u64 0, .string ⟨#[]⟩, .int .u64 0, .string ⟨#[]⟩] 58); have hZ := lh (show ((w.alloc (.cells #[.int .i64 0, .int .i64 0, .int .i64 0, .bool false, .int .u64 0, .string ⟨#[]⟩, .int .u64 0, .string ⟨#[]⟩] 58)).alloc (.cells #[.int .i64 0, .int .i64 0, .int .i64 0, .bool false, .int .u64 0, .string ⟨#[]⟩, .int .u64 0, .string ⟨#[]⟩] 58)).heap.size = w.heap.size + 1 + 1 from by simp)
 go_enter Tryz.func62, Tryz.ntmps62
 go_upto_region 2 with fail
 generalize ((w.alloc (.cells #[.int .i64 0, .int .i64 0, .int .i64 0, .bool false, .int .u64 0, .string ⟨#[]⟩, .int .u64 0, .string ⟨#[]⟩] 58)).alloc (.cells #[.int .i64 0, .int .i64 0, .int .i64 0, .bool false, .int .u64 0, .string ⟨#[]⟩, .int .u64 0, .string ⟨#[]⟩] 58)) = W at *
 have hZ2 := hZ.out
 obtain ⟨g0, hg0⟩ : ∃ g0, w.heap.size = g0 := ⟨_, rfl⟩
 have HB := lh hB
 have hgj : w.heap.size <= g0 + 1 := by omega
 have hg00 : w.heap.size <= g0 := by omega
 rw [hg0] at b0 b1 hgl
 have hR : ScanRel w g0 (g0 + 1) none (.bool false) W := ⟨rfl, b0, b1, hB⟩
 have HR := lh hR
 have cW := HC.out.next hB
 obtain ⟨r0, r1, r2, r3, -, -, -, -⟩ := blk4 cW.blk
 rw [hg0]
 clear b0 b1 hB hZ hZ2 hR cW HB
 generalize hgj1 : g0 + 1 = gj at *
 go_wp2_with fail
 go_loopw [4, 15] (fun f p wr => ∃ k o, k <= n /\ p = .int .i64 ((k : Nat) : Int) /\ Hid (scanS (aliveL c.gone) (betw c.far) n k = o) /\ ScanRel w g0 gj o f wr) (fun _ p _ => n - (intOf p).toNat)
 case atStart => exact ⟨0, none, by omega, rfl, lh rfl, HR.out⟩
 case round =>
  obtain ⟨k, o, hk, rfl, ho, hrel⟩ := hrel
  rename World => wr
  clear HR r0 r1 r2 r3
  by_cases hkn : k < n
  ·have k1 : (k : Int) < (n : Int) := by omega
   have cW := HC.out.next hrel.2.2.2
   obtain ⟨r0, r1, r2, r3, -, -, -, -⟩ := blk4 cW.blk
   have HR := lh hrel
   clear hrel cW
   go_wp2_with fail
   go_loopw [4, 23] (fun f p wq => ∃ l o', l <= n /\ p = .int .i64 ((l : Nat) : Int) /\ Hid (rowS (aliveL c.gone) (betw c.far) k o l = o') /\ ScanRel w g0 gj o' f wq) (fun _ p _ => n - (intOf p).toNat)
   case atStart => exact ⟨0, o, by omega, rfl, lh rfl, HR.out⟩
   case round =>
    obtain ⟨l, o', hl, rfl, ho', hrel⟩ := hrel
    rename World => wq
    clear HR r0 r1 r2 r3
    by_cases hln : l < n
    ·have k2 : (l : Int) < (n : Int) := by omega
     by_cases hlk : l <= k
     ·have k3 : (l : Int) <= (k : Int) := by omega
      have HO := lh (rowS_skip ho'.out (by omega))
      have HR := lh hrel
      clear hrel ho'
      go_wp2
      exact ⟨⟨l + 1, o', by omega, by go_num, HO, HR.out⟩, by simp [intOf]; omega⟩
     have k3 : ¬ (l : Int) <= (k : Int) := by omega
     have hkl : k ≠ l := by omega
     have cW := HC.out.next hrel.2.2.2
     obtain ⟨r0, r1, r2, r3, -, -, -, -⟩ := blk4 cW.blk
     obtain ⟨xk, hxk⟩ : ∃ x, c.gone[k]? = some x := ⟨_, List.getElem?_eq_getElem (by rw [HW.out.leng]; omega)⟩
     obtain ⟨xl, hxl⟩ : ∃ x, c.gone[l]? = some x := ⟨_, List.getElem?_eq_getElem (by rw [HW.out.leng]; omega)⟩
     have hgo := cW.gone
     rw [<- HW.out.leng] at hgo
     have y1 := Own.cellf hgo hxk
     have y2 := Own.cellf hgo hxl
     have hak := alive_get hxk
     have hal := alive_get hxl
     clear cW hgo hxk hxl
     cases xk with
     | true =>
      have HO := lh (rowS_skip ho'.out (fun h => by rw [hak] at h; simp at h))
      have HR := lh hrel
      clear hrel ho' hak hal
      go_wp2
      exact ⟨⟨l + 1, o', by omega, by go_num, HO, HR.out⟩, by simp [intOf]; omega⟩
     | false =>
      cases xl with
      | true =>
       have HO := lh (rowS_skip ho'.out (fun h => by rw [hal] at h; simp at h))
       have HR := lh hrel
       clear hrel ho' hak hal
       go_wp2
       exact ⟨⟨l + 1, o', by omega, by go_num, HO, HR.out⟩, by simp [intOf]; omega⟩
      | false =>
       have hcond : k < l /\ aliveL c.gone k = true /\ aliveL c.gone l = true := ⟨by omega, hak, hal⟩
       have hb1 := HBT.out wq hrel.2.2.2 k l hkn hln hkl
       have qd := HD.out k l
       have hprev : ∀ x y q, o' = some (x, y, q) -> QS m q := fun x y q e => rowS_in (P := QS m) HD.out (fun x y q e => scanS_in (P := QS m) HD.out k x y q (by rw [ho.out]; exact e)) l x y q (by rw [ho'.out]; exact e)
       have hnone := fun h => rowS_none (o := o) (al := aliveL c.gone) (D := betw c.far) (a := k) (l := l) h hcond
       have hsome := fun x y q h => rowS_some (x := x) (y := y) (q := q) (o := o) (al := aliveL c.gone) (D := betw c.far) (a := k) (l := l) h hcond
       obtain ⟨hf, h0, hj, hbw⟩ := hrel
       have HBW := lh hbw
       obtain ⟨d, hd⟩ : ∃ d, betw c.far k l = d := ⟨_, rfl⟩
       rw [hd] at hb1 qd hnone hsome
       unfold qV at hb1
       have HB1 := lh hb1
       have QD := lh qd
       have HNONE := lh hnone
       have HSOME := lh hsome
       have HPREV := lh hprev
       have l0 := h0.lt
       have lj := hj.lt
       clear hb1 qd hnone hsome hprev hak hal hcond hd hbw
       go_wp2_with fail
       refine HB1.out.mono ?_
       rintro e w1 ⟨rfl, hw1⟩
       have h0 := (h0.below hw1 l0).alloc (.cells #[.bool (decide (d.num < 0)), .int .u64 (lo d.num.natAbs : Int), .string (mo d.num.natAbs), .int .u64 (lo ((qden d)) : Int), .string (mo ((qden d)))] 56)
       have hj := (hj.below hw1 lj).alloc (.cells #[.bool (decide (d.num < 0)), .int .u64 (lo d.num.natAbs : Int), .string (mo d.num.natAbs), .int .u64 (lo ((qden d)) : Int), .string (mo ((qden d)))] 56)
       have b7 := Blk.new w1 56 #[.bool (decide (d.num < 0)), .int .u64 (lo d.num.natAbs : Int), .string (mo d.num.natAbs), .int .u64 (lo ((qden d)) : Int), .string (mo ((qden d)))]
       have hbw := HBW.out.trans ((bthen hw1 (balloc1 w1 (.cells #[.bool (decide (d.num < 0)), .int .u64 (lo d.num.natAbs : Int), .string (mo d.num.natAbs), .int .u64 (lo ((qden d)) : Int), .string (mo ((qden d)))] 56))).mono HBW.out.size)
       have hne7 : ¬ w1.heap.size = gj := by have := hw1.size; omega
       have hne8 : ¬ gj = w1.heap.size := by omega
       have hne9 : ¬ g0 = gj := by omega
       clear r0 r1 r2 r3 y1 y2 HB1 HBW
       rcases o' with _ | ⟨x, y, q⟩
       ·have hf : _ = Value.bool false := hf
        subst hf
        have HO := lh (HNONE.out ho'.out)
        have hj : Blk _ gj _ #[.int .i64 0, .int .i64 0, .int .i64 0, .bool false, .int .u64 0, .string ⟨#[]⟩, .int .u64 0, .string ⟨#[]⟩] := hj
        obtain ⟨z0, z1, z2, z3, z4, z5, z6, z7⟩ := hj.q8
        obtain ⟨y0, y1, y2, y3, y4, y5, y6, y7⟩ := hj.c8
        obtain ⟨b7q0, b7q1, b7q2, b7q3, b7q4⟩ := b7.c5
        have hjn := hj.put8 (a' := .int .i64 (k : Int)) (b' := .int .i64 (l : Int)) (c' := .int .i64 0) (d' := .bool (decide (d.num < 0))) (e' := .int .u64 (lo d.num.natAbs : Int)) (x' := .string (mo d.num.natAbs)) (y' := .int .u64 (lo (qden d) : Int)) (z' := .string (mo (qden d)))
        have h0n := h0.far8 (g' := gj) (a' := .int .i64 (k : Int)) (b' := .int .i64 (l : Int)) (c' := .int .i64 0) (d' := .bool (decide (d.num < 0))) (e' := .int .u64 (lo d.num.natAbs : Int)) (x' := .string (mo d.num.natAbs)) (y' := .int .u64 (lo (qden d) : Int)) (z' := .string (mo (qden d))) hne9
        have HJ := lh hjn
        have H0 := lh h0n
        have HB := lh hbw
        clear hj h0 hjn h0n hbw ho' HNONE HSOME HPREV b7
        go_wp2
        exact ⟨⟨l + 1, _, by omega, by go_num, HO, rfl, H0.out, HJ.out, bset8 HB.out hgj _ _ _ _ _ _ _ _⟩, by simp [intOf]; omega⟩
       have hf : _ = Value.bool true := hf
       subst hf
       have HO := lh (HSOME.out x y q ho'.out)
       have QQ := lh (HPREV.out x y q rfl)
       have hj : Blk _ gj _ #[.int .i64 (x : Int), .int .i64 (y : Int), .int .i64 0, .bool (decide (q.num < 0)), .int .u64 (lo q.num.natAbs : Int), .string (mo q.num.natAbs), .int .u64 (lo ((qden q)) : Int), .string (mo ((qden q)))] := hj
       have hcm := fun w => frac_cmp d q w (QD.out.mono (by omega)) (QQ.out.mono (by omega))
       have hlt := cmp_lt q d
       generalize cmpQ d q = cv at *
       unfold qV at hcm
       have HCM := lh hcm
       have HLT := lh hlt
       clear hcm hlt
       obtain ⟨b7q0, b7q1, b7q2, b7q3, b7q4⟩ := b7.c5
       obtain ⟨y0, y1, y2, y3, y4, y5, y6, y7⟩ := hj.c8
       have l0 := h0.lt
       have lj := hj.lt
       have l7 := b7.lt
       have HB := lh hbw
       have H0 := lh h0
       have HJ := lh hj
       clear hbw h0 hj ho' HNONE HSOME HPREV
       go_wp2_with fail
       refine (HCM.out _).mono ?_
       rintro e w2 ⟨rfl, hw2⟩
       have h0 := H0.out.below hw2 l0
       have hj := HJ.out.below hw2 lj
       have b7 := b7.below hw2 l7
       have hbw := HB.out.trans (hw2.mono HB.out.size)
       clear H0 HJ HB y0 y1 y2 y3 y4 y5 y6 y7 b7q0 b7q1 b7q2 b7q3 b7q4
       by_cases hcv : cv < 0
       ·have q1 : decide (cv < 0) = true := decide_eq_true hcv
        have HO := lh (HO.out.trans (if_pos (HLT.out.1 hcv)))
        obtain ⟨z0, z1, z2, z3, z4, z5, z6, z7⟩ := hj.q8
        obtain ⟨y0, y1, y2, y3, y4, y5, y6, y7⟩ := hj.c8
        obtain ⟨b7q0, b7q1, b7q2, b7q3, b7q4⟩ := b7.c5
        have hjn := hj.put8 (a' := .int .i64 (k : Int)) (b' := .int .i64 (l : Int)) (c' := .int .i64 0) (d' := .bool (decide (d.num < 0))) (e' := .int .u64 (lo d.num.natAbs : Int)) (x' := .string (mo d.num.natAbs)) (y' := .int .u64 (lo (qden d) : Int)) (z' := .string (mo (qden d)))
        have h0n := h0.far8 (g' := gj) (a' := .int .i64 (k : Int)) (b' := .int .i64 (l : Int)) (c' := .int .i64 0) (d' := .bool (decide (d.num < 0))) (e' := .int .u64 (lo d.num.natAbs : Int)) (x' := .string (mo d.num.natAbs)) (y' := .int .u64 (lo (qden d) : Int)) (z' := .string (mo (qden d))) hne9
        have HJ := lh hjn
        have H0 := lh h0n
        have HB := lh hbw
        clear hj h0 hjn h0n hbw HCM HLT b7
        go_wp2
        exact ⟨⟨l + 1, _, by omega, by go_num, HO, rfl, H0.out, HJ.out, bset8 HB.out hgj _ _ _ _ _ _ _ _⟩, by simp [intOf]; omega⟩
       have q1 : decide (cv < 0) = false := decide_eq_false hcv
       have HO := lh (HO.out.trans (if_neg (fun e => hcv (HLT.out.2 e))))
       have HR := lh (show ScanRel w g0 gj (some (x, y, q)) (.bool true) w2 from ⟨rfl, h0, hj, hbw⟩)
       clear h0 hj hbw b7 HCM HLT
       go_wp2
       exact ⟨⟨l + 1, _, by omega, by go_num, HO, HR.out⟩, by simp [intOf]; omega⟩
    obtain rfl : l = n := by omega
    have k2 : ¬ (l : Int) < (l : Int) := by omega
    have HO := lh (show scanS (aliveL c.gone) (betw c.far) l (k + 1) = o' by rw [<- ho'.out, <- ho.out]; rfl)
    have HR := lh hrel
    clear hrel ho' ho
    go_wp2
    exact ⟨⟨k + 1, o', by omega, by go_num, HO, HR.out⟩, by simp [intOf]; omega⟩
  obtain rfl : k = n := by omega
  have k1 : ¬ (k : Int) < (k : Int) := by omega
  have eo : o = some (A, B, hq) := by
   rw [<- ho.out]
   have := HSC.out
   unfold scanC at this
   rw [HW.out.lens] at this
   exact this
  subst eo
  obtain ⟨-, h0, hj, hbw⟩ := hrel
  have hj : Blk wr gj _ #[.int .i64 (A : Int), .int .i64 (B : Int), .int .i64 0, .bool (decide (hq.num < 0)), .int .u64 (lo hq.num.natAbs : Int), .string (mo hq.num.natAbs), .int .u64 (lo ((qden hq)) : Int), .string (mo ((qden hq)))] := hj
  have cW := HC.out.next hbw
  obtain ⟨r0, r1, r2, r3, -, -, -, -⟩ := blk4 cW.blk
  have hsA : c.size[A]? = some (c.size.getD A 0) := by rw [List.getD_eq_getElem?_getD, List.getElem?_eq_getElem (by rw [HW.out.lens]; omega)]; rfl
  have hsB : c.size[B]? = some (c.size.getD B 0) := by rw [List.getD_eq_getElem?_getD, List.getElem?_eq_getElem (by rw [HW.out.lens]; omega)]; rfl
  have sa := HW.out.sz A
  have sb := HW.out.sz B
  have hsz := cW.size
  rw [<- HW.out.lens] at hsz
  have y1 := Own.cellf hsz hsA
  have y2 := Own.cellf hsz hsB
  unfold iv at y1 y2
  have hcl : joined how c A B = ⟨c.far ++ [(List.range k).map (newRow how c A B)], c.size ++ [c.size.getD A 0 + c.size.getD B 0], ((c.gone.set A true).set B true) ++ [false]⟩ := by
   unfold joined
   rw [HW.out.lens]
  have HCL := lh hcl
  obtain ⟨S, hS⟩ : ∃ S, c.size.getD A 0 + c.size.getD B 0 = S := ⟨_, rfl⟩
  have hSl : (c.size.getD A 0 : Int) + (c.size.getD B 0 : Int) = (S : Int) := by omega
  have HS := lh hS
  generalize hza : c.size.getD A 0 = za at *
  generalize hzb : c.size.getD B 0 = zb at *
  have HZ := lh (And.intro hza hzb)
  have k5 : (A : Int) < (k : Int) := by omega
  have k6 : (B : Int) < (k : Int) := by omega
  obtain ⟨x0, x1, x2, x3, x4, x5, x6, x7⟩ := hj.c8
  obtain ⟨z0, z1, z2, z3, z4, z5, z6, z7⟩ := hj.q8
  have l0 := h0.lt
  have lj := hj.lt
  have hne9 : g0 ≠ gj := by omega
  have HJ := lh hj
  have H0 := lh h0
  have HBW := lh hbw
  clear hj h0 hbw cW hsA hsB hsz hcl hza hzb ho hS
  go_upto_region 15 with fail
  go_cut [] (fun wc => Blk wc g0 58 (jA ⟨0, 0, 0, 0⟩) /\ Blk wc gj 58 (jA ⟨A, B, (S : Int), hq⟩) /\ Below w.heap.size w wc)
  case first =>
   go_region
   all_goals
    go_wp2
    go_meet
    have e1 : Blk (wr.setCell ⟨gj, 2, none⟩ (.int .i64 (S : Int))) gj 58 (jA ⟨A, B, (S : Int), hq⟩) := by simpa [jA] using HJ.out.set_ 2 (.int .i64 (S : Int))
    exact ⟨H0.out.drew.far (p := ⟨gj, 2, none⟩) hne9 _, e1.drew, (HBW.out.trans ((bdrew0 _).mono HBW.out.size)).setCell hgj _⟩
  case rest =>
   obtain ⟨h0, hj, hbw⟩ := hcut
   rename World => wc
   have hj : Blk wc gj _ #[.int .i64 (A : Int), .int .i64 (B : Int), .int .i64 (S : Int), .bool (decide (hq.num < 0)), .int .u64 (lo hq.num.natAbs : Int), .string (mo hq.num.natAbs), .int .u64 (lo ((qden hq)) : Int), .string (mo ((qden hq)))] := hj
   clear x0 x1 x2 x3 x4 x5 x6 x7 z0 z1 z2 z3 z4 z5 z6 z7 HJ H0 HBW r0 r1 r2 r3 y1 y2
   have cW := HC.out.next hbw
   obtain ⟨r0, r1, r2, r3, -, -, -, -⟩ := blk4 cW.blk
   obtain ⟨w1, hmk, ho1, hb1⟩ := make_q k (by omega) wc
   obtain ⟨gl, hgl0⟩ : ∃ gl, wc.heap.size = gl := ⟨_, rfl⟩
   have lglw : w.heap.size <= gl := by have := hbw.size; omega
   have lj := hj.lt
   have l0 := h0.lt
   have ngj : gj ≠ gl := by omega
   have ng0 : g0 ≠ gl := by omega
   rw [<- fillL_zero k (newRow how c A B)] at ho1
   have HF : Hid (FillRel w g0 gj gl (jA ⟨A, B, (S : Int), hq⟩) k (newRow how c A B) 0 w1) := lh ⟨h0.below hb1 l0, hj.below hb1 lj, by rw [<- hgl0]; exact ho1, hbw.trans (hb1.mono hbw.size)⟩
   rw [hgl0] at hmk
   clear cW h0 hj hbw ho1 hb1 hgl0
   go_wp2_with fail
   clear hmk r0 r1 r2 r3
   go_loopw [92] (fun p wr => ∃ i : Nat, i <= k /\ p = .int .i64 (i : Int) /\ FillRel w g0 gj gl (jA ⟨A, B, (S : Int), hq⟩) k (newRow how c A B) i wr) (fun p _ => k - (intOf p).toNat)
   case atStart => exact ⟨0, by omega, rfl, HF.out⟩
   case round =>
    obtain ⟨i, hi, rfl, h0, hj, ho, hbw⟩ := hrel
    rename World => wr
    clear HF
    have hj : Blk wr gj _ #[.int .i64 (A : Int), .int .i64 (B : Int), .int .i64 (S : Int), .bool (decide (hq.num < 0)), .int .u64 (lo hq.num.natAbs : Int), .string (mo hq.num.natAbs), .int .u64 (lo ((qden hq)) : Int), .string (mo ((qden hq)))] := hj
    by_cases hik : i < k
    ·have q1 : (i : Int) < (k : Int) := by omega
     have cW := HC.out.next hbw
     obtain ⟨r0, r1, r2, r3, -, -, -, -⟩ := blk4 cW.blk
     obtain ⟨xi, hxi⟩ : ∃ x, c.gone[i]? = some x := ⟨_, List.getElem?_eq_getElem (by rw [HW.out.leng]; omega)⟩
     have hgo := cW.gone
     rw [<- HW.out.leng] at hgo
     have y1 := Own.cellf hgo hxi
     have hai := alive_get hxi
     obtain ⟨x0, x1, x2, x3, x4, x5, x6, x7⟩ := hj.c8
     clear hgo hxi
     cases xi with
     | true =>
      have hz : newRow how c A B i = 0 := by unfold newRow; rw [hai]; rfl
      rw [<- fillL_skip hz] at ho
      have HF : Hid (FillRel w g0 gj gl (jA ⟨A, B, (S : Int), hq⟩) k (newRow how c A B) (i + 1) wr) := lh ⟨h0, hj, ho, hbw⟩
      clear cW h0 hj ho hbw hz hai
      go_wp2
      exact ⟨⟨i + 1, by omega, by go_num, HF.out⟩, by simp [intOf]; omega⟩
     | false =>
      by_cases hiA : i = A
      ·have hz : newRow how c A B i = 0 := by unfold newRow; simp [hiA]
       rw [<- fillL_skip hz] at ho
       have HF : Hid (FillRel w g0 gj gl (jA ⟨A, B, (S : Int), hq⟩) k (newRow how c A B) (i + 1) wr) := lh ⟨h0, hj, ho, hbw⟩
       clear cW h0 hj ho hbw hz hai
       subst hiA
       go_wp2
       exact ⟨⟨i + 1, by omega, by go_num, HF.out⟩, by simp [intOf]; omega⟩
      have q2 : ¬ (i : Int) = (A : Int) := by omega
      have q3 : ((i : Int) == (A : Int)) = false := by simp; omega
      have q4 : ((i : Int) != (A : Int)) = true := by simp; omega
      by_cases hiB : i = B
      ·have hz : newRow how c A B i = 0 := by unfold newRow; simp [hiB]
       rw [<- fillL_skip hz] at ho
       have HF : Hid (FillRel w g0 gj gl (jA ⟨A, B, (S : Int), hq⟩) k (newRow how c A B) (i + 1) wr) := lh ⟨h0, hj, ho, hbw⟩
       clear cW h0 hj ho hbw hz hai hiA
       subst hiB
       go_wp2
       exact ⟨⟨i + 1, by omega, by go_num, HF.out⟩, by simp [intOf]; omega⟩
      have q5 : ¬ (i : Int) = (B : Int) := by omega
      have q6 : ((i : Int) == (B : Int)) = false := by simp; omega
      have q7 : ((i : Int) != (B : Int)) = true := by simp; omega
      have hmg := link_merged g how k m A B i (S : Int) hq vf _ _ c wr cW HW.out hm hm1 hh (by omega) hBn hik (fun e => hiA e.symm) (fun e => hiB e.symm) (by rw [HZ.out.1, HZ.out.2, HS.out]) (by rw [HZ.out.1, HZ.out.2]; exact HPOS.out) (HT.out.next hbw)
      have hz : mergedQ how (c.size.getD A 0) (c.size.getD B 0) (betw c.far A i) (betw c.far B i) = newRow how c A B i := by unfold newRow; rw [hai]; simp [hiA, hiB]
      rw [hz] at hmg
      obtain ⟨r, hr⟩ : ∃ r, newRow how c A B i = r := ⟨_, rfl⟩
      rw [hr] at hmg
      have hs1 := fillL_set (n := k) (r := newRow how c A B) (i := i)
      rw [hr] at hs1
      have HS1 := lh hs1
      have HY := lh (fillL_at (n := k) (r := newRow how c A B) hik)
      unfold qV at hmg
      have HM := lh hmg
      have H0 := lh h0
      have HJ := lh hj
      have HO := lh ho
      have HBW := lh hbw
      have l0 := h0.lt
      have lj := hj.lt
      clear cW h0 hj ho hbw hz hai hmg hr hs1
      go_wp2_with fail
      refine HM.out.mono ?_
      rintro e w2 ⟨rfl, hw2⟩
      have ho2 := OwnW.next HO.out hw2
      obtain ⟨p0, p1, p2, p3, p4⟩ := OwnQ.cell5 ho2 HY.out
      have z0 := OwnQ.frozen ho2 (i * 5)
      have z1 := OwnQ.frozen ho2 (i * 5 + 1)
      have z2 := OwnQ.frozen ho2 (i * 5 + 2)
      have z3 := OwnQ.frozen ho2 (i * 5 + 3)
      have z4 := OwnQ.frozen ho2 (i * 5 + 4)
      have hst := OwnQ.store ho2 i r
      rw [HS1.out] at hst
      have HST := lh hst
      have H02 := lh (H0.out.below hw2 l0)
      have HJ2 := lh (HJ.out.below hw2 lj)
      have HB2 := lh (HBW.out.trans (hw2.mono HBW.out.size))
      clear ho2 hst hw2 H0 HJ HO HBW HM r0 r1 r2 r3 y1 x0 x1 x2 x3 x4 x5 x6 x7
      go_wp2
      exact ⟨⟨i + 1, by omega, by go_num, Blk.far5' H02.out ng0 _ _ _ _ _, Blk.far5' HJ2.out ngj _ _ _ _ _, HST.out, bset5' HB2.out lglw _ _ _ _ _⟩, by simp [intOf]; omega⟩
    obtain rfl : i = k := by omega
    have q1 : ¬ (i : Int) < (i : Int) := by omega
    have ho : OwnQ wr (.slice (some ⟨gl, 0, none⟩) i i) ((List.range i).map (newRow how c A B)) := by rw [<- fillL_full]; exact ho
    generalize hrw : (List.range i).map (newRow how c A B) = row at *
    have cW := HC.out.next hbw
    have hjs : JS w L g how vf _ _ c.far c.size c.gone g0 gj (jA ⟨A, B, (S : Int), hq⟩) wr := ⟨cW, h0, hj, TExc.of hbw, HL.out.1, HL.out.2.1, HL.out.2.2.1, HL.out.2.2.2⟩
    obtain ⟨r0, r1, r2, r3, -, -, -, -⟩ := blk4 cW.blk
    obtain ⟨x0, x1, x2, x3, x4, x5, x6, x7⟩ := hj.c8
    have hgo := cW.gone
    have z1 := hgo.frozenc A
    have z2 := hgo.frozenc B
    rw [<- HW.out.leng] at hgo
    obtain ⟨xa, hxa⟩ : ∃ x, c.gone[A]? = some x := ⟨_, List.getElem?_eq_getElem (by rw [HW.out.leng]; omega)⟩
    obtain ⟨xb, hxb⟩ : ∃ x, c.gone[B]? = some x := ⟨_, List.getElem?_eq_getElem (by rw [HW.out.leng]; omega)⟩
    have y1 := Own.cellf hgo hxa
    have y2 := Own.cellf hgo hxb
    have hne1 : ¬ A = B := by omega
    have hne2 : ¬ B = A := by omega
    have hne3 : ¬ gg = gj := by omega
    have hne4 : ¬ gj = gg := by omega
    have hne5 : ¬ g = gg := hggg
    have hne6 : ¬ gg = g := fun e => hggg e.symm
    have HJS := lh hjs
    have HO := lh ho
    have lenf := HW.out.lenf
    have HLF := lh (show c.far.length <= 1000000 by omega)
    have HLS := lh (show c.size.length <= 1000000 by have := HW.out.lens; omega)
    have HLG := lh (show ((c.gone.set A true).set B true).length <= 1000000 by have := HW.out.leng; simp; omega)
    clear cW h0 hj ho hbw hjs hgo hxa hxb lenf
    go_upto_region 23 with fail
    go_cut [] (fun wc => JS w L g how vf (.slice (some ⟨gs, 0, none⟩) i cs) (.slice (some ⟨gg, 0, none⟩) i cg) c.far c.size ((c.gone.set A true).set B true) g0 gj (jA ⟨A, B, (S : Int), hq⟩) wc /\ OwnQ wc (.slice (some ⟨gl, 0, none⟩) i i) row)
    case first =>
     go_region
     all_goals
      go_wp2
      go_meet
      first
       |(obtain ⟨t1, j1⟩ := HJS.out.setGone A true
         obtain ⟨t2, j2⟩ := j1.setGone B true
         exact ⟨j2.next (bdrew0 _), OwnW.next ((HO.out.texc t1 (by decide)).texc t2 (by decide)) (bdrew0 _)⟩)
       |(obtain ⟨t1, j1⟩ := HJS.out.setGone B true
         obtain ⟨t2, j2⟩ := j1.setGone A true
         rw [List.set_comm _ _ hne2] at j2
         exact ⟨j2.next (bdrew0 _), OwnW.next ((HO.out.texc t1 (by decide)).texc t2 (by decide)) (bdrew0 _)⟩)
    case rest =>
     obtain ⟨hjs, ho⟩ := hcut
     rename World => w4
     clear r0 r1 r2 r3 x0 x1 x2 x3 x4 x5 x6 x7 z1 z2 y1 y2 HJS HO
     obtain ⟨r0, r1, r2, r3, f0, f1, f2, f3⟩ := blk4 hjs.blk
     have HJS := lh hjs
     have HO := lh ho
     clear hjs ho
     go_upto_region 24 with fail
     go_cut [] (fun wc => ∃ vf', JS w L g how vf' (.slice (some ⟨gs, 0, none⟩) i cs) (.slice (some ⟨gg, 0, none⟩) i cg) (c.far ++ [row]) c.size ((c.gone.set A true).set B true) g0 gj (jA ⟨A, B, (S : Int), hq⟩) wc)
     case first =>
      go_wp2_with (at_builtin; refine appS Tryz.kindQQ Tryz.eltQQ rfl (.tmp 141) (.tmp 143) rfl w4 _ c.far _ _ _ row rfl HJS.out.cls.far HO.out rfl HLF.out ?_; intro v5 w5 ho5 hg5; obtain ⟨A5, n5, k5c, hv5⟩ := OwnS.form3 ho5; subst hv5; have c5 := HJS.out.blk.texc (HJS.out.far1 hg5) (by decide); have js5 := lh (HJS.out.addFar hg5 ho5); clear r0 r1 r2 r3 f0 f1 f2 f3 ho5 hg5; obtain ⟨r0, r1, r2, r3, f0, f1, f2, f3⟩ := blk4 c5; clear c5)
      go_meet
      exact ⟨_, js5.out⟩
     case rest =>
      obtain ⟨vf', hjs⟩ := hcut
      rename World => w6
      clear r0 r1 r2 r3 f0 f1 f2 f3 HJS HO
      obtain ⟨r0, r1, r2, r3, f0, f1, f2, f3⟩ := blk4 hjs.blk
      have hbj : Blk w6 gj _ #[.int .i64 (A : Int), .int .i64 (B : Int), .int .i64 (S : Int), .bool (decide (hq.num < 0)), .int .u64 (lo hq.num.natAbs : Int), .string (mo hq.num.natAbs), .int .u64 (lo ((qden hq)) : Int), .string (mo ((qden hq)))] := hjs.bj
      obtain ⟨x0, x1, x2, x3, x4, x5, x6, x7⟩ := hbj.c8
      have JA := lh (hjs.next (bthen (bdrew0 w6) (balloc1 w6.drew (.cells #[.int .i64 (S : Int)] 3))))
      have JB := lh (hjs.next (bdrewA1 w6 (.cells #[.int .i64 (S : Int)] 3)))
      obtain ⟨ra0, ra1, ra2, ra3, -, -, -, -⟩ := blk4 JA.out.blk
      obtain ⟨rb0, rb1, rb2, rb3, -, -, -, -⟩ := blk4 JB.out.blk
      clear hjs hbj
      go_upto_region 25 with fail
      go_cut [] (fun wc => ∃ vs', JS w L g how vf' vs' (.slice (some ⟨gg, 0, none⟩) i cg) (c.far ++ [row]) (c.size ++ [S]) ((c.gone.set A true).set B true) g0 gj (jA ⟨A, B, (S : Int), hq⟩) wc)
      case first =>
       go_region_law (first | (refine stepN1 Tryz.eltIntR rfl (.tmp 151) (.tmp 154) rfl (w6.drew.alloc (.cells #[.int .i64 (S : Int)] 3)) _ c.size (w6.heap.size + 1) (some ⟨w6.heap.size, 0, none⟩) 1 1 [S] (by simp [Act.eval, Act.put]) JA.out.cls.size (by simp [Act.eval, Act.put]) (Row.new w6.drew 3 iv [S]).reads (fun _ => rfl) (by have := HLS.out; unfold maxLen; omega) (by have := HLS.out; omega) ?_; intro v7 w7 ho7 hg7; obtain ⟨A7, n7, k7c, hv7⟩ := Own.form3 ho7; subst hv7; have c7 := JA.out.blk.texc (JA.out.size1 hg7) (by decide); have js7 := lh (JA.out.addSize hg7 ho7); obtain ⟨p0, p1, p2, p3, q0, q1, q2, q3⟩ := blk4 c7) | (refine stepN1 Tryz.eltIntR rfl (.tmp 151) (.tmp 154) rfl ((w6.alloc (.cells #[.int .i64 (S : Int)] 3)).drew) _ c.size (w6.heap.size + 1) (some ⟨w6.heap.size, 0, none⟩) 1 1 [S] (by simp [Act.eval, Act.put]) JB.out.cls.size (by simp [Act.eval, Act.put]) (Row.new w6 3 iv [S]).reads (fun _ => rfl) (by have := HLS.out; unfold maxLen; omega) (by have := HLS.out; omega) ?_; intro v7 w7 ho7 hg7; obtain ⟨A7, n7, k7c, hv7⟩ := Own.form3 ho7; subst hv7; have c7 := JB.out.blk.texc (JB.out.size1 hg7) (by decide); have js7 := lh (JB.out.addSize hg7 ho7); obtain ⟨p0, p1, p2, p3, q0, q1, q2, q3⟩ := blk4 c7))
       all_goals
        go_wp2
        go_meet
        exact ⟨_, js7.out⟩
      case rest =>
       obtain ⟨vs', hjs⟩ := hcut
       rename World => w8
       clear r0 r1 r2 r3 f0 f1 f2 f3 x0 x1 x2 x3 x4 x5 x6 x7 JA JB ra0 ra1 ra2 ra3 rb0 rb1 rb2 rb3
       obtain ⟨r0, r1, r2, r3, f0, f1, f2, f3⟩ := blk4 hjs.blk
       have HJS := lh hjs
       clear hjs
       go_upto_region 26 with fail
       go_cut [] (fun wc => ∃ vg', JS w L g how vf' vs' vg' (c.far ++ [row]) (c.size ++ [S]) (((c.gone.set A true).set B true) ++ [false]) g0 gj (jA ⟨A, B, (S : Int), hq⟩) wc)
       case first =>
        go_wp2_with (at_builtin; refine app1 Tryz.eltBool rfl (.tmp 162) (.tmp 163) rfl w8 _ ((c.gone.set A true).set B true) false _ rfl rfl HJS.out.cls.gone rfl rfl (by have := HLG.out; unfold maxLen; omega) (by have := HLG.out; omega) ?_; intro v9 w9 ho9 hg9; obtain ⟨A9, n9, k9c, hv9⟩ := Own.form3 ho9; subst hv9; have c9 := HJS.out.blk.texc (HJS.out.gone1 hg9) (by decide); have js9 := lh (HJS.out.addGone hg9 ho9); clear r0 r1 r2 r3 f0 f1 f2 f3 ho9 hg9; obtain ⟨r0, r1, r2, r3, f0, f1, f2, f3⟩ := blk4 c9; clear c9)
        go_meet
        exact ⟨_, js9.out⟩
       case rest =>
        obtain ⟨vg', hjs⟩ := hcut
        rename World => wz
        clear r0 r1 r2 r3 f0 f1 f2 f3 HJS
        have hbj : Blk wz gj _ #[.int .i64 (A : Int), .int .i64 (B : Int), .int .i64 (S : Int), .bool (decide (hq.num < 0)), .int .u64 (lo hq.num.natAbs : Int), .string (mo hq.num.natAbs), .int .u64 (lo ((qden hq)) : Int), .string (mo ((qden hq)))] := hjs.bj
        have hb0 : Blk wz g0 _ #[.int .i64 0, .int .i64 0, .int .i64 0, .bool false, .int .u64 0, .string ⟨#[]⟩, .int .u64 0, .string ⟨#[]⟩] := hjs.b0
        obtain ⟨x0, x1, x2, x3, x4, x5, x6, x7⟩ := hbj.c8
        obtain ⟨u0, u1, u2, u3, u4, u5, u6, u7⟩ := hb0.c8
        obtain ⟨f0, f1, f2, f3, f4, f5, f6, f7⟩ := hb0.q8
        have HP := lh (hb0.put8 (a' := .int .i64 (A : Int)) (b' := .int .i64 (B : Int)) (c' := .int .i64 (S : Int)) (d' := .bool (decide (hq.num < 0))) (e' := .int .u64 (lo hq.num.natAbs : Int)) (x' := .string (mo hq.num.natAbs)) (y' := .int .u64 (lo (qden hq) : Int)) (z' := .string (mo (qden hq))))
        have HD9 := lh (hjs.done hg00 (.int .i64 (A : Int)) (.int .i64 (B : Int)) (.int .i64 (S : Int)) (.bool (decide (hq.num < 0))) (.int .u64 (lo hq.num.natAbs : Int)) (.string (mo hq.num.natAbs)) (.int .u64 (lo (qden hq) : Int)) (.string (mo (qden hq))))
        have HLL := lh (And.intro hjs.lf (And.intro hjs.ls hjs.lo))
        have HRW := lh hrw
        clear hjs hbj hb0 hrw
        go_upto_region 27 with fail
        go_cut [] (fun wc => Blk wc g0 58 #[.int .i64 (A : Int), .int .i64 (B : Int), .int .i64 (S : Int), .bool (decide (hq.num < 0)), .int .u64 (lo hq.num.natAbs : Int), .string (mo hq.num.natAbs), .int .u64 (lo ((qden hq)) : Int), .string (mo ((qden hq)))] /\ ClsAt wc g how vf' vs' vg' ⟨c.far ++ [row], c.size ++ [S], ((c.gone.set A true).set B true) ++ [false]⟩ /\ TExc joinTs L w wc)
        case first =>
         go_wp2
         go_meet
         exact ⟨HP.out, HD9.out⟩
        case rest =>
         obtain ⟨hb0, hcl, hte⟩ := hcut
         obtain ⟨p0, p1, p2, p3, p4, p5, p6, p7⟩ := hb0.c8
         have HCC := lh hcl
         have HTE := lh hte
         clear x0 x1 x2 x3 x4 x5 x6 x7 u0 u1 u2 u3 u4 u5 u6 u7 f0 f1 f2 f3 f4 f5 f6 f7 hb0 hcl hte HP HD9
         apply ‹∀ (a : Act) (w_1 : World), Code.wp _ Code.ret _ a w_1 -> _›
         refine wp_ret ?_
         refine bodyPost_ret (v := jV ⟨A, B, (S : Int), hq⟩) (by simp [results, Tryz.results62, go_sem, p0, p1, p2, p3, p4, p5, p6, p7, jV]) rfl ?_
         rw [HCL.out, HS.out]
         exact ⟨rfl, ⟨_, _, _, HCC.out, HLL.out.1, HLL.out.2.1, HLL.out.2.2⟩, HTE.out⟩
theorem run_cutTo {P : Program} {t e : TypeId} {z : Value} {size bytes : Nat} (ht : P.underlying t = some (.slice e)) (hi : (P.info? e).map (fun i => (i.zero, i.size, i.bytes)) = some (some z, size, bytes)) (A : Option Addr) (n c : Nat) (k' : IntKind) (h : Int) (h1 : 0 <= h) (h2 : h <= c) (w : World) :
  (Instr.slice t (.slice A n c) none (some (.int k' h)) none).run P w = .ok (.slice (cutA A c 0 size) h.toNat c) w := by
 obtain ⟨i0, hi0, hz0, hz1, hz2⟩ := info_parts hi
 have h4 : max h 0 = h := by omega
 simp [h4, Instr.slice, run_underlying ht, Instr.sliceBounds, Instr.sliceBound, asIntOf, sizeOf, typeInfo, hi0, h1, h2, hz1, cutA, Result.andThen]
theorem cutA_zero (g c k : Nat) : cutA (some ⟨g, 0, none⟩) c 0 k = some ⟨g, 0, none⟩ := by
 unfold cutA
 split
 ·rfl
 simp [Addr.add]
theorem ownQ_empty (w : World) : OwnQ (w.alloc (.cells #[] 56)) (.slice (some ⟨w.heap.size, 0, none⟩) 0 0) [] := by
 have h := World.ownsRow_made (base := 0) (size := 5) (e := 56) w #[] 0 (Nat.zero_le _) (Nat.zero_le _) rfl
 exact h
theorem clone_q (gb ob n c B : Nat) (l : List Rat) (w : World) (h : ReadsQ w B (some ⟨gb, ob, none⟩) n l) (hB : B <= w.heap.size) (hn : n <= 1000) :
  Calls Tryz.prog 61 #[.slice (some ⟨gb, ob, none⟩) n c] w fun e w' => ∃ v, e = .returned v /\ (∃ A c, v = .slice A n c) /\ OwnQ w' v l /\ (∀ b, v.ownBlock = some b -> w.heap.size <= b) /\ Below w.heap.size w w' := by
 have H := lh (ReadsW.alloc h hB (.cells #[] 56))
 have hln := h.len
 have HE := lh (ownQ_empty w)
 have q22 : ∀ (w : World) (a : Option Addr) (n c n' c' : Nat), (binOp .eql 73 (.slice a n c) (.slice none n' c')).run Tryz.prog w = .ok (.bool a.isNone) w := fun w a n c n' c' => Lib.run_eql_slice_nil w _ _ a n c n' c' (Tryz.eltQ).under
 clear h
 go_enter Tryz.func61, Tryz.ntmps61
 go_wp2_with (at_builtin; refine appW Tryz.eltQ (by omega) rfl (.tmp 5) (.tmp 6) rfl (w.alloc (.cells #[] 56)) _ [] B (some ⟨gb, ob, none⟩) n c l rfl HE.out rfl H.out qC_one (by unfold maxLen; simp; omega) (by simp; omega) ?_; intro v' w1 ho1 hg1; have ho1 := lh ho1; have hg1 := lh hg1)
 go_returns
 obtain ⟨A', c', hv, -⟩ := OwnW.form ho1.out
 refine ⟨_, rfl, ⟨A', c', by rw [hv]; simp [hln]⟩, by simpa using ho1.out, fun b hb => ?_, ?_⟩
 ·rcases hg1.out.own b hb with h1 | h1
  ·have e : w.heap.size = b := Option.some.inj h1
   omega
  rw [World.size_alloc] at h1
  omega
 exact (balloc1 w _).trans (hg1.out.below (by simp) (fun k hk => by have e : w.heap.size = k := Option.some.inj hk; omega))
section
variable {β : Type} {T TT : TypeId} {I : World -> Value -> β -> Prop} {ops : Array Oper} {op : Oper} {a : Act} {K : Act -> World -> Prop} {Q : Exit -> Act -> World -> Prop} {Z : Prop}
theorem stepSR (KK : Kind T I) (E : Elt Tryz.prog TT T (.slice none 0 0) 24) (hgd : op.guard = none) (s x : Operand)
  (ho : op.op = .call { callee := .builtin .append, args := #[s, x], argTypes := #[TT, TT] })
  (wr : World) (v : Value) (bl : List β) (A : Option Addr) (n c : Nat) (b : β) (hs : a.eval s = v) (hown : OwnS T I wr v bl) (hel : I wr (.slice A n c) b) (hx : a.eval x = .slice (some ⟨wr.heap.size, 0, none⟩) 1 1) (hl : bl.length <= 1000000)
  (h : ∀ v' w1, OwnS T I w1 v' (bl ++ [b]) -> Grew wr w1 v v' -> K (a.put op.dst v') w1) : if Region.wanted op (yielded ops a.tmps) = true then Oper.wp Tryz.prog op a (wr.alloc (.cells #[.slice A n c] T)) K Q else Z := by
 obtain ⟨rl, h1, h2, h3⟩ := hown
 refine stepN1 E hgd s x ho (wr.alloc (.cells #[.slice A n c] T)) v rl (wr.heap.size + 1) (some ⟨wr.heap.size, 0, none⟩) 1 1 [(⟨A, n, c⟩ : SW)] hs (Own.alloc h1 _) hx (Row.new wr T SW.v [⟨A, n, c⟩]).reads SW.one (by unfold maxLen; omega) (by omega) ?_
 intro v' w1 h4 h5
 have hgr : Grew wr w1 v v' := by
  refine ⟨h5.os, h5.tape, h5.output, nt (by simp) h5.size, fun k hk hne => (h5.block k (by simp; omega) hne).trans (Below.heap_alloc wr _ k hk), fun k hk => ?_⟩
  rcases h5.own k hk with h6 | h6
  ·exact .inl h6
  exact .inr (by simp at h6; omega)
 exact h v' w1 (OwnS.snoc KK h1 h2 h3 hel h4 hgr) hgr
end
structure CS (L g how : Nat) (vf vs vg : Value) (c : Cls) (w : World) : Prop where
 cls : ClsAt w g how vf vs vg c
 lg : L <= g
 lf : ∀ b, vf.ownBlock = some b -> L <= b
 ls : ∀ b, vs.ownBlock = some b -> L <= b
 lo : ∀ b, vg.ownBlock = some b -> L <= b
section
variable {wr w1 : World} {L g how : Nat} {vf vs vg vf' vs' vg' : Value} {far : List (List Rat)} {size : List Nat} {gone : List Bool} {c : Cls}
theorem CS.next (h : CS L g how vf vs vg c wr) (hb : Below wr.heap.size wr w1) : CS L g how vf vs vg c w1 := ⟨h.cls.next hb, h.lg, h.lf, h.ls, h.lo⟩
theorem CS.texc {ts : List TypeId} {B : Nat} (h : CS L g how vf vs vg c wr) (t : TExc ts B wr w1) (h1 : 107 ∉ ts) (h2 : 73 ∉ ts) (h3 : 3 ∉ ts) (h4 : 4 ∉ ts) (h5 : 56 ∉ ts) : CS L g how vf vs vg c w1 :=
 ⟨⟨h.cls.blk.texc t h1, OwnQQ.texc h.cls.far t h2 h5, h.cls.size.texc t h3, h.cls.gone.texc t h4⟩, h.lg, h.lf, h.ls, h.lo⟩
theorem CS.far1 (h : CS L g how vf vs vg ⟨far, size, gone⟩ wr) (hgr : Grew wr w1 vf vf') : TExc [73] L wr w1 := TExc.grewS hgr h.cls.far (by simp) h.lf
theorem CS.addFar {row : List Rat} (h : CS L g how vf vs vg ⟨far, size, gone⟩ wr) (hgr : Grew wr w1 vf vf') (ho : OwnQQ w1 vf' (far ++ [row])) :
  CS L g how vf' vs vg ⟨far ++ [row], size, gone⟩ (w1.setCell ⟨g, 1, none⟩ vf') /\ TExc joinTs L wr (w1.setCell ⟨g, 1, none⟩ vf') := by
 have t1 := h.far1 hgr
 have c1 := h.cls.blk.texc t1 (by decide)
 have t2 := JS.put1 c1 h.lg 1 vf'
 have c2 := c1.set_ 1 vf'
 refine ⟨⟨⟨by simpa using c2, OwnQQ.texc ho t2 (by decide) (by decide), (h.cls.size.texc t1 (by decide)).texc t2 (by decide), (h.cls.gone.texc t1 (by decide)).texc t2 (by decide)⟩, h.lg, ?_, h.ls, h.lo⟩, (t1.wide (by decide)).trans (t2.wide (by decide))⟩
 exact grewL hgr h.lf (nt h.lg (Nat.le_of_lt h.cls.blk.lt))
theorem CS.size1 (h : CS L g how vf vs vg ⟨far, size, gone⟩ wr) (hgr : Grew wr w1 vs vs') : TExc [3] L wr w1 := TExc.grew1 hgr h.cls.size (by simp) h.ls
theorem CS.addSize {s : Nat} (h : CS L g how vf vs vg ⟨far, size, gone⟩ wr) (hgr : Grew wr w1 vs vs') (ho : Own w1 3 iv vs' (size ++ [s])) :
  CS L g how vf vs' vg ⟨far, size ++ [s], gone⟩ (w1.setCell ⟨g, 2, none⟩ vs') /\ TExc joinTs L wr (w1.setCell ⟨g, 2, none⟩ vs') := by
 have t1 := h.size1 hgr
 have c1 := h.cls.blk.texc t1 (by decide)
 have t2 := JS.put1 c1 h.lg 2 vs'
 have c2 := c1.set_ 2 vs'
 refine ⟨⟨⟨by simpa using c2, OwnQQ.texc (OwnQQ.texc h.cls.far t1 (by decide) (by decide)) t2 (by decide) (by decide), ho.texc t2 (by decide), (h.cls.gone.texc t1 (by decide)).texc t2 (by decide)⟩, h.lg, h.lf, ?_, h.lo⟩, (t1.wide (by decide)).trans (t2.wide (by decide))⟩
 exact grewL hgr h.ls (nt h.lg (Nat.le_of_lt h.cls.blk.lt))
theorem CS.gone1 (h : CS L g how vf vs vg ⟨far, size, gone⟩ wr) (hgr : Grew wr w1 vg vg') : TExc [4] L wr w1 := TExc.grew1 hgr h.cls.gone (by simp) h.lo
theorem CS.addGone {s : Bool} (h : CS L g how vf vs vg ⟨far, size, gone⟩ wr) (hgr : Grew wr w1 vg vg') (ho : Own w1 4 Value.bool vg' (gone ++ [s])) :
  CS L g how vf vs vg' ⟨far, size, gone ++ [s]⟩ (w1.setCell ⟨g, 3, none⟩ vg') /\ TExc joinTs L wr (w1.setCell ⟨g, 3, none⟩ vg') := by
 have t1 := h.gone1 hgr
 have c1 := h.cls.blk.texc t1 (by decide)
 have t2 := JS.put1 c1 h.lg 3 vg'
 have c2 := c1.set_ 3 vg'
 refine ⟨⟨⟨by simpa using c2, OwnQQ.texc (OwnQQ.texc h.cls.far t1 (by decide) (by decide)) t2 (by decide) (by decide), (h.cls.size.texc t1 (by decide)).texc t2 (by decide), ho.texc t2 (by decide)⟩, h.lg, h.lf, h.ls, ?_⟩, (t1.wide (by decide)).trans (t2.wide (by decide))⟩
 exact grewL hgr h.lo (nt h.lg (Nat.le_of_lt h.cls.blk.lt))
end
def startTo (f : List (List Rat)) (k : Nat) : Cls := ⟨(List.range k).map fun i => (f.getD i []).take i, List.replicate k 1, List.replicate k false⟩
theorem startTo_full (f : List (List Rat)) : startTo f f.length = startC f := rfl
theorem startTo_succ (f : List (List Rat)) (k : Nat) : startTo f (k + 1) = ⟨(startTo f k).far ++ [(f.getD k []).take k], (startTo f k).size ++ [1], (startTo f k).gone ++ [false]⟩ := by
 unfold startTo
 rw [List.range_succ, List.map_append, List.replicate_succ', List.replicate_succ']
 rfl
def BuildRel (w : World) (g how : Nat) (f : List (List Rat)) (k : Nat) (wr : World) : Prop :=
 ∃ vf vs vg, CS w.heap.size g how vf vs vg (startTo f k) wr /\ Below w.heap.size w wr
def BuildRel2 (w : World) (g how : Nat) (f : List (List Rat)) (k : Nat) (v : Value) (wr : World) : Prop :=
 ∃ vf vs vg, CS w.heap.size g how vf vs vg (clsAt how f k) wr /\ OwnJ wr v ((List.range k).map (joinAt how f)) /\ (∀ b, v.ownBlock = some b -> w.heap.size <= b) /\ Below w.heap.size w wr
theorem OwnQQ.readsQQ {w : World} {A : Option Addr} {n c : Nat} {f : List (List Rat)} (h : OwnQQ w (.slice A n c) f) : ReadsQQ w w.heap.size A n f := OwnS.readS (fun h => OwnQ.reads_ h) h
theorem link_build (A : Option Addr) (n c m how : Nat) (f : List (List Rat)) (w : World) (h : OwnQQ w (.slice A n c) f) (hn : n <= 7) (hm1 : 1 <= m) (hm : m <= 1000000) (hs : ∀ l ∈ f, ∀ x ∈ l, QS m x) (hck : checkFar f = 0) (hh : how = 1 \/ how = 2 \/ how = 3) (hT : Tab w) :
  Calls Tryz.prog 24 #[.slice A n c, .int .i64 (how : Int)] w fun e w' => ∃ v, e = .returned (.tuple #[v, .int .i64 0]) /\ OwnJ w' v (buildJ how f) /\ (∀ b, v.ownBlock = some b -> w.heap.size <= b) /\ Below w.heap.size w w' := by
 obtain ⟨hf, hp, hz, h1, h64⟩ := symF_of hck
 have hlen : n = f.length := by
  obtain ⟨A', c', e⟩ := h.form
  injection e
 obtain ⟨gF, rfl⟩ := OwnS.addr h (by omega)
 have hchk := link_check (some ⟨gF, 0, none⟩) n c w.heap.size f w h.readsQQ zd (by omega) (fun l hl x hx => (hs l hl x hx).mono (by omega))
 rw [hck] at hchk
 have H := lh h
 have HF := lh hf
 have HS := lh hs
 have HT := lh hT
 have HCK := lh hchk
 have HH := lh hh
 have HLEN := lh hlen
 clear h hf hp hz hs hT hchk hck hlen
 go_enter Tryz.func24, Tryz.ntmps24
 go_upto_region 1 with fail
 go_cut [20] (fun v wc => v = .bool false /\ w = wc)
 case first =>
  rcases hh with rfl | rfl | rfl
  ·go_wp2
   go_meet
   exact ⟨rfl, rfl⟩
  ·go_wp2
   go_meet
   exact ⟨rfl, rfl⟩
  go_wp2
  go_meet
  exact ⟨rfl, rfl⟩
 case rest =>
  obtain ⟨rfl, rfl⟩ := hcut
  clear hh
  go_wp2_with fail
  refine HCK.out.mono ?_
  rintro e w1 ⟨rfl, hw1⟩
  clear HCK
  have b0 := Blk.new w1 107 #[.int .i64 (how : Int), .slice none 0 0, .slice none 0 0, .slice none 0 0]
  have hal := balloc1 w1 (.cells #[.int .i64 (how : Int), .slice none 0 0, .slice none 0 0, .slice none 0 0] 107)
  have hcl : CS w.heap.size w1.heap.size how (.slice none 0 0) (.slice none 0 0) (.slice none 0 0) (startTo f 0) (w1.alloc (.cells #[.int .i64 (how : Int), .slice none 0 0, .slice none 0 0, .slice none 0 0] 107)) :=
   ⟨⟨b0, OwnS.nil _ _ _, Own.nil_ _ _ _, Own.nil_ _ _ _⟩, hw1.size, (fun b h => by cases h), (fun b h => by cases h), (fun b h => by cases h)⟩
  have HI : Hid (BuildRel w w1.heap.size how f 0 (w1.alloc (.cells #[.int .i64 (how : Int), .slice none 0 0, .slice none 0 0, .slice none 0 0] 107))) := lh ⟨_, _, _, hcl, bthen hw1 hal⟩
  have lg : w.heap.size <= w1.heap.size := hw1.size
  clear b0 hal hcl
  go_wp2_with fail
  generalize w1.alloc (.cells #[.int .i64 (how : Int), .slice none 0 0, .slice none 0 0, .slice none 0 0] 107) = W at *
  generalize w1.heap.size = g at *
  clear hw1
  go_loopw [30] (fun p wr => ∃ k : Nat, k <= n /\ p = .int .i64 (k : Int) /\ BuildRel w g how f k wr) (fun p _ => n - (intOf p).toNat)
  case atStart => exact ⟨0, by omega, rfl, HI.out⟩
  case round =>
   obtain ⟨k, hk, rfl, vf, vs, vg, hcs, hbw⟩ := hrel
   rename World => wr
   clear HI
   by_cases hkn : k < n
   ·have k1 : (k : Int) < (n : Int) := by omega
    have k3 : (k : Int).toNat = k := by omega
    have hlen := HLEN.out
    have hkf : k < f.length := by omega
    have hx := OwnS.next Tryz.kindQQ H.out hbw
    obtain ⟨l, hl⟩ : ∃ l, f[k]? = some l := ⟨_, List.getElem?_eq_getElem hkf⟩
    have hll : l.length = n := by
     have e := HF.out.row k hkf
     rw [List.getD_eq_getElem?_getD, hl] at e
     rw [hlen]
     exact e
    obtain ⟨A1, m1, c1, hc1, hr1⟩ := OwnS.at_ hx hl
    obtain ⟨gr, rfl⟩ := OwnQ.addr hr1 (by omega)
    obtain rfl : m1 = n := by rw [OwnQ.len hr1]; exact hll
    have hcap : m1 <= c1 := by
     obtain ⟨A', c', e, h2, -⟩ := OwnW.form hr1
     injection e with e1 e2 e3
     omega
    have hcut1 := run_cutTo (P := Tryz.prog) (Tryz.eltQ).under (Tryz.eltQ).info (some ⟨gr, 0, none⟩) m1 c1 .i64 (k : Int) (by omega) (by omega)
    rw [cutA_zero, k3] at hcut1
    have hrd := ReadsW.front qC_len (OwnQ.reads_ hr1) (Nat.le_of_lt hkn)
    have hclone := fun w' (hb' : Below wr.heap.size wr w') => clone_q gr 0 k c1 wr.heap.size (l.take k) w' (ReadsW.below hrd hb') hb'.size (by omega)
    have hlk : (startTo f k).far.length <= 1000000 := by simp [startTo]; omega
    have hlk2 : (startTo f k).size.length <= 1000000 := by simp [startTo]; omega
    have hlk3 : (startTo f k).gone.length <= 1000000 := by simp [startTo]; omega
    have hst := startTo_succ f k
    rw [show f.getD k [] = l by rw [List.getD_eq_getElem?_getD, hl]; rfl] at hst
    have HST := lh hst
    obtain ⟨far, size, gone, hdef⟩ : ∃ far size gone, startTo f k = ⟨far, size, gone⟩ := ⟨_, _, _, rfl⟩
    rw [hdef] at hcs hlk hlk2 hlk3 HST
    have HCL := lh hclone
    have HLK : Hid (far.length <= 1000000) := lh hlk
    have HLK2 : Hid (size.length <= 1000000) := lh hlk2
    have HLK3 : Hid (gone.length <= 1000000) := lh hlk3
    have HCS := lh hcs
    have HBW := lh hbw
    obtain ⟨r0, r1, r2, r3, -, -, -, -⟩ := blk4 hcs.cls.blk
    have HDR := lh (hcs.next (bdrew0 wr))
    clear hclone hlk hlk2 hlk3 hst hdef hrd hx hr1 hll hl hcs hbw hlen hkf
    go_upto_region 10 with fail
    go_cut [] (fun wc => ∃ vf', CS w.heap.size g how vf' vs vg ⟨far ++ [l.take k], size, gone⟩ wc /\ Below w.heap.size w wc)
    case first =>
     go_region_law (first | (refine stepSR Tryz.kindQQ Tryz.eltQQ rfl (.tmp 36) (.tmp 41) rfl w5 _ far A5 k c5 (l.take k) (by simp [Act.eval, Act.put]) CS5.out.cls.far ho5 (by simp [Act.eval, Act.put]) HLK.out ?_; intro v6 w6 ho6 hg6; obtain ⟨A6, n6, c6, hv6⟩ := OwnS.form3 ho6; subst hv6; have d6 := CS5.out.cls.blk.texc (CS5.out.far1 hg6) (by decide); have CS6 := lh (CS5.out.addFar hg6 ho6); obtain ⟨p0, p1, p2, p3, f0, f1, f2, f3⟩ := blk4 d6) | (go_simp; go_at_call 61; (with_reducible refine (HCL.out _ (bdrew0 _)).mono ?_); rintro e w5 ⟨v5, rfl, ⟨A5, c5, hv5⟩, ho5, hfr5, hw5⟩; subst hv5; have CS5 := lh (HDR.out.next hw5); have HB5 := lh (HBW.out.trans ((bthen (bdrew0 wr) hw5).mono HBW.out.size)); obtain ⟨s0, s1, s2, s3, -, -, -, -⟩ := blk4 CS5.out.cls.blk; obtain ⟨t0, t1, t2, t3, -, -, -, -⟩ := blk4 (CS5.out.next (balloc1 w5 (.cells #[.slice A5 k c5] 73))).cls.blk))
     all_goals
      go_wp2
      go_meet
      exact ⟨_, CS6.out.1, HB5.out.trans (CS6.out.2.below HB5.out.size)⟩
    case rest =>
     obtain ⟨vf', hcs, hbw⟩ := hcut
     rename World => wq
     clear r0 r1 r2 r3 HDR HCS HBW HCL HLK
     obtain ⟨r0, r1, r2, r3, -, -, -, -⟩ := blk4 hcs.cls.blk
     have HCS := lh hcs
     have HBW := lh hbw
     clear hcs hbw
     go_upto_region 11 with fail
     go_cut [] (fun wc => ∃ vs', CS w.heap.size g how vf' vs' vg ⟨far ++ [l.take k], size ++ [1], gone⟩ wc /\ Below w.heap.size w wc)
     case first =>
      go_wp2_with (at_builtin; refine app1 (f := iv) Tryz.eltIntR rfl (.tmp 45) (.tmp 46) rfl wq _ size 1 (.int .i64 1) rfl rfl HCS.out.cls.size rfl rfl (by have := HLK2.out; unfold maxLen; omega) (by have := HLK2.out; omega) ?_; intro v7 w7 ho7 hg7; obtain ⟨A7, n7, k7c, hv7⟩ := Own.form3 ho7; subst hv7; have c7 := HCS.out.cls.blk.texc (HCS.out.size1 hg7) (by decide); have js7 := lh (HCS.out.addSize hg7 ho7); clear r0 r1 r2 r3 ho7 hg7; obtain ⟨r0, r1, r2, r3, f0, f1, f2, f3⟩ := blk4 c7; clear c7)
      go_meet
      exact ⟨_, js7.out.1, HBW.out.trans (js7.out.2.below HBW.out.size)⟩
     case rest =>
      obtain ⟨vs', hcs, hbw⟩ := hcut
      rename World => wz
      clear r0 r1 r2 r3 HCS HBW HLK2
      obtain ⟨r0, r1, r2, r3, -, -, -, -⟩ := blk4 hcs.cls.blk
      have HCS := lh hcs
      have HBW := lh hbw
      clear hcs hbw
      go_wp2_with (at_builtin; refine app1 Tryz.eltBool rfl (.tmp 50) (.tmp 51) rfl wz _ gone false _ rfl rfl HCS.out.cls.gone rfl rfl (by have := HLK3.out; unfold maxLen; omega) (by have := HLK3.out; omega) ?_; intro v9 w9 ho9 hg9; obtain ⟨A9, n9, k9c, hv9⟩ := Own.form3 ho9; subst hv9; have c9 := HCS.out.cls.blk.texc (HCS.out.gone1 hg9) (by decide); have js9 := lh (HCS.out.addGone hg9 ho9); clear r0 r1 r2 r3 ho9 hg9; obtain ⟨r0, r1, r2, r3, f0, f1, f2, f3⟩ := blk4 c9; clear c9)
      exact ⟨⟨k + 1, by omega, by go_num, _, _, _, by rw [HST.out]; exact js9.out.1, HBW.out.trans (js9.out.2.below HBW.out.size)⟩, by simp [intOf]; omega⟩
   obtain rfl : k = n := by omega
   have k1 : ¬ (k : Int) < (k : Int) := by omega
   have hst : startTo f k = clsAt how f 0 := by rw [HLEN.out, startTo_full]; rfl
   rw [hst] at hcs
   obtain ⟨n1, hn1⟩ : ∃ n1, k = n1 + 1 := ⟨k - 1, by have := HLEN.out; omega⟩
   have HN1 := lh hn1
   have k4 : (k : Int) - 1 = (n1 : Int) := by omega
   have k5 : IntKind.i64.wrap ((k : Int) - 1) = (n1 : Int) := by rw [k4]; simp [IntKind.wrap, IntKind.signed, IntKind.bits]; omega
   have HI : Hid (BuildRel2 w g how f 0 (.slice none 0 0) wr) := lh ⟨vf, vs, vg, hcs, OwnW.nil_ _ _ _ _, (fun b h => by cases h), hbw⟩
   clear hcs hbw hst hn1
   go_wp2_with fail
   go_loopw [10, 58] (fun v p wr => ∃ i : Nat, i <= n1 /\ p = .int .i64 (i : Int) /\ BuildRel2 w g how f i v wr) (fun _ p _ => n1 - (intOf p).toNat)
   case atStart => exact ⟨0, by omega, rfl, HI.out⟩
   case round =>
    obtain ⟨i, hi, rfl, vf, vs, vg, hcs, ho, hfr, hbw⟩ := hrel
    rename World => wq
    clear HI
    by_cases hin : i < n1
    ·have q1 : (i : Int) < (n1 : Int) := by omega
     have hlen := HLEN.out
     have hn1 := HN1.out
     obtain ⟨A, B, hj, hc⟩ := joined_at (how := how) (k := i) HF.out (by omega)
     have hw := walkC_at (how := how) (k := i) HF.out hm1 HS.out (by omega) (by omega)
     have hal := (alive_iff (inv_at (how := how) HF.out i (by omega)) (i := A) (by have := hj.ab; have := hj.bn; omega)).2 hj.pa
     have hpos := hw.pos A (by have := hj.ab; have := hj.bn; omega) hal
     have hjn := link_join g how (f.length + i) (64 * m + 2520) A B w.heap.size (betw (clsAt how f i).far A B) vf vs vg (clsAt how f i) wq hcs.cls hw (by omega) (by omega) (by omega) HH.out hj.scan hj.ab hj.bn (by omega) ⟨hcs.lg, hcs.lf, hcs.ls, hcs.lo⟩ (HT.out.next hbw)
     rw [<- hc] at hjn
     have he : joinAt how f i = ⟨A, B, (((clsAt how f i).size.getD A 0 + (clsAt how f i).size.getD B 0 : Nat) : Int), betw (clsAt how f i).far A B⟩ := by
      unfold joinAt joinQ
      rw [hj.scan]
     generalize (((clsAt how f i).size.getD A 0 + (clsAt how f i).size.getD B 0 : Nat) : Int) = S at *
     generalize betw (clsAt how f i).far A B = hq at *
     have hrg : (List.range (i + 1)).map (joinAt how f) = (List.range i).map (joinAt how f) ++ [⟨A, B, S, hq⟩] := by
      rw [List.range_succ, List.map_append, <- he]
      rfl
     have HJN := lh hjn
     have HRG := lh hrg
     have HLK := lh (show ((List.range i).map (joinAt how f)).length <= 1000000 by simp; omega)
     have HO := lh ho
     have HFR := lh hfr
     have HBW := lh hbw
     have HCS := lh hcs
     clear hjn hrg ho hfr hbw hcs hj hc hw hal hpos he hlen hn1
     go_wp2_with fail
     refine HJN.out.mono ?_
     rintro e w2 ⟨he, ⟨vf', vs', vg', hcl, l1, l2, l3⟩, hte⟩
     unfold jV at he
     subst he
     have ho2 := OwnW.texc HO.out hte (by decide)
     have cs2 : CS w.heap.size g how vf' vs' vg' (clsAt how f (i + 1)) w2 := ⟨hcl, HCS.out.lg, l1, l2, l3⟩
     have hb2 := HBW.out.trans (hte.below HBW.out.size)
     have HO2 := lh ho2
     have CS2 := lh cs2
     have HB2 := lh hb2
     clear hcl l1 l2 l3 hte ho2 cs2 hb2 HO HBW HCS HJN
     go_wp2_with (at_builtin; refine appJ rfl (.tmp 60) (.tmp 62) rfl w2 _ ((List.range i).map (joinAt how f)) ⟨A, B, S, hq⟩ rfl HO2.out rfl HLK.out ?_; intro v3 w3 ho3 hg3; have HO3 := lh ho3; have HG3 := lh hg3; clear ho3 hg3)
     have te3 : TExc [58] w.heap.size w2 w3 := TExc.grew HG3.out HO2.out (by simp) HFR.out
     exact ⟨⟨i + 1, by omega, by go_num, _, _, _, CS2.out.texc te3 (by decide) (by decide) (by decide) (by decide) (by decide), by rw [HRG.out]; exact HO3.out, grewL HG3.out HFR.out HB2.out.size, HB2.out.trans (te3.below HB2.out.size)⟩, by simp [intOf]; omega⟩
    obtain rfl : i = n1 := by omega
    have q1 : ¬ (i : Int) < (i : Int) := by omega
    have hbj : (List.range i).map (joinAt how f) = buildJ how f := by
     unfold buildJ
     rw [<- HLEN.out, HN1.out]
     rfl
    rw [hbj] at ho
    have HO := lh ho
    have HFR := lh hfr
    have HBW := lh hbw
    clear ho hfr hbw hcs hbj
    go_wp2
    go_returns
    exact ⟨_, rfl, HO.out, HFR.out, HBW.out⟩
theorem OwnJ.at_ {w : World} {g n c : Nat} {l : List Jn} (h : OwnJ w (.slice (some ⟨g, 0, none⟩) n c) l) {k : Nat} {j : Jn} (hj : l[k]? = some j) : AtJ w g (k * 8) j := by
 obtain ⟨A', c', h3, _⟩ := OwnW.form h
 injection h3 with _ hn _
 subst hn
 have hk : k < l.length := (List.getElem?_eq_some_iff.1 hj).1
 have hc : ∀ i, i < 8 -> w.cell? ⟨g, k * 8 + i, none⟩ = (jC j)[i]? := fun i hi => by
  rw [World.ownsRow.cellAt h (k * 8 + i) (by omega)]
  exact flatW_at jC_len l k i _ hj hi
 exact ⟨⟨hc 0 (by omega), hc 1 (by omega), hc 2 (by omega), hc 3 (by omega), hc 4 (by omega), hc 5 (by omega), hc 6 (by omega), hc 7 (by omega)⟩⟩
theorem OwnJ.addr {w : World} {A : Option Addr} {n c : Nat} {l : List Jn} (h : OwnJ w (.slice A n c) l) (hn : 0 < l.length) : n = l.length /\ ∃ g, A = some ⟨g, 0, none⟩ := by
 obtain ⟨A', c', h3, _⟩ := OwnW.form h
 injection h3 with h4 h5 h6
 refine ⟨h5, ?_⟩
 rcases h.2 with ⟨h3, h4⟩ | ⟨g, cap, cur, h3, _⟩
 ·omega
 injection h3 with h3 _ _
 exact ⟨g, h3⟩
theorem ownQ_one (w : World) (q : Rat) : OwnQ (w.alloc (.cells #[.bool (decide (q.num < 0)), .int .u64 (lo q.num.natAbs : Int), .string (mo q.num.natAbs), .int .u64 (lo ((qden q)) : Int), .string (mo ((qden q)))] 56)) (.slice (some ⟨w.heap.size, 0, none⟩) 1 1) [q] := by
 have h := World.ownsRow_lit (base := 0) (size := 5) (e := 56) w #[.bool (decide (q.num < 0)), .int .u64 (lo q.num.natAbs : Int), .string (mo q.num.natAbs), .int .u64 (lo ((qden q)) : Int), .string (mo ((qden q)))] 1 (Nat.zero_le _) (by unfold maxLen; omega) rfl
 exact h
def knownL : List (List Rat) := [[((0 : Int) : Rat)], [((1 : Int) : Rat)], [((3 : Int) : Rat)]]
theorem known_rows {w1 w2 w3 : World} {a b c : Rat} (h2 : Below (w1.alloc (.cells #[.bool (decide (a.num < 0)), .int .u64 (lo a.num.natAbs : Int), .string (mo a.num.natAbs), .int .u64 (lo ((qden a)) : Int), .string (mo ((qden a)))] 56)).heap.size (w1.alloc (.cells #[.bool (decide (a.num < 0)), .int .u64 (lo a.num.natAbs : Int), .string (mo a.num.natAbs), .int .u64 (lo ((qden a)) : Int), .string (mo ((qden a)))] 56)) w2) (h3 : Below (w2.alloc (.cells #[.bool (decide (b.num < 0)), .int .u64 (lo b.num.natAbs : Int), .string (mo b.num.natAbs), .int .u64 (lo ((qden b)) : Int), .string (mo ((qden b)))] 56)).heap.size (w2.alloc (.cells #[.bool (decide (b.num < 0)), .int .u64 (lo b.num.natAbs : Int), .string (mo b.num.natAbs), .int .u64 (lo ((qden b)) : Int), .string (mo ((qden b)))] 56)) w3) :
  OwnQQ ((w3.alloc (.cells #[.bool (decide (c.num < 0)), .int .u64 (lo c.num.natAbs : Int), .string (mo c.num.natAbs), .int .u64 (lo ((qden c)) : Int), .string (mo ((qden c)))] 56)).alloc (.cells #[.slice (some ⟨w1.heap.size, 0, none⟩) 1 1, .slice (some ⟨w2.heap.size, 0, none⟩) 1 1, .slice (some ⟨w3.heap.size, 0, none⟩) 1 1] 73)) (.slice (some ⟨w3.heap.size + 1, 0, none⟩) 3 3) [[a], [b], [c]] := by
 have o1 := OwnW.next (OwnW.next (ownQ_one w1 a) h2) ((balloc1 w2 (.cells #[.bool (decide (b.num < 0)), .int .u64 (lo b.num.natAbs : Int), .string (mo b.num.natAbs), .int .u64 (lo ((qden b)) : Int), .string (mo ((qden b)))] 56)).trans (h3.mono (Below.size (balloc1 _ _))))
 have o2 := OwnW.next (ownQ_one w2 b) h3
 have o3 := ownQ_one w3 c
 have hb := balloc1 w3 (.cells #[.bool (decide (c.num < 0)), .int .u64 (lo c.num.natAbs : Int), .string (mo c.num.natAbs), .int .u64 (lo ((qden c)) : Int), .string (mo ((qden c)))] 56)
 have o1 := OwnW.next o1 hb
 have o2 := OwnW.next o2 hb
 have hl := Own.lit (w3.alloc (.cells #[.bool (decide (c.num < 0)), .int .u64 (lo c.num.natAbs : Int), .string (mo c.num.natAbs), .int .u64 (lo ((qden c)) : Int), .string (mo ((qden c)))] 56)) 73 SW.v [(⟨some ⟨w1.heap.size, 0, none⟩, 1, 1⟩ : SW), ⟨some ⟨w2.heap.size, 0, none⟩, 1, 1⟩, ⟨some ⟨w3.heap.size, 0, none⟩, 1, 1⟩] (by unfold maxLen; simp)
 rw [World.size_alloc] at hl
 have ha := balloc1 (w3.alloc (.cells #[.bool (decide (c.num < 0)), .int .u64 (lo c.num.natAbs : Int), .string (mo c.num.natAbs), .int .u64 (lo ((qden c)) : Int), .string (mo ((qden c)))] 56)) (.cells #[.slice (some ⟨w1.heap.size, 0, none⟩) 1 1, .slice (some ⟨w2.heap.size, 0, none⟩) 1 1, .slice (some ⟨w3.heap.size, 0, none⟩) 1 1] 73)
 refine ⟨_, hl, rfl, fun i r b' hr hb' => ?_⟩
 match i, hr, hb' with
 | 0, hr, hb' =>
  obtain rfl := Option.some.inj hr
  obtain rfl := Option.some.inj hb'
  exact OwnW.next o1 ha
 | 1, hr, hb' =>
  obtain rfl := Option.some.inj hr
  obtain rfl := Option.some.inj hb'
  exact OwnW.next o2 ha
 | 2, hr, hb' =>
  obtain rfl := Option.some.inj hr
  obtain rfl := Option.some.inj hb'
  exact OwnW.next o3 ha
 | n + 3, hr, hb' => simp at hr
theorem known_QS : ∀ l ∈ knownL, ∀ y ∈ l, QS 2 y := by
 intro l hl y hy
 have h : l = [((0 : Int) : Rat)] \/ l = [((1 : Int) : Rat)] \/ l = [((3 : Int) : Rat)] := by simpa [knownL] using hl
 rcases h with rfl | rfl | rfl <;> (obtain rfl := List.mem_singleton.1 hy; exact ⟨Nat.le_of_ble_eq_true (by kernel_rfl), Nat.le_of_ble_eq_true (by kernel_rfl)⟩)
theorem known_learn : learnB knownL = true := by kernel_rfl
theorem known_build : buildJ 1 (farsQ knownL) = [⟨0, 1, 2, 1⟩, ⟨2, 3, 3, 4⟩] := by kernel_rfl
theorem known_check : checkFar (farsQ knownL) = 0 := fars_check (by decide) (by decide) (by
 intro a ha b hb
 have h : ∀ a ∈ knownL, a.length = 1 := by decide
 rw [h a ha, h b hb])
theorem law_known (w : World) (hT : Tab w) : Calls Tryz.prog 18 #[] w (Ret (.bool true) w) := by
 have hof0 := fun w => frac_of 0 w (by omega) (by omega)
 have hof1 := fun w => frac_of 1 w (by omega) (by omega)
 have hof3 := fun w => frac_of 3 w (by omega) (by omega)
 have hfars := fun (B : Nat) (A : Option Addr) (c : Nat) (w' : World) (h : ReadsQQ w' B A 3 knownL) (hB : B <= w'.heap.size) (hT : Tab w') => link_fars A 3 c B 2 knownL w' h hB (by omega) (by omega) (by omega) known_QS hT known_learn
 have hq := fars_QS (m := 2) (wd := 1) known_QS (by omega) (by
  have h : ∀ a ∈ knownL, a.length = 1 := by decide
  exact h)
 have hbuild := fun (A : Option Addr) (c : Nat) (w' : World) (h : OwnQQ w' (.slice A 3 c) (farsQ knownL)) (hT : Tab w') => link_build A 3 c _ 1 (farsQ knownL) w' h (by omega) (by omega) (by omega) hq known_check (Or.inl rfl) hT
 rw [known_build] at hbuild
 have hrows := @known_rows
 have hlen : (farsQ knownL).length = 3 := by decide
 have HROWS : Hid (∀ (w1 w2 w3 : World), Below (w1.alloc (.cells #[.bool (decide ((((0 : Int) : Rat)).num < 0)), .int .u64 (lo (((((0 : Int) : Rat)).num).natAbs) : Int), .string (mo (((((0 : Int) : Rat)).num).natAbs)), .int .u64 (lo ((qden (((0 : Int) : Rat)))) : Int), .string (mo ((qden (((0 : Int) : Rat)))))] 56)).heap.size (w1.alloc (.cells #[.bool (decide ((((0 : Int) : Rat)).num < 0)), .int .u64 (lo (((((0 : Int) : Rat)).num).natAbs) : Int), .string (mo (((((0 : Int) : Rat)).num).natAbs)), .int .u64 (lo ((qden (((0 : Int) : Rat)))) : Int), .string (mo ((qden (((0 : Int) : Rat)))))] 56)) w2 -> Below (w2.alloc (.cells #[.bool (decide ((((1 : Int) : Rat)).num < 0)), .int .u64 (lo (((((1 : Int) : Rat)).num).natAbs) : Int), .string (mo (((((1 : Int) : Rat)).num).natAbs)), .int .u64 (lo ((qden (((1 : Int) : Rat)))) : Int), .string (mo ((qden (((1 : Int) : Rat)))))] 56)).heap.size (w2.alloc (.cells #[.bool (decide ((((1 : Int) : Rat)).num < 0)), .int .u64 (lo (((((1 : Int) : Rat)).num).natAbs) : Int), .string (mo (((((1 : Int) : Rat)).num).natAbs)), .int .u64 (lo ((qden (((1 : Int) : Rat)))) : Int), .string (mo ((qden (((1 : Int) : Rat)))))] 56)) w3 ->
   OwnQQ ((w3.alloc (.cells #[.bool (decide ((((3 : Int) : Rat)).num < 0)), .int .u64 (lo (((((3 : Int) : Rat)).num).natAbs) : Int), .string (mo (((((3 : Int) : Rat)).num).natAbs)), .int .u64 (lo ((qden (((3 : Int) : Rat)))) : Int), .string (mo ((qden (((3 : Int) : Rat)))))] 56)).alloc (.cells #[.slice (some ⟨w1.heap.size, 0, none⟩) 1 1, .slice (some ⟨w2.heap.size, 0, none⟩) 1 1, .slice (some ⟨w3.heap.size, 0, none⟩) 1 1] 73)) (.slice (some ⟨w3.heap.size + 1, 0, none⟩) 3 3) knownL) := lh fun w1 w2 w3 h2 h3 => known_rows h2 h3
 clear hrows hq
 generalize hx0 : ((0 : Int) : Rat) = x0 at hof0 HROWS
 generalize hx1 : ((1 : Int) : Rat) = x1 at hof1 HROWS
 generalize hx3 : ((3 : Int) : Rat) = x3 at hof3 HROWS
 clear hx0 hx1 hx3
 unfold qV at hof0 hof1 hof3
 have his1 := fun w => hand_is 1 1 1 w (by omega) (by omega) (by omega) (by omega) (by omega) (by kernel_rfl) ⟨Nat.le_of_ble_eq_true (by kernel_rfl), Nat.le_of_ble_eq_true (by kernel_rfl)⟩
 have his4 := fun w => hand_is 4 4 1 w (by omega) (by omega) (by omega) (by omega) (by omega) (by kernel_rfl) ⟨Nat.le_of_ble_eq_true (by kernel_rfl), Nat.le_of_ble_eq_true (by kernel_rfl)⟩
 generalize hy1 : (1 : Rat) = y1 at his1 hbuild
 generalize hy4 : (4 : Rat) = y4 at his4 hbuild
 clear hy1 hy4
 unfold qV at his1 his4
 have H0 := lh hof0
 have H1 := lh hof1
 have H3 := lh hof3
 have HF := lh hfars
 have HB := lh hbuild
 have HI1 := lh his1
 have HI4 := lh his4
 have HT := lh hT
 have HLEN := lh hlen
 clear hof0 hof1 hof3 hfars hbuild his1 his4 hT hlen
 go_enter Tryz.func18, Tryz.ntmps18
 go_wp2_with fail
 refine (H0.out w).mono ?_
 rintro e w1 ⟨rfl, hb1⟩
 go_wp2_with fail
 refine (H1.out _).mono ?_
 rintro e w2 ⟨rfl, hb2⟩
 go_wp2_with fail
 refine (H3.out _).mono ?_
 rintro e w3 ⟨rfl, hb3⟩
 have hr := HROWS.out w1 w2 w3 hb2 hb3
 have hb := (hb1.trans (((balloc1 w1 _).trans (hb2.mono (Below.size (balloc1 _ _)))).mono hb1.size))
 have hb := hb.trans (((balloc1 w2 _).trans (hb3.mono (Below.size (balloc1 _ _)))).mono hb.size)
 have hb := hb.trans ((balloc2 w3 (.cells #[.bool (decide (x3.num < 0)), .int .u64 (lo x3.num.natAbs : Int), .string (mo x3.num.natAbs), .int .u64 (lo ((qden x3)) : Int), .string (mo ((qden x3)))] 56) (.cells #[.slice (some ⟨w1.heap.size, 0, none⟩) 1 1, .slice (some ⟨w2.heap.size, 0, none⟩) 1 1, .slice (some ⟨w3.heap.size, 0, none⟩) 1 1] 73)).mono hb.size)
 have HR := lh hr
 have HBW := lh hb
 clear hr hb hb1 hb2 hb3
 go_wp2_with fail
 refine (HF.out _ _ _ _ HR.out.readsQQ zd (HT.out.next HBW.out)).mono ?_
 rintro e w4 ⟨v, rfl, ho, hfr, hb4⟩
 obtain ⟨A, c, hv⟩ := OwnS.form ho
 rw [HLEN.out] at hv
 subst hv
 have HB4 := lh (bthen HBW.out hb4)
 have HO := lh ho
 clear ho hfr hb4 HR HBW
 go_wp2_with fail
 refine (HB.out _ _ _ HO.out (HT.out.next HB4.out)).mono ?_
 rintro e w5 ⟨v, rfl, ho, hfr, hb5⟩
 obtain ⟨A5, c5, hv, -⟩ := OwnW.form ho
 have hv : v = .slice A5 2 c5 := hv
 subst hv
 obtain ⟨-, g5, rfl⟩ := OwnJ.addr ho (by simp)
 have j0 := OwnJ.at_ ho (k := 0) rfl
 have j1 := OwnJ.at_ ho (k := 1) rfl
 have HB5 := lh (bthen HB4.out hb5)
 clear ho hfr hb5 HO HB4 HF HB H0 H1 H3 HROWS HT HLEN
 have q0 := j0.c8
 have q1 := j1.c8
 simp only [Nat.zero_mul, Nat.zero_add, Nat.one_mul, Nat.reduceAdd, Nat.reduceMul] at q0 q1
 obtain ⟨a0, a1, a2, a3, a4, a5, a6, a7⟩ := q0
 obtain ⟨b0, b1, b2, b3, b4, b5, b6, b7⟩ := q1
 have l0 := j0.lt
 have l1 := j1.lt
 go_wp2_with fail
 refine (HI1.out _).mono ?_
 rintro e w6 ⟨rfl, hw6⟩
 have j1 := j1.below hw6 l1
 have q1 := j1.c8
 simp only [Nat.zero_mul, Nat.zero_add, Nat.one_mul, Nat.reduceAdd, Nat.reduceMul] at q1
 clear a0 a1 a2 a3 a4 a5 a6 a7 b0 b1 b2 b3 b4 b5 b6 b7 j0 l0 l1 HI1
 obtain ⟨b0, b1, b2, b3, b4, b5, b6, b7⟩ := q1
 have HB6 := lh (bthen HB5.out hw6)
 clear hw6 HB5
 go_wp2_with fail
 refine (HI4.out _).mono ?_
 rintro e w7 ⟨rfl, hw7⟩
 have HB7 := lh (bthen HB6.out hw7)
 clear hw7 HB6 b0 b1 b2 b3 b4 b5 b6 b7
 go_wp2
 go_ret
 exact ⟨rfl, HB7.out⟩
end Go.Proofs.YtecnjlcfoobepaaGreatDoor
