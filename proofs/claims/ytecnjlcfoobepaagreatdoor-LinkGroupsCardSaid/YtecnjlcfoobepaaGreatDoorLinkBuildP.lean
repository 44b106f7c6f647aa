import Derived.Test.YtecnjlcfoobepaaGreatDoorLinkFarsP
import Derived.Test.YtecnjlcfoobepaaGreatDoorFracDivQ
import Derived.Lib.SliceRun
namespace Go.Proofs.YtecnjlcfoobepaaGreatDoor
set_option maxRecDepth 100000
set_option maxHeartbeats 40000000
open Go.RowKit
set_option linter.all false
structure ClsAt (w : World) (g how : Nat) (vf vs vg : Value) (c : Cls) : Prop where
 blk : Blk w g 107 #[.int .i64 (how : Int), vf, vs, vg]
 far : OwnQQ w vf c.far
 size : Own w 3 iv vs c.size
 gone : Own w 4 Value.bool vg c.gone
theorem ClsAt.next {w w' : World} {g how : Nat} {vf vs vg : Value} {c : Cls} (h : ClsAt w g how vf vs vg c) (hb : Below w.heap.size w w') : ClsAt w' g how vf vs vg c :=
 ⟨h.blk.below hb h.blk.lt, OwnS.next Tryz.kindQQ h.far hb, h.size.below hb h.size.lt, h.gone.below hb h.gone.lt⟩
theorem ClsAt.drew {w : World} {g how : Nat} {vf vs vg : Value} {c : Cls} (h : ClsAt w g how vf vs vg c) : ClsAt w.drew g how vf vs vg c := h.next (Jf w)
theorem Kk {w : World} {g : Nat} {t : TypeId} {a b c d : Value} (h : Blk w g t #[a, b, c, d]) : w.cell? ⟨g, 0, none⟩ = some a /\ w.cell? ⟨g, 1, none⟩ = some b /\ w.cell? ⟨g, 2, none⟩ = some c /\ w.cell? ⟨g, 3, none⟩ = some d /\ w.frozen? ⟨g, 0, none⟩ = false /\ w.frozen? ⟨g, 1, none⟩ = false /\ w.frozen? ⟨g, 2, none⟩ = false /\ w.frozen? ⟨g, 3, none⟩ = false :=
 ⟨h.cell 0, h.cell 1, h.cell 2, h.cell 3, h.frozen 0, h.frozen 1, h.frozen 2, h.frozen 3⟩
theorem Jrm (w : World) (o : Obj) : Below w.heap.size w (w.alloc o).drew := Ja (Jb w o) (Jf _)
theorem Blk.c4 {w : World} {g : Nat} {t : TypeId} {a b c d : Value} (h : Blk w g t #[a, b, c, d]) : w.cell? ⟨g, 0, none⟩ = some a /\ w.cell? ⟨g, 1, none⟩ = some b /\ w.cell? ⟨g, 2, none⟩ = some c /\ w.cell? ⟨g, 3, none⟩ = some d := ⟨h.cell 0, h.cell 1, h.cell 2, h.cell 3⟩
theorem Blk.c8 {w : World} {g : Nat} {t : TypeId} {a b c d e x y z : Value} (h : Blk w g t #[a, b, c, d, e, x, y, z]) : w.cell? ⟨g, 0, none⟩ = some a /\ w.cell? ⟨g, 1, none⟩ = some b /\ w.cell? ⟨g, 2, none⟩ = some c /\ w.cell? ⟨g, 3, none⟩ = some d /\ w.cell? ⟨g, 4, none⟩ = some e /\ w.cell? ⟨g, 5, none⟩ = some x /\ w.cell? ⟨g, 6, none⟩ = some y /\ w.cell? ⟨g, 7, none⟩ = some z :=
 ⟨h.cell 0, h.cell 1, h.cell 2, h.cell 3, h.cell 4, h.cell 5, h.cell 6, h.cell 7⟩
theorem ClsAt.btw {w : World} {g how n m a b : Nat} {vf vs vg : Value} {c : Cls} (h : ClsAt w g how vf vs vg c) (hw : WalkC n m c) (eF : a < b) (hb : b < n) :
  ∃ gf gr k cf cr, vf = .slice (some ⟨gf, 0, none⟩) n cf /\ w.cell? ⟨gf, b, none⟩ = some (.slice (some ⟨gr, 0, none⟩) k cr) /\ k = b /\ AtQ w gr (a * 5) (betw c.far a b) := by
 have bP : b < c.far.length := by rw [hw.lenf]; exact hb
 obtain ⟨A, cf, rfl⟩ := h.far.form
 obtain ⟨gf, rfl⟩ := OwnS.addr h.far (by omega)
 have dJ : c.far[b]? = some c.far[b] := List.getElem?_eq_getElem bP
 have hl := hw.row b hb
 rw [List.getD_eq_getElem?_getD, dJ] at hl
 have hl : (c.far[b]).length = b := hl
 obtain ⟨A2, k, cr, h1, h2⟩ := OwnS.at_ h.far dJ
 obtain ⟨gr, rfl⟩ := OwnQ.addr h2 (by omega)
 have hk := OwnQ.len h2
 refine ⟨gf, gr, k, cf, cr, by rw [hw.lenf], h1, by omega, OwnQ.at_ h2 ?_⟩
 have e : betw c.far a b = (c.far[b])[a]'(by omega) := by
  unfold betw
  rw [show max a b = b by omega, show min a b = a by omega, List.getD_eq_getElem?_getD, List.getD_eq_getElem?_getD, dJ]
  show ((c.far[b])[a]?).getD 0 = _
  rw [List.getElem?_eq_getElem (by omega)]
  rfl
 rw [e]
 exact List.getElem?_eq_getElem (by omega)
theorem Vq (g how n m a b : Nat) (vf vs vg : Value) (c : Cls) (w : World) (h : ClsAt w g how vf vs vg c) (hw : WalkC n m c) (ha : a < n) (hb : b < n) (eF : a ≠ b) :
  Calls Tryz.prog 97 #[.pointer (some ⟨g, 0, none⟩), .int .i64 (a : Int), .int .i64 (b : Int)] w (Ret (qV (betw c.far a b)) w) := by
 have key : ∃ l u, l < u /\ u < n /\ min (a : Int) (b : Int) = ((l : Nat) : Int) /\ max (a : Int) (b : Int) = ((u : Nat) : Int) /\ betw c.far a b = betw c.far l u := by
  rcases Nat.lt_or_gt_of_ne eF with h1 | h1
  ·exact ⟨a, b, h1, hb, by omega, by omega, rfl⟩
  exact ⟨b, a, h1, ha, by omega, by omega, Jdc _ _ _⟩
 obtain ⟨l, u, kN, kO, kP, kQ, e⟩ := key
 rw [e]
 obtain ⟨gf, gr, k, cf, cr, rfl, hc, hk, gM⟩ := h.btw hw kN kO
 generalize betw c.far l u = q at *
 obtain ⟨r0, r1, r2, r3, -, -, -, -⟩ := Kk h.blk
 have hB := Jb w (.cells #[.bool false, .int .u64 0, .string ⟨#[]⟩, .int .u64 0, .string ⟨#[]⟩] 56)
 have eG := Ka hc
 have kR := Ka r0
 have e1 := hB.cell (p := ⟨gf, u, none⟩) eG
 have e2 := hB.cell (p := ⟨g, 1, none⟩) kR
 rw [hc] at e1
 rw [r1] at e2
 have gM := gM.alloc (.cells #[.bool false, .int .u64 0, .string ⟨#[]⟩, .int .u64 0, .string ⟨#[]⟩] 56)
 obtain ⟨x0, x1, x2, x3, x4⟩ := gM.c5
 have b0 := Blk.new w 56 #[.bool false, .int .u64 0, .string ⟨#[]⟩, .int .u64 0, .string ⟨#[]⟩]
 have eH : w.heap.size <= w.heap.size := Nat.le_refl _
 obtain ⟨kS, kT, kU, kV, kW, kX, kY, kZ, lB, lC, lD, lE, lF, lG, lH⟩ := b0.f5
 unfold qV
 have k1 : (l : Int) < (k : Int) := by omega
 have k2 : (u : Int) < (n : Int) := by omega
 clear h hw gM hc r0 r1 r2 r3 e ha hb eF
 go_enter Tryz.func97, Tryz.ntmps97
 go_wp2
 go_returns
 exact ⟨rfl, Jb _ _⟩
theorem Jl3 {W wn : World} {g h : Nat} {t t' : TypeId} {a b c d e a' b' c' d' e' x y z u v x' y' z' u' v' : Value} (hc : Below W.heap.size W wn) (ca : Blk wn g t #[a, b, c, d, e]) (cd : Blk wn h t' #[a', b', c', d', e']) (x9 : g ≠ h) (hg : W.heap.size <= g) (hh : W.heap.size <= h) :
  Born2 W t #[x, y, z, u, v] t' #[x', y', z', u', v'] (.pointer (some ⟨g, 0, none⟩)) (.pointer (some ⟨h, 0, none⟩)) ((((((((((wn.setCell ⟨g, 0, none⟩ x).setCell ⟨g, 1, none⟩ y).setCell ⟨g, 2, none⟩ z).setCell ⟨g, 3, none⟩ u).setCell ⟨g, 4, none⟩ v).setCell ⟨h, 0, none⟩ x').setCell ⟨h, 1, none⟩ y').setCell ⟨h, 2, none⟩ z').setCell ⟨h, 3, none⟩ u').setCell ⟨h, 4, none⟩ v') := by
 refine ⟨g, h, rfl, rfl, x9, hg, hh, ?_, ?_, ?_⟩
 ·have e1 := (((((((((ca.set_ 0 x).set_ 1 y).set_ 2 z).set_ 3 u).set_ 4 v).far (p := ⟨h, 0, none⟩) x9 x').far (p := ⟨h, 1, none⟩) x9 y').far (p := ⟨h, 2, none⟩) x9 z').far (p := ⟨h, 3, none⟩) x9 u').far (p := ⟨h, 4, none⟩) x9 v'
  simpa using e1
 ·have e2 := (((((((((cd.far (p := ⟨g, 0, none⟩) (Ne.symm x9) x).far (p := ⟨g, 1, none⟩) (Ne.symm x9) y).far (p := ⟨g, 2, none⟩) (Ne.symm x9) z).far (p := ⟨g, 3, none⟩) (Ne.symm x9) u).far (p := ⟨g, 4, none⟩) (Ne.symm x9) v).set_ 0 x').set_ 1 y').set_ 2 z').set_ 3 u').set_ 4 v'
  simpa using e2
 exact Jb0 (Jb0 hc hg _ _ _ _ _) hh _ _ _ _ _
theorem Jrt {W wn : World} {g : Nat} {t t' : TypeId} {a b c d e x y z u v : Value} {cs' : Array Value} (hc : Below W.heap.size W wn) (ca : Blk wn g t #[a, b, c, d, e]) (hg : W.heap.size <= g) :
  Born2 W t #[x, y, z, u, v] t' cs' (.pointer (some ⟨g, 0, none⟩)) (.pointer (some ⟨wn.heap.size, 0, none⟩)) ((((((wn.setCell ⟨g, 0, none⟩ x).setCell ⟨g, 1, none⟩ y).setCell ⟨g, 2, none⟩ z).setCell ⟨g, 3, none⟩ u).setCell ⟨g, 4, none⟩ v).alloc (.cells cs' t')) := by
 have h1 := (((((ca.set_ 0 x).set_ 1 y).set_ 2 z).set_ 3 u).set_ 4 v).alloc (.cells cs' t')
 have h2 := Blk.new (((((wn.setCell ⟨g, 0, none⟩ x).setCell ⟨g, 1, none⟩ y).setCell ⟨g, 2, none⟩ z).setCell ⟨g, 3, none⟩ u).setCell ⟨g, 4, none⟩ v) t' cs'
 simp only [World.size_setCell] at h2
 have := ca.lt
 exact ⟨_, _, rfl, rfl, by omega, hg, hc.size, by simpa using h1, h2, Ja (Jb0 hc hg _ _ _ _ _) (Jb _ _)⟩
theorem Born2.to {W : World} {t t' : TypeId} {cs cs' : Array Value} {v v' : Value} {wc : World} (h : Born2 W t' cs' t cs v' v wc) : Born2 W t cs t' cs' v v' wc := h.swap
theorem Jja (g how n m A B i : Nat) (S : Int) (hq : Rat) (vf vs vg : Value) (c : Cls) (w : World) (h : ClsAt w g how vf vs vg c) (hw : WalkC n m c) (hm : m <= 1000000000) (cL : 1 <= m) (hh : how = 1 \/ how = 2 \/ how = 3) (hA : A < n) (hB : B < n) (hi : i < n) (jF : A ≠ i) (jG : B ≠ i)
  (hS : S = ((c.size.getD A 0 + c.size.getD B 0 : Nat) : Int)) (bC : 0 < c.size.getD A 0 + c.size.getD B 0) (hT : Tab w) :
  Calls Tryz.prog 98 #[.pointer (some ⟨g, 0, none⟩), .agg #[.int .i64 (A : Int), .int .i64 (B : Int), .int .i64 S, .bool (decide (hq.num < 0)), .int .u64 (lo hq.num.natAbs : Int), .string (mo hq.num.natAbs), .int .u64 (lo ((qden hq)) : Int), .string (mo ((qden hq)))], .int .i64 (i : Int)] w
   (Ret (qV (Yj how (c.size.getD A 0) (c.size.getD B 0) (betw c.far A i) (betw c.far B i))) w) := by
 have j7 := fun w' (aF : Below w.heap.size w w') => Vq g how n m A i vf vs vg c w' (h.next aF) hw hA hi jF
 have bP := fun w' (aF : Below w.heap.size w w') => Vq g how n m B i vf vs vg c w' (h.next aF) hw hB hi jG
 have qx := hw.qs.betw cL A i
 have qy := hw.qs.betw cL B i
 generalize betw c.far A i = x at *
 generalize betw c.far B i = y at *
 have sa := hw.sz A
 have sb := hw.sz B
 have eI : c.size[A]? = some (c.size.getD A 0) := by rw [List.getD_eq_getElem?_getD, List.getElem?_eq_getElem (by rw [hw.lens]; omega)]; rfl
 have eJ : c.size[B]? = some (c.size.getD B 0) := by rw [List.getD_eq_getElem?_getD, List.getElem?_eq_getElem (by rw [hw.lens]; omega)]; rfl
 generalize c.size.getD A 0 = za at *
 generalize c.size.getD B 0 = zb at *
 obtain ⟨As, cs, eK, -⟩ := Own.form h.size
 have aM := h.size
 rw [eK] at aM
 obtain ⟨gs, rfl⟩ := Own.addr aM (by rw [hw.lens]; omega)
 have gY := Own.cellf aM eI
 have gZ := Own.cellf aM eJ
 have lA := hw.lens
 subst eK
 rw [lA] at h
 unfold iv at gY gZ
 obtain ⟨r, hr⟩ : ∃ r, Yj how za zb x y = r := ⟨_, rfl⟩
 rw [hr]
 have dK := h.blk
 unfold qV at j7 bP ⊢
 have HB1 := lh j7
 have HB2 := lh bP
 have HX := lh qx
 have HY := lh qy
 have HR := lh hr
 have HS := lh hS
 clear hS
 have HT := lh hT
 clear j7 bP qx qy hr hT h aM eI eJ jF jG lA
 generalize lI : decide (hq.num < 0) = ng at *
 clear lI
 generalize hq.num.natAbs = qn at *
 generalize qden hq = qd at *
 have ka := At1.mk' gY
 have kb := At1.mk' gZ
 have gN := dK.lt
 clear gY gZ
 obtain ⟨b0, b1, hB, hZ⟩ := bx2 w 58 #[.int .i64 (A : Int), .int .i64 (B : Int), .int .i64 S, .bool ng, .int .u64 (lo qn : Int), .string (mo qn), .int .u64 (lo qd : Int), .string (mo qd)] 56 #[.bool false, .int .u64 0, .string ⟨#[]⟩, .int .u64 0, .string ⟨#[]⟩]
 have b2 := dK.below hB gN
 have b3 := ka.below hB ka.lt
 have b4 := kb.below hB kb.lt
 have HB1 := lh (fun w' (aF : Below _ _ w') => HB1.out w' (Ja hB aF))
 have HB2 := lh (fun w' (aF : Below _ _ w') => HB2.out w' (Ja hB aF))
 go_enter Tryz.func98, Tryz.ntmps98
 go_wp2_with fail
 generalize ((w.alloc (.cells #[.int .i64 (A : Int), .int .i64 (B : Int), .int .i64 S, .bool ng, .int .u64 (lo qn : Int), .string (mo qn), .int .u64 (lo qd : Int), .string (mo qd)] 58)).alloc (.cells #[.bool false, .int .u64 0, .string ⟨#[]⟩, .int .u64 0, .string ⟨#[]⟩] 56)) = W at *
 have b0a := At1.mk' (b0.cell 0)
 have b0b := At1.mk' (b0.cell 1)
 have b0c := At1.mk' (b0.cell 2)
 have b2c := At1.mk' (b2.cell 2)
 clear b0 dK ka kb gN
 go_upto_region 1 with fail
 go_cut [7, 8] (fun v7 v8 wc => Born2 W 56 #[.bool (decide (x.num < 0)), .int .u64 (lo x.num.natAbs : Int), .string (mo x.num.natAbs), .int .u64 (lo ((qden x)) : Int), .string (mo ((qden x)))] 56 #[.bool (decide (y.num < 0)), .int .u64 (lo y.num.natAbs : Int), .string (mo y.num.natAbs), .int .u64 (lo ((qden y)) : Int), .string (mo ((qden y)))] v7 v8 wc)
 case first =>
  obtain ⟨b0aq0, b0aq1⟩ := b0a.c2; have aG := b0a.lt; have c0a := b0a.drew; have y8 := c0a.lt; obtain ⟨b0bq0, b0bq1⟩ := b0b.c2; have aH := b0b.lt; have c0b := b0b.drew; have y9 := c0b.lt; have hc := Jf W; go_region_held3 (fun w' => w'.cell? ⟨w.heap.size, 0, none⟩ = some (.int .i64 (A : Int)) /\ w'.cell? ⟨w.heap.size, 1, none⟩ = some (.int .i64 (B : Int))) (go_keep) (first | (go_at_call 97; (first | with_reducible refine (HB1.out _ hc).mono ?_ | with_reducible refine (HB1.out _ (Ja hc (Jb _ _))).mono ?_ | with_reducible refine (HB1.out _ (Ja hc (Jl _ _ _))).mono ?_ | with_reducible refine (HB1.out _ (Ja (Jb _ _) (Jf _))).mono ?_ | with_reducible refine (HB1.out _ (Ja (Jl _ _ _) (Jf _))).mono ?_); rintro e w1 ⟨rfl, j9⟩; (try clear o5 s9); obtain ⟨c0a, o5, s9⟩ := c0a.zc2 j9; (try clear y8); have y8 := c0a.lt; (try clear t7 t8); obtain ⟨c0b, t7, t8⟩ := c0b.zc2 j9; (try clear y9); have y9 := c0b.lt; (try have iA := ca.lt); (try have ca := ca.yy j9); (try (first | have cd := cd.below j9 cd.lt | have cd := (cd.alloc _).below j9 (cd.alloc _).lt)); (first | have hc := Ja hc j9 | (have bB := iA; have j7 := Qo hc j9; obtain ⟨cd, bI, hc⟩ := j7) | (have j7 := Qg hc j9; obtain ⟨ca, j6, hc⟩ := j7) | (have j7 := Qo hc j9; obtain ⟨ca, j6, hc⟩ := j7) | (have j7 := Jdb hc j9; obtain ⟨ca, j6, cd, bI, bB, hc⟩ := j7) | (have j7 := Jfb hc j9; obtain ⟨ca, j6, cd, bI, bB, hc⟩ := j7)); (try have aK := Jo aG j6); (try have c0anc := Jo aG bI); (try have aL := Jo aH j6); (try have c0bnc := Jo aH bI); (try have lJ := Jo bB zd)) | (go_at_call 97; (first | with_reducible refine (HB2.out _ hc).mono ?_ | with_reducible refine (HB2.out _ (Ja hc (Jb _ _))).mono ?_ | with_reducible refine (HB2.out _ (Ja hc (Jl _ _ _))).mono ?_ | with_reducible refine (HB2.out _ (Ja (Jb _ _) (Jf _))).mono ?_ | with_reducible refine (HB2.out _ (Ja (Jl _ _ _) (Jf _))).mono ?_); rintro e w2 ⟨rfl, o0⟩; (try clear o5 s9); obtain ⟨c0a, o5, s9⟩ := c0a.zc2 o0; (try clear y8); have y8 := c0a.lt; (try clear t7 t8); obtain ⟨c0b, t7, t8⟩ := c0b.zc2 o0; (try clear y9); have y9 := c0b.lt; (try have iA := ca.lt); (try have ca := ca.yy o0); (try (first | have cd := cd.below o0 cd.lt | have cd := (cd.alloc _).below o0 (cd.alloc _).lt)); (first | have hc := Ja hc o0 | (have bB := iA; have j7 := Qo hc o0; obtain ⟨cd, bI, hc⟩ := j7) | (have j7 := Qg hc o0; obtain ⟨ca, j6, hc⟩ := j7) | (have j7 := Qo hc o0; obtain ⟨ca, j6, hc⟩ := j7) | (have j7 := Jdb hc o0; obtain ⟨ca, j6, cd, bI, bB, hc⟩ := j7) | (have j7 := Jfb hc o0; obtain ⟨ca, j6, cd, bI, bB, hc⟩ := j7)); (try have aK := Jo aG j6); (try have c0anc := Jo aG bI); (try have aL := Jo aH j6); (try have c0bnc := Jo aH bI); (try have lJ := Jo bB zd); (try (have jH := ca.lt; obtain ⟨eL, eM, eO, eP, eQ, eR, eT, eU, eV, eX, eY, eZ, fA, fB, fC⟩ := ca.f5)); (try (have nB := cd.lt; obtain ⟨lK, lL, lM, lN, lO, lP, lQ, lR, lS, lT, lU, lV, lW, lZ, mA⟩ := cd.f5))))
  all_goals
   go_wp2
   go_meet
   have aC := hc.size
   first
    | with_reducible exact Jsc hc
    | with_reducible exact Jru hc
    | with_reducible exact Jrt hc ca j6
    | with_reducible exact (Jrt hc ca j6).to
    |(with_reducible refine Jl3 hc ca cd ?_ ?_ ?_) <;> omega
    |(with_reducible refine Jl3 hc cd ca ?_ ?_ ?_) <;> omega
    |(with_reducible refine (Jl3 hc ca cd ?_ ?_ ?_).to) <;> omega
    |(with_reducible refine (Jl3 hc cd ca ?_ ?_ ?_).to) <;> omega
 case rest =>
  obtain ⟨g7, g8, rfl, rfl, x9, h7, h8, b7, b8, bR⟩ := hcut
  have b0a := b0a.below bR b0a.lt
  have b0b := b0b.below bR b0b.lt
  have b0c := b0c.below bR b0c.lt
  have b2c := b2c.below bR b2c.lt
  have b1 := b1.below bR b1.lt
  have b2 := b2.below bR b2.lt
  have b3 := b3.below bR b3.lt
  have b4 := b4.below bR b4.lt
  have eB := Ja hB bR
  have eG := b1.lt
  rename World => wc
  clear HB1 HB2
  rcases hh with rfl | rfl | rfl
  ·have er : (if y < x then y else x) = r := by rw [<- HR.out]; rfl
   have cM := Jp4 x y wc (HX.out.mono (by omega)) (HY.out.mono (by omega))
   rw [er] at cM
   unfold qV at cM
   have HM := lh cM
   clear cM er HR
   obtain ⟨bJ, bK, bL, bM, bN⟩ := b7.c5; obtain ⟨fD, fE, fF, fG, fH⟩ := b8.c5; obtain ⟨dL, dM, dN, dO⟩ := b2.c4
   go_wp2_with fail
   refine HM.out.mono ?_
   rintro e w1 ⟨rfl, j9⟩
   have b1 := b1.below j9 b1.lt
   have eC := Ja eB j9
   obtain ⟨fI, fJ, fK, fL, fM, fN, fO, fP, fQ, fR, bS, bT, bU, bV, bW⟩ := b1.f5
   go_wp2
   refine bodyPost_ret (v := .agg #[.bool (decide (r.num < 0)), .int .u64 (lo r.num.natAbs : Int), .string (mo r.num.natAbs), .int .u64 (lo ((qden r)) : Int), .string (mo ((qden r)))]) (by simp [results, Tryz.results98, go_sem, bS, bT, bU, bV, bW]) rfl ?_
   exact ⟨rfl, Qy eC (by omega) _ _ _ _ _⟩
  ·have er : (if x < y then y else x) = r := by rw [<- HR.out]; rfl
   have cM := Jp5 x y wc (HX.out.mono (by omega)) (HY.out.mono (by omega))
   rw [er] at cM
   unfold qV at cM
   have HM := lh cM
   clear cM er HR
   obtain ⟨bJ, bK, bL, bM, bN⟩ := b7.c5; obtain ⟨fD, fE, fF, fG, fH⟩ := b8.c5; obtain ⟨dL, dM, dN, dO⟩ := b2.c4
   go_wp2_with fail
   refine HM.out.mono ?_
   rintro e w1 ⟨rfl, j9⟩
   have b1 := b1.below j9 b1.lt
   have eC := Ja eB j9
   obtain ⟨fI, fJ, fK, fL, fM, fN, fO, fP, fQ, fR, bS, bT, bU, bV, bW⟩ := b1.f5
   go_wp2
   refine bodyPost_ret (v := .agg #[.bool (decide (r.num < 0)), .int .u64 (lo r.num.natAbs : Int), .string (mo r.num.natAbs), .int .u64 (lo ((qden r)) : Int), .string (mo ((qden r)))]) (by simp [results, Tryz.results98, go_sem, bS, bT, bU, bV, bW]) rfl ?_
   exact ⟨rfl, Qy eC (by omega) _ _ _ _ _⟩
  have er : (x * ((za : Int) : Rat) + y * ((zb : Int) : Rat)) / ((S : Int) : Rat) = r := by
   rw [<- HR.out, HS.out]
   unfold Yj
   rw [if_neg (by omega), if_neg (by omega)]
   rfl
  have jI : ((S : Int) : Rat) ≠ 0 := by
   rw [HS.out]
   intro e
   have e2 : ((za + zb : Nat) : Int) = 0 := by exact_mod_cast e
   omega
  have iB : -9223372036854775808 <= S /\ S <= 9223372036854775807 := by rw [HS.out]; omega
  have qa : QS 10 ((za : Int) : Rat) := by
   have h := QS.nat (k := 10) (n := za) (by omega) (by omega)
   exact_mod_cast h
  have qb : QS 10 ((zb : Int) : Rat) := by
   have h := QS.nat (k := 10) (n := zb) (by omega) (by omega)
   exact_mod_cast h
  have qs : QS 11 ((S : Int) : Rat) := by
   rw [HS.out]
   have h := QS.nat (k := 11) (n := za + zb) (by omega) (by omega)
   exact_mod_cast h
  have iC := fun w => Jbi (za : Int) w (by omega) (by omega)
  have iD := fun w => Jbi (zb : Int) w (by omega) (by omega)
  have iE := fun w => Jbi S w iB.1 iB.2
  generalize ((za : Int) : Rat) = ra at *
  generalize ((zb : Int) : Rat) = rb at *
  generalize ((S : Int) : Rat) = rs at *
  have iF := fun w (hT : Tab w) => Jck x ra w (HX.out.mono (by omega)) (qa.mono (by omega)) hT
  have iG := fun w (hT : Tab w) => Jck y rb w (HY.out.mono (by omega)) (qb.mono (by omega)) hT
  have q1 := HX.out.mul qa
  have q2 := HY.out.mul qb
  generalize x * ra = p at *
  generalize y * rb = q at *
  have iH := fun w (hT : Tab w) => Jez p q w (q1.mono (by omega)) (q2.mono (by omega)) hT
  have q3 := q1.add q2
  generalize p + q = s at *
  have gO := fun w (hT : Tab w) => Jp6 s rs w (q3.mono (by omega)) (qs.mono (by omega)) jI hT
  rw [er] at gO
  unfold qV at iC iD iE iF iG iH gO
  have HOA := lh iC
  have HOB := lh iD
  have HOS := lh iE
  have HMA := lh iF
  have HMB := lh iG
  have HAD := lh iH
  have HDV := lh gO
  have tT := HT.out.next eB
  have k1 : (A : Int) < (n : Int) := by omega
  have k2 : (B : Int) < (n : Int) := by omega
  have k3 : ¬ (A : Int) < 0 := by omega
  have k4 : ¬ (B : Int) < 0 := by omega
  clear iC iD iE iF iG iH gO q1 q2 q3 qa qb qs er jI iB HR HX HY
  obtain ⟨dL, dM, dN, dO⟩ := b2.c4
  go_upto_region 7 with fail
  go_cut [9] (fun v w2 => Jb6 wc 56 #[.bool (decide (s.num < 0)), .int .u64 (lo s.num.natAbs : Int), .string (mo s.num.natAbs), .int .u64 (lo ((qden s)) : Int), .string (mo ((qden s)))] v w2)
  case first =>
   clear hw hm cL hi sa sb bC HS HT eB hZ x9 h7 h8 bR eG b1 b2 dL dM dN dO HOS HDV b0c hB
   obtain ⟨b0aq0, b0aq1⟩ := b0a.c2; have aG := b0a.lt; have c0a := b0a.drew; have y8 := c0a.lt; obtain ⟨b0bq0, b0bq1⟩ := b0b.c2; have aH := b0b.lt; have c0b := b0b.drew; have y9 := c0b.lt; obtain ⟨b2cq0, b2cq1⟩ := b2c.c2; have bX := b2c.lt; have c2c := b2c.drew; have aI := c2c.lt; obtain ⟨mB, mC⟩ := b3.c2; have fS := b3.lt; have c3 := b3.drew; have cH := c3.lt; obtain ⟨mD, mE⟩ := b4.c2; have fT := b4.lt; have c4 := b4.drew; have cI := c4.lt; obtain ⟨bJ, bK, bL, bM, bN⟩ := b7.c5; have fU := b7.lt; have c7 := b7.drew; have cJ := c7.lt; obtain ⟨fD, fE, fF, fG, fH⟩ := b8.c5; have fV := b8.lt; have c8 := b8.drew; have cK := c8.lt; have hc := Jf wc; have tT : Tab wc.drew := tT; go_region_held3 (fun w' => w'.cell? ⟨w.heap.size, 0, none⟩ = some (.int .i64 (A : Int)) /\ w'.cell? ⟨w.heap.size, 1, none⟩ = some (.int .i64 (B : Int)) /\ w'.cell? ⟨g, 2, none⟩ = some (.slice (some ⟨gs, 0, none⟩) n cs) /\ w'.cell? ⟨gs, A, none⟩ = some (.int .i64 (za : Int)) /\ w'.cell? ⟨gs, B, none⟩ = some (.int .i64 (zb : Int)) /\ w'.cell? ⟨g7, 0, none⟩ = some (.bool (decide (x.num < 0))) /\ w'.cell? ⟨g7, 1, none⟩ = some (.int .u64 (lo x.num.natAbs : Int)) /\ w'.cell? ⟨g7, 2, none⟩ = some (.string (mo x.num.natAbs)) /\ w'.cell? ⟨g7, 3, none⟩ = some (.int .u64 (lo ((qden x)) : Int)) /\ w'.cell? ⟨g7, 4, none⟩ = some (.string (mo ((qden x)))) /\ w'.cell? ⟨g8, 0, none⟩ = some (.bool (decide (y.num < 0))) /\ w'.cell? ⟨g8, 1, none⟩ = some (.int .u64 (lo y.num.natAbs : Int)) /\ w'.cell? ⟨g8, 2, none⟩ = some (.string (mo y.num.natAbs)) /\ w'.cell? ⟨g8, 3, none⟩ = some (.int .u64 (lo ((qden y)) : Int)) /\ w'.cell? ⟨g8, 4, none⟩ = some (.string (mo ((qden y))))) (go_keep) (first | (go_at_call 38; (with_reducible refine (HOA.out _).mono ?_); rintro e w1 ⟨rfl, j9⟩; (try clear o5 s9); obtain ⟨c0a, o5, s9⟩ := c0a.zc2 j9; (try clear y8); have y8 := c0a.lt; (try clear t7 t8); obtain ⟨c0b, t7, t8⟩ := c0b.zc2 j9; (try clear y9); have y9 := c0b.lt; (try clear aA aB); obtain ⟨c2c, aA, aB⟩ := c2c.zc2 j9; (try clear aI); have aI := c2c.lt; (try clear aN aO); obtain ⟨c3, aN, aO⟩ := c3.zc2 j9; (try clear cH); have cH := c3.lt; (try clear aP aQ); obtain ⟨c4, aP, aQ⟩ := c4.zc2 j9; (try clear cI); have cI := c4.lt; (try clear aR aS aT aU aV); obtain ⟨c7, aR, aS, aT, aU, aV⟩ := c7.zc5 j9; (try clear cJ); have cJ := c7.lt; (try clear aW aX aY aZ bA); obtain ⟨c8, aW, aX, aY, aZ, bA⟩ := c8.zc5 j9; (try clear cK); have cK := c8.lt; (try have ca := ca.yy j9); (first | have tT := tT.next j9 | have tT := (tT.next (Jb _ _)).next j9 | have tT := (tT.next (Jl _ _ _)).next j9); (first | have hc := Ja hc j9 | (have j7 := Qg hc j9; obtain ⟨ca, j6, hc⟩ := j7) | (have j7 := Qo hc j9; obtain ⟨ca, j6, hc⟩ := j7)); (try have aK := Jo aG j6); (try have aL := Jo aH j6); (try have bE := Jo bX j6); (try have cN := Jo fS j6); (try have cO := Jo fT j6); (try have cP := Jo fU j6); (try have cQ := Jo fV j6)) | (go_at_call 38; (with_reducible refine (HOB.out _).mono ?_); rintro e w2 ⟨rfl, o0⟩; (try clear o5 s9); obtain ⟨c0a, o5, s9⟩ := c0a.zc2 o0; (try clear y8); have y8 := c0a.lt; (try clear t7 t8); obtain ⟨c0b, t7, t8⟩ := c0b.zc2 o0; (try clear y9); have y9 := c0b.lt; (try clear aA aB); obtain ⟨c2c, aA, aB⟩ := c2c.zc2 o0; (try clear aI); have aI := c2c.lt; (try clear aN aO); obtain ⟨c3, aN, aO⟩ := c3.zc2 o0; (try clear cH); have cH := c3.lt; (try clear aP aQ); obtain ⟨c4, aP, aQ⟩ := c4.zc2 o0; (try clear cI); have cI := c4.lt; (try clear aR aS aT aU aV); obtain ⟨c7, aR, aS, aT, aU, aV⟩ := c7.zc5 o0; (try clear cJ); have cJ := c7.lt; (try clear aW aX aY aZ bA); obtain ⟨c8, aW, aX, aY, aZ, bA⟩ := c8.zc5 o0; (try clear cK); have cK := c8.lt; (try have ca := ca.yy o0); (first | have tT := tT.next o0 | have tT := (tT.next (Jb _ _)).next o0 | have tT := (tT.next (Jl _ _ _)).next o0); (first | have hc := Ja hc o0 | (have j7 := Qg hc o0; obtain ⟨ca, j6, hc⟩ := j7) | (have j7 := Qo hc o0; obtain ⟨ca, j6, hc⟩ := j7)); (try have aK := Jo aG j6); (try have aL := Jo aH j6); (try have bE := Jo bX j6); (try have cN := Jo fS j6); (try have cO := Jo fT j6); (try have cP := Jo fU j6); (try have cQ := Jo fV j6)) | (go_at_call 37; (first | with_reducible refine (HMA.out _ tT).mono ?_ | with_reducible refine (HMA.out _ (tT.next (Jb _ _))).mono ?_ | with_reducible refine (HMA.out _ (tT.next (Jl _ _ _))).mono ?_); rintro e w3 ⟨rfl, bF⟩; (try clear o5 s9); obtain ⟨c0a, o5, s9⟩ := c0a.zc2 bF; (try clear y8); have y8 := c0a.lt; (try clear t7 t8); obtain ⟨c0b, t7, t8⟩ := c0b.zc2 bF; (try clear y9); have y9 := c0b.lt; (try clear aA aB); obtain ⟨c2c, aA, aB⟩ := c2c.zc2 bF; (try clear aI); have aI := c2c.lt; (try clear aN aO); obtain ⟨c3, aN, aO⟩ := c3.zc2 bF; (try clear cH); have cH := c3.lt; (try clear aP aQ); obtain ⟨c4, aP, aQ⟩ := c4.zc2 bF; (try clear cI); have cI := c4.lt; (try clear aR aS aT aU aV); obtain ⟨c7, aR, aS, aT, aU, aV⟩ := c7.zc5 bF; (try clear cJ); have cJ := c7.lt; (try clear aW aX aY aZ bA); obtain ⟨c8, aW, aX, aY, aZ, bA⟩ := c8.zc5 bF; (try clear cK); have cK := c8.lt; (try have ca := ca.yy bF); (first | have tT := tT.next bF | have tT := (tT.next (Jb _ _)).next bF | have tT := (tT.next (Jl _ _ _)).next bF); (first | have hc := Ja hc bF | (have j7 := Qg hc bF; obtain ⟨ca, j6, hc⟩ := j7) | (have j7 := Qo hc bF; obtain ⟨ca, j6, hc⟩ := j7)); (try have aK := Jo aG j6); (try have aL := Jo aH j6); (try have bE := Jo bX j6); (try have cN := Jo fS j6); (try have cO := Jo fT j6); (try have cP := Jo fU j6); (try have cQ := Jo fV j6)) | (go_at_call 37; (first | with_reducible refine (HMB.out _ tT).mono ?_ | with_reducible refine (HMB.out _ (tT.next (Jb _ _))).mono ?_ | with_reducible refine (HMB.out _ (tT.next (Jl _ _ _))).mono ?_); rintro e w4 ⟨rfl, bG⟩; (try clear o5 s9); obtain ⟨c0a, o5, s9⟩ := c0a.zc2 bG; (try clear y8); have y8 := c0a.lt; (try clear t7 t8); obtain ⟨c0b, t7, t8⟩ := c0b.zc2 bG; (try clear y9); have y9 := c0b.lt; (try clear aA aB); obtain ⟨c2c, aA, aB⟩ := c2c.zc2 bG; (try clear aI); have aI := c2c.lt; (try clear aN aO); obtain ⟨c3, aN, aO⟩ := c3.zc2 bG; (try clear cH); have cH := c3.lt; (try clear aP aQ); obtain ⟨c4, aP, aQ⟩ := c4.zc2 bG; (try clear cI); have cI := c4.lt; (try clear aR aS aT aU aV); obtain ⟨c7, aR, aS, aT, aU, aV⟩ := c7.zc5 bG; (try clear cJ); have cJ := c7.lt; (try clear aW aX aY aZ bA); obtain ⟨c8, aW, aX, aY, aZ, bA⟩ := c8.zc5 bG; (try clear cK); have cK := c8.lt; (try have ca := ca.yy bG); (first | have tT := tT.next bG | have tT := (tT.next (Jb _ _)).next bG | have tT := (tT.next (Jl _ _ _)).next bG); (first | have hc := Ja hc bG | (have j7 := Qg hc bG; obtain ⟨ca, j6, hc⟩ := j7) | (have j7 := Qo hc bG; obtain ⟨ca, j6, hc⟩ := j7)); (try have aK := Jo aG j6); (try have aL := Jo aH j6); (try have bE := Jo bX j6); (try have cN := Jo fS j6); (try have cO := Jo fT j6); (try have cP := Jo fU j6); (try have cQ := Jo fV j6)) | (go_at_call 124; (first | with_reducible refine (HAD.out _ tT).mono ?_ | with_reducible refine (HAD.out _ (tT.next (Jb _ _))).mono ?_ | with_reducible refine (HAD.out _ (tT.next (Jl _ _ _))).mono ?_); rintro e w5 ⟨rfl, bH⟩; (try clear o5 s9); obtain ⟨c0a, o5, s9⟩ := c0a.zc2 bH; (try clear y8); have y8 := c0a.lt; (try clear t7 t8); obtain ⟨c0b, t7, t8⟩ := c0b.zc2 bH; (try clear y9); have y9 := c0b.lt; (try clear aA aB); obtain ⟨c2c, aA, aB⟩ := c2c.zc2 bH; (try clear aI); have aI := c2c.lt; (try clear aN aO); obtain ⟨c3, aN, aO⟩ := c3.zc2 bH; (try clear cH); have cH := c3.lt; (try clear aP aQ); obtain ⟨c4, aP, aQ⟩ := c4.zc2 bH; (try clear cI); have cI := c4.lt; (try clear aR aS aT aU aV); obtain ⟨c7, aR, aS, aT, aU, aV⟩ := c7.zc5 bH; (try clear cJ); have cJ := c7.lt; (try clear aW aX aY aZ bA); obtain ⟨c8, aW, aX, aY, aZ, bA⟩ := c8.zc5 bH; (try clear cK); have cK := c8.lt; (try have ca := ca.yy bH); (first | have hc := Ja hc bH | (have j7 := Qg hc bH; obtain ⟨ca, j6, hc⟩ := j7) | (have j7 := Qo hc bH; obtain ⟨ca, j6, hc⟩ := j7)); (try have aK := Jo aG j6); (try have aL := Jo aH j6); (try have bE := Jo bX j6); (try have cN := Jo fS j6); (try have cO := Jo fT j6); (try have cP := Jo fU j6); (try have cQ := Jo fV j6); (try (have jH := ca.lt; obtain ⟨eL, eM, eO, eP, eQ, eR, eT, eU, eV, eX, eY, eZ, fA, fB, fC⟩ := ca.f5))))
   all_goals
    go_wp2
    go_meet
    (first | with_reducible exact Ji2 hc ca j6 | with_reducible exact Jso hc | with_reducible exact Ji2 (Ja hc (Jb _ _)) (Blk.new _ _ _) hc.size)
  case rest =>
   obtain ⟨g9, rfl, h9, b9, gP⟩ := hcut
   rename World => w2
   have b0c := b0c.below gP b0c.lt
   have b1 := b1.below gP b1.lt
   have tT := tT.next gP
   have eC := Ja eB gP
   have eG := b1.lt
   clear HOA HOB HMA HMB HAD b3 b4 b7 b8 b0a b0b b2c
   go_upto_region 8 with fail
   go_cut [10] (fun v w3 => Jb6 w2 56 #[.bool (decide (r.num < 0)), .int .u64 (lo r.num.natAbs : Int), .string (mo r.num.natAbs), .int .u64 (lo ((qden r)) : Int), .string (mo ((qden r)))] v w3)
   case first =>
    clear hw hm cL hi sa sb bC HS HT eB eC hZ x9 h7 h8 bR eG b1 hB
    obtain ⟨b0cq0, b0cq1⟩ := b0c.c2; have fW := b0c.lt; have c0c := b0c.drew; have cR := c0c.lt; obtain ⟨mF, mG, mH, mI, mJ⟩ := b9.c5; have jJ := b9.lt; have c9 := b9.drew; have gQ := c9.lt; have hc := Jf w2; have tT : Tab w2.drew := tT; go_region_held3 (fun w' => w'.cell? ⟨w.heap.size, 2, none⟩ = some (.int .i64 S) /\ w'.cell? ⟨g9, 0, none⟩ = some (.bool (decide (s.num < 0))) /\ w'.cell? ⟨g9, 1, none⟩ = some (.int .u64 (lo s.num.natAbs : Int)) /\ w'.cell? ⟨g9, 2, none⟩ = some (.string (mo s.num.natAbs)) /\ w'.cell? ⟨g9, 3, none⟩ = some (.int .u64 (lo ((qden s)) : Int)) /\ w'.cell? ⟨g9, 4, none⟩ = some (.string (mo ((qden s))))) (go_keep) (first | (go_at_call 38; (with_reducible refine (HOS.out _).mono ?_); rintro e w1 ⟨rfl, j9⟩; (try clear bY bZ); obtain ⟨c0c, bY, bZ⟩ := c0c.zc2 j9; (try clear cR); have cR := c0c.lt; (try clear dP dQ dR dS dT); obtain ⟨c9, dP, dQ, dR, dS, dT⟩ := c9.zc5 j9; (try clear gQ); have gQ := c9.lt; (try have ca := ca.yy j9); (first | have tT := tT.next j9 | have tT := (tT.next (Jb _ _)).next j9 | have tT := (tT.next (Jl _ _ _)).next j9); (first | have hc := Ja hc j9 | (have j7 := Qg hc j9; obtain ⟨ca, j6, hc⟩ := j7) | (have j7 := Qo hc j9; obtain ⟨ca, j6, hc⟩ := j7)); (try have fX := Jo fW j6); (try have iI := Jo jJ j6)) | (go_at_call 87; (first | with_reducible refine (HDV.out _ tT).mono ?_ | with_reducible refine (HDV.out _ (tT.next (Jb _ _))).mono ?_ | with_reducible refine (HDV.out _ (tT.next (Jl _ _ _))).mono ?_); rintro e w2 ⟨rfl, o0⟩; (try clear bY bZ); obtain ⟨c0c, bY, bZ⟩ := c0c.zc2 o0; (try clear cR); have cR := c0c.lt; (try clear dP dQ dR dS dT); obtain ⟨c9, dP, dQ, dR, dS, dT⟩ := c9.zc5 o0; (try clear gQ); have gQ := c9.lt; (try have ca := ca.yy o0); (first | have hc := Ja hc o0 | (have j7 := Qg hc o0; obtain ⟨ca, j6, hc⟩ := j7) | (have j7 := Qo hc o0; obtain ⟨ca, j6, hc⟩ := j7)); (try have fX := Jo fW j6); (try have iI := Jo jJ j6); (try (have jH := ca.lt; obtain ⟨eL, eM, eO, eP, eQ, eR, eT, eU, eV, eX, eY, eZ, fA, fB, fC⟩ := ca.f5))))
    all_goals
     go_wp2
     go_meet
     (first | with_reducible exact Ji2 hc ca j6 | with_reducible exact Jso hc | with_reducible exact Ji2 (Ja hc (Jb _ _)) (Blk.new _ _ _) hc.size)
   case rest =>
    obtain ⟨g10, rfl, nC, b10, fY⟩ := hcut
    rename World => w3
    have b1 := b1.below fY b1.lt
    have mK := Ja eC fY
    have ne1 : ¬ g10 = w.heap.size + 1 := by omega
    have ne2 : ¬ w.heap.size + 1 = g10 := by omega
    clear HOS HDV b0c b9
    obtain ⟨jK, jL, jM, jN, jO⟩ := b10.c5
    obtain ⟨fI, fJ, fK, fL, fM, fN, fO, fP, fQ, fR, bS, bT, bU, bV, bW⟩ := b1.f5
    go_wp2
    refine bodyPost_ret (v := .agg #[.bool (decide (r.num < 0)), .int .u64 (lo r.num.natAbs : Int), .string (mo r.num.natAbs), .int .u64 (lo ((qden r)) : Int), .string (mo ((qden r)))]) (by simp [results, Tryz.results98, go_sem, bS, bT, bU, bV, bW]) rfl ?_
    exact ⟨rfl, Qy mK (by omega) _ _ _ _ _⟩
theorem Blk.q8 {w : World} {g : Nat} {t : TypeId} {a b c d e x y z : Value} (h : Blk w g t #[a, b, c, d, e, x, y, z]) : w.frozen? ⟨g, 0, none⟩ = false /\ w.frozen? ⟨g, 1, none⟩ = false /\ w.frozen? ⟨g, 2, none⟩ = false /\ w.frozen? ⟨g, 3, none⟩ = false /\ w.frozen? ⟨g, 4, none⟩ = false /\ w.frozen? ⟨g, 5, none⟩ = false /\ w.frozen? ⟨g, 6, none⟩ = false /\ w.frozen? ⟨g, 7, none⟩ = false :=
 ⟨h.frozen 0, h.frozen 1, h.frozen 2, h.frozen 3, h.frozen 4, h.frozen 5, h.frozen 6, h.frozen 7⟩
abbrev put8 (w : World) (g : Nat) (a b c d e x y z : Value) : World := (((((((w.setCell ⟨g, 0, none⟩ a).setCell ⟨g, 1, none⟩ b).setCell ⟨g, 2, none⟩ c).setCell ⟨g, 3, none⟩ d).setCell ⟨g, 4, none⟩ e).setCell ⟨g, 5, none⟩ x).setCell ⟨g, 6, none⟩ y).setCell ⟨g, 7, none⟩ z
theorem Blk.put8 {w : World} {g : Nat} {t : TypeId} {a b c d e x y z a' b' c' d' e' x' y' z' : Value} (h : Blk w g t #[a, b, c, d, e, x, y, z]) : Blk (put8 w g a' b' c' d' e' x' y' z') g t #[a', b', c', d', e', x', y', z'] := by
 have e1 := (((((((h.set_ 0 a').set_ 1 b').set_ 2 c').set_ 3 d').set_ 4 e').set_ 5 x').set_ 6 y').set_ 7 z'
 simpa using e1
theorem Blk.far8 {w : World} {g g' : Nat} {t : TypeId} {cs : Array Value} {a' b' c' d' e' x' y' z' : Value} (h : Blk w g t cs) (x9 : g ≠ g') : Blk (Go.Proofs.YtecnjlcfoobepaaGreatDoor.put8 w g' a' b' c' d' e' x' y' z') g t cs :=
 (((((((h.far (p := ⟨g', 0, none⟩) x9 a').far (p := ⟨g', 1, none⟩) x9 b').far (p := ⟨g', 2, none⟩) x9 c').far (p := ⟨g', 3, none⟩) x9 d').far (p := ⟨g', 4, none⟩) x9 e').far (p := ⟨g', 5, none⟩) x9 x').far (p := ⟨g', 6, none⟩) x9 y').far (p := ⟨g', 7, none⟩) x9 z'
theorem Blk.far5' {w : World} {g g' i j k l m : Nat} {t : TypeId} {cs : Array Value} (h : Blk w g t cs) (x9 : g ≠ g') (x y z u v : Value) : Blk (((((w.setCell ⟨g', i, none⟩ x).setCell ⟨g', j, none⟩ y).setCell ⟨g', k, none⟩ z).setCell ⟨g', l, none⟩ u).setCell ⟨g', m, none⟩ v) g t cs :=
 ((((h.far (p := ⟨g', i, none⟩) x9 x).far (p := ⟨g', j, none⟩) x9 y).far (p := ⟨g', k, none⟩) x9 z).far (p := ⟨g', l, none⟩) x9 u).far (p := ⟨g', m, none⟩) x9 v
theorem Jr1 {B g : Nat} {w w' : World} (h : Below B w w') (hg : B <= g) (a b c d e x y z : Value) : Below B w (put8 w' g a b c d e x y z) :=
 (((((((h.setCell hg a).setCell hg b).setCell hg c).setCell hg d).setCell hg e).setCell hg x).setCell hg y).setCell hg z
def optJ : Option (Nat × Nat × Rat) -> Jn
 | none => ⟨0, 0, 0, 0⟩
 | some (a, b, h) => ⟨a, b, 0, h⟩
def jA (j : Jn) : Array Value := #[.int .i64 j.a, .int .i64 j.b, .int .i64 j.size, .bool (decide (j.high.num < 0)), .int .u64 (lo j.high.num.natAbs : Int), .string (mo j.high.num.natAbs), .int .u64 (lo ((qden j.high)) : Int), .string (mo ((qden j.high)))]
def Jdz (w : World) (g0 gj : Nat) (o : Option (Nat × Nat × Rat)) (f : Value) (wr : World) : Prop :=
 f = .bool o.isSome /\ Blk wr g0 58 (jA ⟨0, 0, 0, 0⟩) /\ Blk wr gj 58 (jA (optJ o)) /\ Below w.heap.size w wr
theorem Jdd {l : List Bool} {i : Nat} {x : Bool} (h : l[i]? = some x) : Qq l i = !x := by
 unfold Qq
 rw [List.getD_eq_getElem?_getD, h]
 rfl
theorem Ja6 {al : Nat -> Bool} {D : Nat -> Nat -> Rat} {a l : Nat} {o o' : Option (Nat × Nat × Rat)} (h : Zi al D a o l = o') (hn : ¬ (a < l /\ al a = true /\ al l = true)) : Zi al D a o (l + 1) = o' := by
 show Yg al D a l (Zi al D a o l) = o'
 rw [h]
 unfold Yg
 rw [if_neg hn]
theorem Jf8 {al : Nat -> Bool} {D : Nat -> Nat -> Rat} {a l : Nat} {o : Option (Nat × Nat × Rat)} (h : Zi al D a o l = none) (hn : a < l /\ al a = true /\ al l = true) : Zi al D a o (l + 1) = some (a, l, D a l) := by
 show Yg al D a l (Zi al D a o l) = _
 rw [h]
 unfold Yg
 rw [if_pos hn]
theorem Jf7 {al : Nat -> Bool} {D : Nat -> Nat -> Rat} {a l x y : Nat} {q : Rat} {o : Option (Nat × Nat × Rat)} (h : Zi al D a o l = some (x, y, q)) (hn : a < l /\ al a = true /\ al l = true) : Zi al D a o (l + 1) = if D a l < q then some (a, l, D a l) else some (x, y, q) := by
 show Yg al D a l (Zi al D a o l) = _
 rw [h]
 unfold Yg
 rw [if_pos hn]
theorem Jl7 {al : Nat -> Bool} {D : Nat -> Nat -> Rat} {P : Rat -> Prop} (hP : ∀ a b, P (D a b)) {a : Nat} {o : Option (Nat × Nat × Rat)} (ho : ∀ x y q, o = some (x, y, q) -> P q) : ∀ l x y q, Zi al D a o l = some (x, y, q) -> P q := by
 intro l
 induction l with
 | zero => exact ho
 | succ l ih =>
  intro x y q h
  by_cases hn : a < l /\ al a = true /\ al l = true
  ·cases h0 : Zi al D a o l with
   | none =>
    rw [Jf8 h0 hn] at h
    cases h
    exact hP _ _
   | some t =>
    obtain ⟨x', y', q'⟩ := t
    rw [Jf7 h0 hn] at h
    split at h
    ·cases h
     exact hP _ _
    cases h
    exact ih _ _ _ h0
  rw [Ja6 rfl hn] at h
  exact ih _ _ _ h
theorem Joq {al : Nat -> Bool} {D : Nat -> Nat -> Rat} {P : Rat -> Prop} (hP : ∀ a b, P (D a b)) {m : Nat} : ∀ k x y q, Xh al D m k = some (x, y, q) -> P q := by
 intro k
 induction k with
 | zero => intro x y q h; cases h
 | succ k ih => exact Jl7 hP ih m
theorem Own.putc {α : Type} {w : World} {e : TypeId} {f : α -> Value} {g n c : Nat} {l : List α} (h : Own w e f (.slice (some ⟨g, 0, none⟩) n c) l) (i : Nat) (x : α) : Own (w.setCell ⟨g, i, none⟩ (f x)) e f (.slice (some ⟨g, 0, none⟩) n c) (l.set i x) := by
 have hn : n = l.length := by
  obtain ⟨A', c', h4, _, _⟩ := Own.form h
  injection h4
 subst hn
 have bQ := World.ownsRow.stored h i (f x)
 unfold Own
 rw [List.length_set, List.map_set]
 exact bQ.1
theorem Own.frozenc {α : Type} {w : World} {e : TypeId} {f : α -> Value} {g n c : Nat} {l : List α} (h : Own w e f (.slice (some ⟨g, 0, none⟩) n c) l) (j : Nat) : w.frozen? ⟨g, j, none⟩ = false := by
 have hn : n = l.length := by
  obtain ⟨A', c', h4, _, _⟩ := Own.form h
  injection h4
 subst hn
 exact World.ownsRow.frozenAt h j
theorem TExc.grewS {β : Type} {T : TypeId} {I : World -> Value -> β -> Prop} {ts : List TypeId} {B : Nat} {w w' : World} {v v' : Value} {bl : List β} (h : Grew w w' v v') (ho : OwnS T I w v bl) (hm : T ∈ ts) (hB : ∀ b, v.ownBlock = some b -> B <= b) : TExc ts B w w' := by
 obtain ⟨rl, h1, _⟩ := ho
 exact TExc.grew1 h h1 hm hB
theorem TExc.wide {ts ts' : List TypeId} {B : Nat} {w w' : World} (h : TExc ts B w w') (hs : ∀ t ∈ ts, t ∈ ts') : TExc ts' B w w' :=
 ⟨h.os, h.tape, h.output, h.size, fun k hk hc => h.block k hk (by
  rcases hc with hc | ⟨cs, t, fr, h1, h2⟩
  ·exact .inl hc
  exact .inr ⟨cs, t, fr, h1, fun e => h2 (hs t e)⟩)⟩
theorem OwnS.form3 {β : Type} {T : TypeId} {I : World -> Value -> β -> Prop} {w : World} {v : Value} {bl : List β} (h : OwnS T I w v bl) : ∃ A n c, v = .slice A n c := by
 obtain ⟨A, c, e⟩ := h.form
 exact ⟨A, _, c, e⟩
theorem Own.form3 {α : Type} {w : World} {e : TypeId} {f : α -> Value} {v : Value} {l : List α} (h : Own w e f v l) : ∃ A n c, v = .slice A n c := by
 obtain ⟨A, c, e, -, -⟩ := h.form
 exact ⟨A, _, c, e⟩
abbrev Jbx : List TypeId := [107, 73, 3, 4]
structure JS (w : World) (L g how : Nat) (vf vs vg : Value) (far : List (List Rat)) (size : List Nat) (gone : List Bool) (g0 gj : Nat) (ja : Array Value) (wr : World) : Prop where
 cls : ClsAt wr g how vf vs vg ⟨far, size, gone⟩
 b0 : Blk wr g0 58 (jA ⟨0, 0, 0, 0⟩)
 bj : Blk wr gj 58 ja
 te : TExc Jbx L w wr
 lg : L <= g
 lf : ∀ b, vf.ownBlock = some b -> L <= b
 ls : ∀ b, vs.ownBlock = some b -> L <= b
 lo : ∀ b, vg.ownBlock = some b -> L <= b
section
variable {w wr w1 : World} {L g how g0 gj : Nat} {vf vs vg vf' vs' vg' : Value} {far : List (List Rat)} {size : List Nat} {gone : List Bool} {ja : Array Value}
theorem JS.blk (h : JS w L g how vf vs vg far size gone g0 gj ja wr) : Blk wr g 107 #[.int .i64 (how : Int), vf, vs, vg] := h.cls.blk
theorem Kx {v v' : Value} (x8 : Grew wr w1 v v') (hl : ∀ b, v.ownBlock = some b -> L <= b) (hw : L <= wr.heap.size) : ∀ b, v'.ownBlock = some b -> L <= b := by
 intro b hb
 rcases x8.own b hb with h | h
 ·exact hl b h
 omega
theorem JS.next (h : JS w L g how vf vs vg far size gone g0 gj ja wr) (hb : Below wr.heap.size wr w1) : JS w L g how vf vs vg far size gone g0 gj ja w1 :=
 ⟨h.cls.next hb, h.b0.below hb h.b0.lt, h.bj.below hb h.bj.lt, h.te.trans (TExc.of hb), h.lg, h.lf, h.ls, h.lo⟩
theorem JS.put1 (h : Blk w1 g 107 #[.int .i64 (how : Int), vf, vs, vg]) (hL : L <= g) (i : Nat) (u : Value) : TExc [107] L w1 (w1.setCell ⟨g, i, none⟩ u) :=
 TExc.exc ((Exc.refl g w1).set_ i u) hL h (by simp)
theorem JS.far1 (h : JS w L g how vf vs vg far size gone g0 gj ja wr) (x8 : Grew wr w1 vf vf') : TExc [73] L wr w1 := TExc.grewS x8 h.cls.far (by simp) h.lf
theorem JS.addFar {row : List Rat} (h : JS w L g how vf vs vg far size gone g0 gj ja wr) (x8 : Grew wr w1 vf vf') (ho : OwnQQ w1 vf' (far ++ [row])) :
  JS w L g how vf' vs vg (far ++ [row]) size gone g0 gj ja (w1.setCell ⟨g, 1, none⟩ vf') := by
 have t1 := h.far1 x8
 have c1 := h.cls.blk.texc t1 (by decide)
 have t2 := JS.put1 c1 h.lg 1 vf'
 have c2 := c1.set_ 1 vf'
 refine ⟨⟨by simpa using c2, OwnQQ.texc ho t2 (by decide) (by decide), (h.cls.size.texc t1 (by decide)).texc t2 (by decide), (h.cls.gone.texc t1 (by decide)).texc t2 (by decide)⟩, (h.b0.texc t1 (by decide)).texc t2 (by decide), (h.bj.texc t1 (by decide)).texc t2 (by decide), ?_, h.lg, ?_, h.ls, h.lo⟩
 ·exact h.te.trans ((t1.wide (by decide)).trans (t2.wide (by decide)))
 exact Kx x8 h.lf (nt h.lg (Nat.le_of_lt h.cls.blk.lt))
theorem JS.size1 (h : JS w L g how vf vs vg far size gone g0 gj ja wr) (x8 : Grew wr w1 vs vs') : TExc [3] L wr w1 := TExc.grew1 x8 h.cls.size (by simp) h.ls
theorem JS.addSize {s : Nat} (h : JS w L g how vf vs vg far size gone g0 gj ja wr) (x8 : Grew wr w1 vs vs') (ho : Own w1 3 iv vs' (size ++ [s])) :
  JS w L g how vf vs' vg far (size ++ [s]) gone g0 gj ja (w1.setCell ⟨g, 2, none⟩ vs') := by
 have t1 := h.size1 x8
 have c1 := h.cls.blk.texc t1 (by decide)
 have t2 := JS.put1 c1 h.lg 2 vs'
 have c2 := c1.set_ 2 vs'
 refine ⟨⟨by simpa using c2, OwnQQ.texc (OwnQQ.texc h.cls.far t1 (by decide) (by decide)) t2 (by decide) (by decide), ho.texc t2 (by decide), (h.cls.gone.texc t1 (by decide)).texc t2 (by decide)⟩, (h.b0.texc t1 (by decide)).texc t2 (by decide), (h.bj.texc t1 (by decide)).texc t2 (by decide), ?_, h.lg, h.lf, ?_, h.lo⟩
 ·exact h.te.trans ((t1.wide (by decide)).trans (t2.wide (by decide)))
 exact Kx x8 h.ls (nt h.lg (Nat.le_of_lt h.cls.blk.lt))
theorem JS.gone1 (h : JS w L g how vf vs vg far size gone g0 gj ja wr) (x8 : Grew wr w1 vg vg') : TExc [4] L wr w1 := TExc.grew1 x8 h.cls.gone (by simp) h.lo
theorem JS.addGone {s : Bool} (h : JS w L g how vf vs vg far size gone g0 gj ja wr) (x8 : Grew wr w1 vg vg') (ho : Own w1 4 Value.bool vg' (gone ++ [s])) :
  JS w L g how vf vs vg' far size (gone ++ [s]) g0 gj ja (w1.setCell ⟨g, 3, none⟩ vg') := by
 have t1 := h.gone1 x8
 have c1 := h.cls.blk.texc t1 (by decide)
 have t2 := JS.put1 c1 h.lg 3 vg'
 have c2 := c1.set_ 3 vg'
 refine ⟨⟨by simpa using c2, OwnQQ.texc (OwnQQ.texc h.cls.far t1 (by decide) (by decide)) t2 (by decide) (by decide), (h.cls.size.texc t1 (by decide)).texc t2 (by decide), ho.texc t2 (by decide)⟩, (h.b0.texc t1 (by decide)).texc t2 (by decide), (h.bj.texc t1 (by decide)).texc t2 (by decide), ?_, h.lg, h.lf, h.ls, ?_⟩
 ·exact h.te.trans ((t1.wide (by decide)).trans (t2.wide (by decide)))
 exact Kx x8 h.lo (nt h.lg (Nat.le_of_lt h.cls.blk.lt))
theorem JS.setGone {gg ng cg : Nat} (h : JS w L g how vf vs (.slice (some ⟨gg, 0, none⟩) ng cg) far size gone g0 gj ja wr) (i : Nat) (x : Bool) : TExc [4] L wr (wr.setCell ⟨gg, i, none⟩ (.bool x)) /\
  JS w L g how vf vs (.slice (some ⟨gg, 0, none⟩) ng cg) far size (gone.set i x) g0 gj ja (wr.setCell ⟨gg, i, none⟩ (.bool x)) := by
 obtain ⟨cs, fr, hb⟩ := Own.blk h.cls.gone (g := gg) rfl
 have t1 : TExc [4] L wr (wr.setCell ⟨gg, i, none⟩ (.bool x)) := TExc.exc ((Exc.refl gg wr).set_ i (.bool x)) (h.lo gg rfl) hb (by simp)
 exact ⟨t1, ⟨h.cls.blk.texc t1 (by decide), OwnQQ.texc h.cls.far t1 (by decide) (by decide), h.cls.size.texc t1 (by decide), h.cls.gone.putc i x⟩, h.b0.texc t1 (by decide), h.bj.texc t1 (by decide), h.te.trans (t1.wide (by decide)), h.lg, h.lf, h.ls, h.lo⟩
end
def Vg (n : Nat) (r : Nat -> Rat) (i : Nat) : List Rat := (List.range n).map fun k => if k < i then r k else 0
theorem Jlf (n : Nat) (r : Nat -> Rat) : Vg n r 0 = List.replicate n 0 := by
 unfold Vg
 refine List.ext_getElem (by simp) fun i h1 h2 => by simp
theorem Jlg (n : Nat) (r : Nat -> Rat) : Vg n r n = (List.range n).map r := by
 unfold Vg
 refine List.map_congr_left fun i hi => ?_
 rw [if_pos (List.mem_range.1 hi)]
theorem Jqa {n : Nat} {r : Nat -> Rat} {i : Nat} (hi : i < n) : (Vg n r i)[i]? = some 0 := by
 unfold Vg
 rw [List.getElem?_map, List.getElem?_range hi]
 simp
theorem Jby {n : Nat} {r : Nat -> Rat} {i : Nat} (h : r i = 0) : Vg n r (i + 1) = Vg n r i := by
 unfold Vg
 refine List.map_congr_left fun k hk => ?_
 by_cases gR : k = i
 ·subst gR; rw [if_pos (show k < k + 1 by omega), if_neg (show ¬ k < k by omega), h]
 by_cases bB : k < i
 ·rw [if_pos (show k < i + 1 by omega), if_pos bB]
 rw [if_neg (show ¬ k < i + 1 by omega), if_neg bB]
theorem Jn2 {n : Nat} {r : Nat -> Rat} {i : Nat} : (Vg n r i).set i (r i) = Vg n r (i + 1) := by
 unfold Vg
 refine List.ext_getElem (by simp) fun k h1 h2 => ?_
 rw [List.getElem_set]
 simp only [List.getElem_map, List.getElem_range]
 by_cases gR : i = k
 ·subst gR; rw [if_pos rfl, if_pos (by omega)]
 rw [if_neg gR]
 by_cases bB : k < i
 ·rw [if_pos bB, if_pos (show k < i + 1 by omega)]
 rw [if_neg bB, if_neg (show ¬ k < i + 1 by omega)]
def Jcr (w : World) (g0 gj gl : Nat) (ja : Array Value) (n : Nat) (r : Nat -> Rat) (i : Nat) (wr : World) : Prop :=
 Blk wr g0 58 (jA ⟨0, 0, 0, 0⟩) /\ Blk wr gj 58 ja /\ OwnQ wr (.slice (some ⟨gl, 0, none⟩) n n) (Vg n r i) /\ Below w.heap.size w wr
theorem Jd7 {α : Type} {P : Program} {ops : Array Oper} {o : Oper} {a : Act} {K : Act -> World -> Prop} {Q : Exit -> Act -> World -> Prop} {E0 : Prop} {t e : TypeId} {z : Value} {bytes : Nat} {f : α -> Value}
  (E : Elt P t e z bytes) (bI : o.guard = none) (s x : Operand)
  (ho : o.op = .call { callee := .builtin .append, args := #[s, x], argTypes := #[t, t] })
  (w : World) (v : Value) (l : List α) (B : Nat) (A : Option Addr) (n c : Nat) (l2 : List α) (hs : a.eval s = v) (aM : Own w e f v l) (hx : a.eval x = .slice A n c)
  (hr : Reads w B 1 A n (l2.map f)) (iJ : ∀ m, (f m).oneCell' = true) (mL : l.length + n <= maxLen) (hb : (l.length + n) * bytes <= 140737488355328)
  (h : ∀ v' w1, Own w1 e f v' (l ++ l2) -> Grew w w1 v v' -> K (a.put o.dst v') w1) : if Region.wanted o (yielded ops a.tmps) = true then Oper.wp P o a w K Q else E0 := by
 obtain ⟨i0, iK, jP, iL, jQ⟩ := info_parts E.info
 refine Jaa _ bI s x t ho 0 e i0 z 1 bytes E.under iK jP iL jQ E.one (by omega) v l.length (l.map f) hs aM B A n c (l2.map f) hx hr
  (by intro u hu; simp at hu; obtain ⟨m, _, rfl⟩ := hu; exact iJ m) mL hb (Nat.zero_le _) ?_
 intro v' w' fZ x8 mM
 refine h v' w' ?_ (Grew.of_grown x8 mM)
 have hl := hr.lenf
 unfold Own
 rw [List.length_append, List.map_append, hl]
 exact fZ
theorem Tryz.eltBool : Elt Tryz.prog 105 4 (.bool false) 1 := ⟨Tryz.underlying105, by kernel_rfl, by kernel_rfl⟩
theorem TExc.setNew {ts : List TypeId} {B g i : Nat} {w w' : World} (h : TExc ts B w w') (hg : w.heap.size <= g) (u : Value) : TExc ts B w (w'.setCell ⟨g, i, none⟩ u) :=
 ⟨h.os, h.tape, h.output, by rw [World.size_setCell]; exact h.size, fun k hk hc => (Below.heap_setCell w' ⟨g, i, none⟩ u k (by show k ≠ g; omega)).trans (h.block k hk hc)⟩
theorem TExc.put8 {ts : List TypeId} {B g : Nat} {w w' : World} (h : TExc ts B w w') (hg : w.heap.size <= g) (a b c d e x y z : Value) : TExc ts B w (Go.Proofs.YtecnjlcfoobepaaGreatDoor.put8 w' g a b c d e x y z) :=
 (((((((h.setNew hg a).setNew hg b).setNew hg c).setNew hg d).setNew hg e).setNew hg x).setNew hg y).setNew hg z
theorem JS.done {w wr : World} {L g how g0 gj : Nat} {vf vs vg : Value} {far : List (List Rat)} {size : List Nat} {gone : List Bool} {ja : Array Value} (h : JS w L g how vf vs vg far size gone g0 gj ja wr) (hg : w.heap.size <= g0) (a b c d e x y z : Value) :
  ClsAt (put8 wr g0 a b c d e x y z) g how vf vs vg ⟨far, size, gone⟩ /\ TExc Jbx L w (put8 wr g0 a b c d e x y z) := by
 have t : TExc [58] 0 wr (put8 wr g0 a b c d e x y z) := TExc.exc ((((((((( Exc.refl g0 wr).set_ 0 a).set_ 1 b).set_ 2 c).set_ 3 d).set_ 4 e).set_ 5 x).set_ 6 y).set_ 7 z) (Nat.zero_le _) h.b0 (by simp)
 exact ⟨⟨h.cls.blk.texc t (by decide), OwnQQ.texc h.cls.far t (by decide) (by decide), h.cls.size.texc t (by decide), h.cls.gone.texc t (by decide)⟩, h.te.put8 hg _ _ _ _ _ _ _ _⟩
def Jqp (w : World) (L g how : Nat) (j : Jn) (c' : Cls) (e : Ending) (w' : World) : Prop :=
 e = .returned (jV j) /\ (∃ vf vs vg, ClsAt w' g how vf vs vg c' /\ (∀ b, vf.ownBlock = some b -> L <= b) /\ (∀ b, vs.ownBlock = some b -> L <= b) /\ ∀ b, vg.ownBlock = some b -> L <= b) /\ TExc Jbx L w w'
theorem Jnj (g how n m A B L : Nat) (hq : Rat) (vf vs vg : Value) (c : Cls) (w : World) (h : ClsAt w g how vf vs vg c) (hw : WalkC n m c) (hn : n <= 200) (hm : m <= 1000000000) (cL : 1 <= m) (hh : how = 1 \/ how = 2 \/ how = 3) (jR : Jeb c = some (A, B, hq)) (nD : A < B) (mN : B < n)
  (bC : 0 < c.size.getD A 0 + c.size.getD B 0) (hL : L <= g /\ (∀ b, vf.ownBlock = some b -> L <= b) /\ (∀ b, vs.ownBlock = some b -> L <= b) /\ ∀ b, vg.ownBlock = some b -> L <= b) (hT : Tab w) :
  Calls Tryz.prog 62 #[.pointer (some ⟨g, 0, none⟩)] w (Jqp w L g how ⟨A, B, ((c.size.getD A 0 + c.size.getD B 0 : Nat) : Int), hq⟩ (Vs how c A B)) := by
 have jS := fun w' (aF : Below w.heap.size w w') a b (ha : a < n) (hb : b < n) (eF : a ≠ b) => Vq g how n m a b vf vs vg c w' (h.next aF) hw ha hb eF
 have hD : ∀ a b, QS m (betw c.far a b) := fun a b => hw.qs.betw cL a b
 obtain ⟨As, cs, eK, -⟩ := Own.form h.size
 obtain ⟨Ag, cg, jT, -⟩ := Own.form h.gone
 rw [hw.lens] at eK
 rw [hw.leng] at jT
 subst eK jT
 obtain ⟨gg, rfl⟩ := Own.addr h.gone (by rw [hw.leng]; omega)
 obtain ⟨gs, rfl⟩ := Own.addr h.size (by rw [hw.lens]; omega)
 have gN := h.blk.lt
 have nE : gg < w.heap.size := h.gone.lt gg rfl
 have gA : g ≠ gg := by
  intro e
  obtain ⟨cs', fr', h1⟩ := Own.blk h.gone (g := gg) rfl
  have h2 := h.blk
  rw [e] at h2
  rw [show w.heap[gg]? = _ from h2] at h1
  injection h1 with h1
  injection h1 with _ h1 _
  exact absurd h1 (by decide)
 have HC := lh h
 have HW := lh hw
 have HT := lh hT
 have HSC := lh jR
 have HPOS := lh bC
 have HL := lh hL
 have HD := lh hD
 have HBT := lh jS
 clear h hw hT jR bC hL hD jS
 obtain ⟨b0, b1, hB, hZ⟩ := bx2 w 58 #[.int .i64 0, .int .i64 0, .int .i64 0, .bool false, .int .u64 0, .string ⟨#[]⟩, .int .u64 0, .string ⟨#[]⟩] 58 #[.int .i64 0, .int .i64 0, .int .i64 0, .bool false, .int .u64 0, .string ⟨#[]⟩, .int .u64 0, .string ⟨#[]⟩]
 go_enter Tryz.func62, Tryz.ntmps62
 go_upto_region 2 with fail
 generalize ((w.alloc (.cells #[.int .i64 0, .int .i64 0, .int .i64 0, .bool false, .int .u64 0, .string ⟨#[]⟩, .int .u64 0, .string ⟨#[]⟩] 58)).alloc (.cells #[.int .i64 0, .int .i64 0, .int .i64 0, .bool false, .int .u64 0, .string ⟨#[]⟩, .int .u64 0, .string ⟨#[]⟩] 58)) = W at *
 have mO := hZ.out
 obtain ⟨g0, jU⟩ : ∃ g0, w.heap.size = g0 := ⟨_, rfl⟩
 have HB := lh hB
 have iM : w.heap.size <= g0 + 1 := by omega
 have iN : w.heap.size <= g0 := by omega
 rw [jU] at b0 b1 gN
 have hR : Jdz w g0 (g0 + 1) none (.bool false) W := ⟨rfl, b0, b1, hB⟩
 have HR := lh hR
 have cW := HC.out.next hB
 obtain ⟨r0, r1, r2, r3, -, -, -, -⟩ := Kk cW.blk
 rw [jU]
 clear b0 b1 hB hZ mO hR cW HB
 generalize hgj1 : g0 + 1 = gj at *
 go_wp2_with fail
 go_loopw [4, 15] (fun f p wr => ∃ k o, k <= n /\ p = .int .i64 ((k : Nat) : Int) /\ Hid (Xh (Qq c.gone) (betw c.far) n k = o) /\ Jdz w g0 gj o f wr) (fun _ p _ => n - (intOf p).toNat)
 case atStart => exact ⟨0, none, by omega, rfl, lh rfl, HR.out⟩
 case round =>
  obtain ⟨k, o, hk, rfl, ho, hrel⟩ := hrel
  rename World => wr
  clear HR r0 r1 r2 r3
  by_cases iO : k < n
  ·have k1 : (k : Int) < (n : Int) := by omega
   have cW := HC.out.next hrel.2.2.2
   obtain ⟨r0, r1, r2, r3, -, -, -, -⟩ := Kk cW.blk
   have HR := lh hrel
   clear hrel cW
   go_wp2_with fail
   go_loopw [4, 23] (fun f p wq => ∃ l o', l <= n /\ p = .int .i64 ((l : Nat) : Int) /\ Hid (Zi (Qq c.gone) (betw c.far) k o l = o') /\ Jdz w g0 gj o' f wq) (fun _ p _ => n - (intOf p).toNat)
   case atStart => exact ⟨0, o, by omega, rfl, lh rfl, HR.out⟩
   case round =>
    obtain ⟨l, o', hl, rfl, bO, hrel⟩ := hrel
    rename World => wq
    clear HR r0 r1 r2 r3
    by_cases iP : l < n
    ·have k2 : (l : Int) < (n : Int) := by omega
     by_cases gS : l <= k
     ·have k3 : (l : Int) <= (k : Int) := by omega
      have HO := lh (Ja6 bO.out (by omega))
      have HR := lh hrel
      clear hrel bO
      go_wp2
      exact ⟨⟨l + 1, o', by omega, by go_num, HO, HR.out⟩, by simp [intOf]; omega⟩
     have k3 : ¬ (l : Int) <= (k : Int) := by omega
     have mP : k ≠ l := by omega
     have cW := HC.out.next hrel.2.2.2
     obtain ⟨r0, r1, r2, r3, -, -, -, -⟩ := Kk cW.blk
     obtain ⟨xk, iQ⟩ : ∃ x, c.gone[k]? = some x := ⟨_, List.getElem?_eq_getElem (by rw [HW.out.leng]; omega)⟩
     obtain ⟨xl, iR⟩ : ∃ x, c.gone[l]? = some x := ⟨_, List.getElem?_eq_getElem (by rw [HW.out.leng]; omega)⟩
     have bD := cW.gone
     rw [<- HW.out.leng] at bD
     have y1 := Own.cellf bD iQ
     have y2 := Own.cellf bD iR
     have gB := Jdd iQ
     have cA := Jdd iR
     clear cW bD iQ iR
     cases xk with
     | true =>
      have HO := lh (Ja6 bO.out (fun h => by rw [gB] at h; simp at h))
      have HR := lh hrel
      clear hrel bO gB cA
      go_wp2
      exact ⟨⟨l + 1, o', by omega, by go_num, HO, HR.out⟩, by simp [intOf]; omega⟩
     | false =>
      cases xl with
      | true =>
       have HO := lh (Ja6 bO.out (fun h => by rw [cA] at h; simp at h))
       have HR := lh hrel
       clear hrel bO gB cA
       go_wp2
       exact ⟨⟨l + 1, o', by omega, by go_num, HO, HR.out⟩, by simp [intOf]; omega⟩
      | false =>
       have cB : k < l /\ Qq c.gone k = true /\ Qq c.gone l = true := ⟨by omega, gB, cA⟩
       have j7 := HBT.out wq hrel.2.2.2 k l iO iP mP
       have qd := HD.out k l
       have dE : ∀ x y q, o' = some (x, y, q) -> QS m q := fun x y q e => Jl7 (P := QS m) HD.out (fun x y q e => Joq (P := QS m) HD.out k x y q (by rw [ho.out]; exact e)) l x y q (by rw [bO.out]; exact e)
       have cC := fun h => Jf8 (o := o) (al := Qq c.gone) (D := betw c.far) (a := k) (l := l) h cB
       have cD := fun x y q h => Jf7 (x := x) (y := y) (q := q) (o := o) (al := Qq c.gone) (D := betw c.far) (a := k) (l := l) h cB
       obtain ⟨hf, h0, hj, j8⟩ := hrel
       have HBW := lh j8
       obtain ⟨d, hd⟩ : ∃ d, betw c.far k l = d := ⟨_, rfl⟩
       rw [hd] at j7 qd cC cD
       unfold qV at j7
       have HB1 := lh j7
       have QD := lh qd
       have HNONE := lh cC
       have HSOME := lh cD
       have HPREV := lh dE
       have l0 := h0.lt
       have lj := hj.lt
       clear j7 qd cC cD dE gB cA cB hd j8
       go_wp2_with fail
       refine HB1.out.mono ?_
       rintro e w1 ⟨rfl, j9⟩
       have h0 := (h0.below j9 l0).alloc (.cells #[.bool (decide (d.num < 0)), .int .u64 (lo d.num.natAbs : Int), .string (mo d.num.natAbs), .int .u64 (lo ((qden d)) : Int), .string (mo ((qden d)))] 56)
       have hj := (hj.below j9 lj).alloc (.cells #[.bool (decide (d.num < 0)), .int .u64 (lo d.num.natAbs : Int), .string (mo d.num.natAbs), .int .u64 (lo ((qden d)) : Int), .string (mo ((qden d)))] 56)
       have b7 := Blk.new w1 56 #[.bool (decide (d.num < 0)), .int .u64 (lo d.num.natAbs : Int), .string (mo d.num.natAbs), .int .u64 (lo ((qden d)) : Int), .string (mo ((qden d)))]
       have j8 := HBW.out.trans ((Ja j9 (Jb w1 (.cells #[.bool (decide (d.num < 0)), .int .u64 (lo d.num.natAbs : Int), .string (mo d.num.natAbs), .int .u64 (lo ((qden d)) : Int), .string (mo ((qden d)))] 56))).mono HBW.out.size)
       have mQ : ¬ w1.heap.size = gj := by have := j9.size; omega
       have mR : ¬ gj = w1.heap.size := by omega
       have cS : ¬ g0 = gj := by omega
       clear r0 r1 r2 r3 y1 y2 HB1 HBW
       rcases o' with _ | ⟨x, y, q⟩
       ·have hf : _ = Value.bool false := hf
        subst hf
        have HO := lh (HNONE.out bO.out)
        have hj : Blk _ gj _ #[.int .i64 0, .int .i64 0, .int .i64 0, .bool false, .int .u64 0, .string ⟨#[]⟩, .int .u64 0, .string ⟨#[]⟩] := hj
        obtain ⟨z0, z1, z2, z3, z4, z5, z6, z7⟩ := hj.q8
        obtain ⟨y0, y1, y2, y3, y4, y5, y6, y7⟩ := hj.c8
        obtain ⟨bJ, bK, bL, bM, bN⟩ := b7.c5
        have cT := hj.put8 (a' := .int .i64 (k : Int)) (b' := .int .i64 (l : Int)) (c' := .int .i64 0) (d' := .bool (decide (d.num < 0))) (e' := .int .u64 (lo d.num.natAbs : Int)) (x' := .string (mo d.num.natAbs)) (y' := .int .u64 (lo (qden d) : Int)) (z' := .string (mo (qden d)))
        have gC := h0.far8 (g' := gj) (a' := .int .i64 (k : Int)) (b' := .int .i64 (l : Int)) (c' := .int .i64 0) (d' := .bool (decide (d.num < 0))) (e' := .int .u64 (lo d.num.natAbs : Int)) (x' := .string (mo d.num.natAbs)) (y' := .int .u64 (lo (qden d) : Int)) (z' := .string (mo (qden d))) cS
        have HJ := lh cT
        have H0 := lh gC
        have HB := lh j8
        clear hj h0 cT gC j8 bO HNONE HSOME HPREV b7
        go_wp2
        exact ⟨⟨l + 1, _, by omega, by go_num, HO, rfl, H0.out, HJ.out, Jr1 HB.out iM _ _ _ _ _ _ _ _⟩, by simp [intOf]; omega⟩
       have hf : _ = Value.bool true := hf
       subst hf
       have HO := lh (HSOME.out x y q bO.out)
       have QQ := lh (HPREV.out x y q rfl)
       have hj : Blk _ gj _ #[.int .i64 (x : Int), .int .i64 (y : Int), .int .i64 0, .bool (decide (q.num < 0)), .int .u64 (lo q.num.natAbs : Int), .string (mo q.num.natAbs), .int .u64 (lo ((qden q)) : Int), .string (mo ((qden q)))] := hj
       have iS := fun w => Vf d q w (QD.out.mono (by omega)) (QQ.out.mono (by omega))
       have bB := Je8 q d
       generalize Yw d q = cv at *
       unfold qV at iS
       have HCM := lh iS
       have HLT := lh bB
       clear iS bB
       obtain ⟨bJ, bK, bL, bM, bN⟩ := b7.c5
       obtain ⟨y0, y1, y2, y3, y4, y5, y6, y7⟩ := hj.c8
       have l0 := h0.lt
       have lj := hj.lt
       have l7 := b7.lt
       have HB := lh j8
       have H0 := lh h0
       have HJ := lh hj
       clear j8 h0 hj bO HNONE HSOME HPREV
       go_wp2_with fail
       refine (HCM.out _).mono ?_
       rintro e w2 ⟨rfl, o0⟩
       have h0 := H0.out.below o0 l0
       have hj := HJ.out.below o0 lj
       have b7 := b7.below o0 l7
       have j8 := HB.out.trans (o0.mono HB.out.size)
       clear H0 HJ HB y0 y1 y2 y3 y4 y5 y6 y7 bJ bK bL bM bN
       by_cases gT : cv < 0
       ·have q1 : decide (cv < 0) = true := decide_eq_true gT
        have HO := lh (HO.out.trans (if_pos (HLT.out.1 gT)))
        obtain ⟨z0, z1, z2, z3, z4, z5, z6, z7⟩ := hj.q8
        obtain ⟨y0, y1, y2, y3, y4, y5, y6, y7⟩ := hj.c8
        obtain ⟨bJ, bK, bL, bM, bN⟩ := b7.c5
        have cT := hj.put8 (a' := .int .i64 (k : Int)) (b' := .int .i64 (l : Int)) (c' := .int .i64 0) (d' := .bool (decide (d.num < 0))) (e' := .int .u64 (lo d.num.natAbs : Int)) (x' := .string (mo d.num.natAbs)) (y' := .int .u64 (lo (qden d) : Int)) (z' := .string (mo (qden d)))
        have gC := h0.far8 (g' := gj) (a' := .int .i64 (k : Int)) (b' := .int .i64 (l : Int)) (c' := .int .i64 0) (d' := .bool (decide (d.num < 0))) (e' := .int .u64 (lo d.num.natAbs : Int)) (x' := .string (mo d.num.natAbs)) (y' := .int .u64 (lo (qden d) : Int)) (z' := .string (mo (qden d))) cS
        have HJ := lh cT
        have H0 := lh gC
        have HB := lh j8
        clear hj h0 cT gC j8 HCM HLT b7
        go_wp2
        exact ⟨⟨l + 1, _, by omega, by go_num, HO, rfl, H0.out, HJ.out, Jr1 HB.out iM _ _ _ _ _ _ _ _⟩, by simp [intOf]; omega⟩
       have q1 : decide (cv < 0) = false := decide_eq_false gT
       have HO := lh (HO.out.trans (if_neg (fun e => gT (HLT.out.2 e))))
       have HR := lh (show Jdz w g0 gj (some (x, y, q)) (.bool true) w2 from ⟨rfl, h0, hj, j8⟩)
       clear h0 hj j8 b7 HCM HLT
       go_wp2
       exact ⟨⟨l + 1, _, by omega, by go_num, HO, HR.out⟩, by simp [intOf]; omega⟩
    obtain rfl : l = n := by omega
    have k2 : ¬ (l : Int) < (l : Int) := by omega
    have HO := lh (show Xh (Qq c.gone) (betw c.far) l (k + 1) = o' by rw [<- bO.out, <- ho.out]; rfl)
    have HR := lh hrel
    clear hrel bO ho
    go_wp2
    exact ⟨⟨k + 1, o', by omega, by go_num, HO, HR.out⟩, by simp [intOf]; omega⟩
  obtain rfl : k = n := by omega
  have k1 : ¬ (k : Int) < (k : Int) := by omega
  have eo : o = some (A, B, hq) := by
   rw [<- ho.out]
   have := HSC.out
   unfold Jeb at this
   rw [HW.out.lens] at this
   exact this
  subst eo
  obtain ⟨-, h0, hj, j8⟩ := hrel
  have hj : Blk wr gj _ #[.int .i64 (A : Int), .int .i64 (B : Int), .int .i64 0, .bool (decide (hq.num < 0)), .int .u64 (lo hq.num.natAbs : Int), .string (mo hq.num.natAbs), .int .u64 (lo ((qden hq)) : Int), .string (mo ((qden hq)))] := hj
  have cW := HC.out.next j8
  obtain ⟨r0, r1, r2, r3, -, -, -, -⟩ := Kk cW.blk
  have eI : c.size[A]? = some (c.size.getD A 0) := by rw [List.getD_eq_getElem?_getD, List.getElem?_eq_getElem (by rw [HW.out.lens]; omega)]; rfl
  have eJ : c.size[B]? = some (c.size.getD B 0) := by rw [List.getD_eq_getElem?_getD, List.getElem?_eq_getElem (by rw [HW.out.lens]; omega)]; rfl
  have sa := HW.out.sz A
  have sb := HW.out.sz B
  have eH := cW.size
  rw [<- HW.out.lens] at eH
  have y1 := Own.cellf eH eI
  have y2 := Own.cellf eH eJ
  unfold iv at y1 y2
  have cE : Vs how c A B = ⟨c.far ++ [(List.range k).map (Xb how c A B)], c.size ++ [c.size.getD A 0 + c.size.getD B 0], ((c.gone.set A true).set B true) ++ [false]⟩ := by
   unfold Vs
   rw [HW.out.lens]
  have HCL := lh cE
  obtain ⟨S, hS⟩ : ∃ S, c.size.getD A 0 + c.size.getD B 0 = S := ⟨_, rfl⟩
  have nF : (c.size.getD A 0 : Int) + (c.size.getD B 0 : Int) = (S : Int) := by omega
  have HS := lh hS
  generalize jW : c.size.getD A 0 = za at *
  generalize jX : c.size.getD B 0 = zb at *
  have HZ := lh (And.intro jW jX)
  have k5 : (A : Int) < (k : Int) := by omega
  have k6 : (B : Int) < (k : Int) := by omega
  obtain ⟨x0, x1, x2, x3, x4, x5, x6, x7⟩ := hj.c8
  obtain ⟨z0, z1, z2, z3, z4, z5, z6, z7⟩ := hj.q8
  have l0 := h0.lt
  have lj := hj.lt
  have cS : g0 ≠ gj := by omega
  have HJ := lh hj
  have H0 := lh h0
  have HBW := lh j8
  clear hj h0 j8 cW eI eJ eH cE jW jX ho hS
  go_upto_region 15 with fail
  go_cut [] (fun wc => Blk wc g0 58 (jA ⟨0, 0, 0, 0⟩) /\ Blk wc gj 58 (jA ⟨A, B, (S : Int), hq⟩) /\ Below w.heap.size w wc)
  case first =>
   go_region
   all_goals
    go_wp2
    go_meet
    have e1 : Blk (wr.setCell ⟨gj, 2, none⟩ (.int .i64 (S : Int))) gj 58 (jA ⟨A, B, (S : Int), hq⟩) := by simpa [jA] using HJ.out.set_ 2 (.int .i64 (S : Int))
    exact ⟨H0.out.drew.far (p := ⟨gj, 2, none⟩) cS _, e1.drew, (HBW.out.trans ((Jf _).mono HBW.out.size)).setCell iM _⟩
  case rest =>
   obtain ⟨h0, hj, j8⟩ := hcut
   rename World => wc
   have hj : Blk wc gj _ #[.int .i64 (A : Int), .int .i64 (B : Int), .int .i64 (S : Int), .bool (decide (hq.num < 0)), .int .u64 (lo hq.num.natAbs : Int), .string (mo hq.num.natAbs), .int .u64 (lo ((qden hq)) : Int), .string (mo ((qden hq)))] := hj
   clear x0 x1 x2 x3 x4 x5 x6 x7 z0 z1 z2 z3 z4 z5 z6 z7 HJ H0 HBW r0 r1 r2 r3 y1 y2
   have cW := HC.out.next j8
   obtain ⟨r0, r1, r2, r3, -, -, -, -⟩ := Kk cW.blk
   obtain ⟨w1, jY, dF, j7⟩ := Jpi k (by omega) wc
   obtain ⟨gl, dU⟩ : ∃ gl, wc.heap.size = gl := ⟨_, rfl⟩
   have lglw : w.heap.size <= gl := by have := j8.size; omega
   have lj := hj.lt
   have l0 := h0.lt
   have ngj : gj ≠ gl := by omega
   have ng0 : g0 ≠ gl := by omega
   rw [<- Jlf k (Xb how c A B)] at dF
   have HF : Hid (Jcr w g0 gj gl (jA ⟨A, B, (S : Int), hq⟩) k (Xb how c A B) 0 w1) := lh ⟨h0.below j7 l0, hj.below j7 lj, by rw [<- dU]; exact dF, j8.trans (j7.mono j8.size)⟩
   rw [dU] at jY
   clear cW h0 hj j8 dF j7 dU
   go_wp2_with fail
   clear jY r0 r1 r2 r3
   go_loopw [92] (fun p wr => ∃ i : Nat, i <= k /\ p = .int .i64 (i : Int) /\ Jcr w g0 gj gl (jA ⟨A, B, (S : Int), hq⟩) k (Xb how c A B) i wr) (fun p _ => k - (intOf p).toNat)
   case atStart => exact ⟨0, by omega, rfl, HF.out⟩
   case round =>
    obtain ⟨i, hi, rfl, h0, hj, ho, j8⟩ := hrel
    rename World => wr
    clear HF
    have hj : Blk wr gj _ #[.int .i64 (A : Int), .int .i64 (B : Int), .int .i64 (S : Int), .bool (decide (hq.num < 0)), .int .u64 (lo hq.num.natAbs : Int), .string (mo hq.num.natAbs), .int .u64 (lo ((qden hq)) : Int), .string (mo ((qden hq)))] := hj
    by_cases jZ : i < k
    ·have q1 : (i : Int) < (k : Int) := by omega
     have cW := HC.out.next j8
     obtain ⟨r0, r1, r2, r3, -, -, -, -⟩ := Kk cW.blk
     obtain ⟨xi, iT⟩ : ∃ x, c.gone[i]? = some x := ⟨_, List.getElem?_eq_getElem (by rw [HW.out.leng]; omega)⟩
     have bD := cW.gone
     rw [<- HW.out.leng] at bD
     have y1 := Own.cellf bD iT
     have eD := Jdd iT
     obtain ⟨x0, x1, x2, x3, x4, x5, x6, x7⟩ := hj.c8
     clear bD iT
     cases xi with
     | true =>
      have hz : Xb how c A B i = 0 := by unfold Xb; rw [eD]; rfl
      rw [<- Jby hz] at ho
      have HF : Hid (Jcr w g0 gj gl (jA ⟨A, B, (S : Int), hq⟩) k (Xb how c A B) (i + 1) wr) := lh ⟨h0, hj, ho, j8⟩
      clear cW h0 hj ho j8 hz eD
      go_wp2
      exact ⟨⟨i + 1, by omega, by go_num, HF.out⟩, by simp [intOf]; omega⟩
     | false =>
      by_cases gD : i = A
      ·have hz : Xb how c A B i = 0 := by unfold Xb; simp [gD]
       rw [<- Jby hz] at ho
       have HF : Hid (Jcr w g0 gj gl (jA ⟨A, B, (S : Int), hq⟩) k (Xb how c A B) (i + 1) wr) := lh ⟨h0, hj, ho, j8⟩
       clear cW h0 hj ho j8 hz eD
       subst gD
       go_wp2
       exact ⟨⟨i + 1, by omega, by go_num, HF.out⟩, by simp [intOf]; omega⟩
      have q2 : ¬ (i : Int) = (A : Int) := by omega
      have q3 : ((i : Int) == (A : Int)) = false := by simp; omega
      have q4 : ((i : Int) != (A : Int)) = true := by simp; omega
      by_cases gU : i = B
      ·have hz : Xb how c A B i = 0 := by unfold Xb; simp [gU]
       rw [<- Jby hz] at ho
       have HF : Hid (Jcr w g0 gj gl (jA ⟨A, B, (S : Int), hq⟩) k (Xb how c A B) (i + 1) wr) := lh ⟨h0, hj, ho, j8⟩
       clear cW h0 hj ho j8 hz eD gD
       subst gU
       go_wp2
       exact ⟨⟨i + 1, by omega, by go_num, HF.out⟩, by simp [intOf]; omega⟩
      have q5 : ¬ (i : Int) = (B : Int) := by omega
      have q6 : ((i : Int) == (B : Int)) = false := by simp; omega
      have q7 : ((i : Int) != (B : Int)) = true := by simp; omega
      have gE := Jja g how k m A B i (S : Int) hq vf _ _ c wr cW HW.out hm cL hh (by omega) mN jZ (fun e => gD e.symm) (fun e => gU e.symm) (by rw [HZ.out.1, HZ.out.2, HS.out]) (by rw [HZ.out.1, HZ.out.2]; exact HPOS.out) (HT.out.next j8)
      have hz : Yj how (c.size.getD A 0) (c.size.getD B 0) (betw c.far A i) (betw c.far B i) = Xb how c A B i := by unfold Xb; rw [eD]; simp [gD, gU]
      rw [hz] at gE
      obtain ⟨r, hr⟩ : ∃ r, Xb how c A B i = r := ⟨_, rfl⟩
      rw [hr] at gE
      have iU := Jn2 (n := k) (r := Xb how c A B) (i := i)
      rw [hr] at iU
      have HS1 := lh iU
      have HY := lh (Jqa (n := k) (r := Xb how c A B) jZ)
      unfold qV at gE
      have HM := lh gE
      have H0 := lh h0
      have HJ := lh hj
      have HO := lh ho
      have HBW := lh j8
      have l0 := h0.lt
      have lj := hj.lt
      clear cW h0 hj ho j8 hz eD gE hr iU
      go_wp2_with fail
      refine HM.out.mono ?_
      rintro e w2 ⟨rfl, o0⟩
      have cF := OwnW.next HO.out o0
      obtain ⟨p0, p1, p2, p3, p4⟩ := OwnQ.cell5 cF HY.out
      have z0 := OwnQ.frozen cF (i * 5)
      have z1 := OwnQ.frozen cF (i * 5 + 1)
      have z2 := OwnQ.frozen cF (i * 5 + 2)
      have z3 := OwnQ.frozen cF (i * 5 + 3)
      have z4 := OwnQ.frozen cF (i * 5 + 4)
      have bQ := OwnQ.store cF i r
      rw [HS1.out] at bQ
      have HST := lh bQ
      have H02 := lh (H0.out.below o0 l0)
      have HJ2 := lh (HJ.out.below o0 lj)
      have HB2 := lh (HBW.out.trans (o0.mono HBW.out.size))
      clear cF bQ o0 H0 HJ HO HBW HM r0 r1 r2 r3 y1 x0 x1 x2 x3 x4 x5 x6 x7
      go_wp2
      exact ⟨⟨i + 1, by omega, by go_num, Blk.far5' H02.out ng0 _ _ _ _ _, Blk.far5' HJ2.out ngj _ _ _ _ _, HST.out, Jb0 HB2.out lglw _ _ _ _ _⟩, by simp [intOf]; omega⟩
    obtain rfl : i = k := by omega
    have q1 : ¬ (i : Int) < (i : Int) := by omega
    have ho : OwnQ wr (.slice (some ⟨gl, 0, none⟩) i i) ((List.range i).map (Xb how c A B)) := by rw [<- Jlg]; exact ho
    generalize hrw : (List.range i).map (Xb how c A B) = row at *
    have cW := HC.out.next j8
    have aD : JS w L g how vf _ _ c.far c.size c.gone g0 gj (jA ⟨A, B, (S : Int), hq⟩) wr := ⟨cW, h0, hj, TExc.of j8, HL.out.1, HL.out.2.1, HL.out.2.2.1, HL.out.2.2.2⟩
    obtain ⟨r0, r1, r2, r3, -, -, -, -⟩ := Kk cW.blk
    obtain ⟨x0, x1, x2, x3, x4, x5, x6, x7⟩ := hj.c8
    have bD := cW.gone
    have z1 := bD.frozenc A
    have z2 := bD.frozenc B
    rw [<- HW.out.leng] at bD
    obtain ⟨xa, kA⟩ : ∃ x, c.gone[A]? = some x := ⟨_, List.getElem?_eq_getElem (by rw [HW.out.leng]; omega)⟩
    obtain ⟨xb, kB⟩ : ∃ x, c.gone[B]? = some x := ⟨_, List.getElem?_eq_getElem (by rw [HW.out.leng]; omega)⟩
    have y1 := Own.cellf bD kA
    have y2 := Own.cellf bD kB
    have mS : ¬ A = B := by omega
    have iV : ¬ B = A := by omega
    have mT : ¬ gg = gj := by omega
    have mU : ¬ gj = gg := by omega
    have mV : ¬ g = gg := gA
    have mW : ¬ gg = g := fun e => gA e.symm
    have HJS := lh aD
    have HO := lh ho
    have lenf := HW.out.lenf
    have HLF := lh (show c.far.length <= 1000000 by omega)
    have HLS := lh (show c.size.length <= 1000000 by have := HW.out.lens; omega)
    have HLG := lh (show ((c.gone.set A true).set B true).length <= 1000000 by have := HW.out.leng; simp; omega)
    clear cW h0 hj ho j8 aD bD kA kB lenf
    go_upto_region 23 with fail
    go_cut [] (fun wc => JS w L g how vf (.slice (some ⟨gs, 0, none⟩) i cs) (.slice (some ⟨gg, 0, none⟩) i cg) c.far c.size ((c.gone.set A true).set B true) g0 gj (jA ⟨A, B, (S : Int), hq⟩) wc /\ OwnQ wc (.slice (some ⟨gl, 0, none⟩) i i) row)
    case first =>
     go_region
     all_goals
      go_wp2
      go_meet
      first
       |(obtain ⟨t1, j1⟩ := HJS.out.setGone A true
         obtain ⟨t2, j2⟩ := j1.setGone B true
         exact ⟨j2.next (Jf _), OwnW.next ((HO.out.texc t1 (by decide)).texc t2 (by decide)) (Jf _)⟩)
       |(obtain ⟨t1, j1⟩ := HJS.out.setGone B true
         obtain ⟨t2, j2⟩ := j1.setGone A true
         rw [List.set_comm _ _ iV] at j2
         exact ⟨j2.next (Jf _), OwnW.next ((HO.out.texc t1 (by decide)).texc t2 (by decide)) (Jf _)⟩)
    case rest =>
     obtain ⟨aD, ho⟩ := hcut
     rename World => w4
     clear r0 r1 r2 r3 x0 x1 x2 x3 x4 x5 x6 x7 z1 z2 y1 y2 HJS HO
     obtain ⟨r0, r1, r2, r3, f0, f1, f2, f3⟩ := Kk aD.blk
     have HJS := lh aD
     have HO := lh ho
     clear aD ho
     go_upto_region 24 with fail
     go_cut [] (fun wc => ∃ vf', JS w L g how vf' (.slice (some ⟨gs, 0, none⟩) i cs) (.slice (some ⟨gg, 0, none⟩) i cg) (c.far ++ [row]) c.size ((c.gone.set A true).set B true) g0 gj (jA ⟨A, B, (S : Int), hq⟩) wc)
     case first =>
      go_wp2_with (at_builtin; refine Jti Tryz.kindQQ Tryz.eltQQ rfl (.tmp 141) (.tmp 143) rfl w4 _ c.far _ _ _ row rfl HJS.out.cls.far HO.out rfl HLF.out ?_; intro v5 w5 gG iW; obtain ⟨A5, n5, k5c, iX⟩ := OwnS.form3 gG; subst iX; have c5 := HJS.out.blk.texc (HJS.out.far1 iW) (by decide); have js5 := lh (HJS.out.addFar iW gG); clear r0 r1 r2 r3 f0 f1 f2 f3 gG iW; obtain ⟨r0, r1, r2, r3, f0, f1, f2, f3⟩ := Kk c5; clear c5)
      go_meet
      exact ⟨_, js5.out⟩
     case rest =>
      obtain ⟨vf', aD⟩ := hcut
      rename World => w6
      clear r0 r1 r2 r3 f0 f1 f2 f3 HJS HO
      obtain ⟨r0, r1, r2, r3, f0, f1, f2, f3⟩ := Kk aD.blk
      have dG : Blk w6 gj _ #[.int .i64 (A : Int), .int .i64 (B : Int), .int .i64 (S : Int), .bool (decide (hq.num < 0)), .int .u64 (lo hq.num.natAbs : Int), .string (mo hq.num.natAbs), .int .u64 (lo ((qden hq)) : Int), .string (mo ((qden hq)))] := aD.bj
      obtain ⟨x0, x1, x2, x3, x4, x5, x6, x7⟩ := dG.c8
      have JA := lh (aD.next (Ja (Jf w6) (Jb w6.drew (.cells #[.int .i64 (S : Int)] 3))))
      have JB := lh (aD.next (Jrm w6 (.cells #[.int .i64 (S : Int)] 3)))
      obtain ⟨ra0, ra1, ra2, ra3, -, -, -, -⟩ := Kk JA.out.blk
      obtain ⟨rb0, rb1, rb2, rb3, -, -, -, -⟩ := Kk JB.out.blk
      clear aD dG
      go_upto_region 25 with fail
      go_cut [] (fun wc => ∃ vs', JS w L g how vf' vs' (.slice (some ⟨gg, 0, none⟩) i cg) (c.far ++ [row]) (c.size ++ [S]) ((c.gone.set A true).set B true) g0 gj (jA ⟨A, B, (S : Int), hq⟩) wc)
      case first =>
       go_region_law (first | (refine Jd7 Tryz.eltIntR rfl (.tmp 151) (.tmp 154) rfl (w6.drew.alloc (.cells #[.int .i64 (S : Int)] 3)) _ c.size (w6.heap.size + 1) (some ⟨w6.heap.size, 0, none⟩) 1 1 [S] (by simp [Act.eval, Act.put]) JA.out.cls.size (by simp [Act.eval, Act.put]) (Row.new w6.drew 3 iv [S]).reads (fun _ => rfl) (by have := HLS.out; unfold maxLen; omega) (by have := HLS.out; omega) ?_; intro v7 w7 cU cV; obtain ⟨A7, n7, k7c, gH⟩ := Own.form3 cU; subst gH; have c7 := JA.out.blk.texc (JA.out.size1 cV) (by decide); have js7 := lh (JA.out.addSize cV cU); obtain ⟨p0, p1, p2, p3, q0, q1, q2, q3⟩ := Kk c7) | (refine Jd7 Tryz.eltIntR rfl (.tmp 151) (.tmp 154) rfl ((w6.alloc (.cells #[.int .i64 (S : Int)] 3)).drew) _ c.size (w6.heap.size + 1) (some ⟨w6.heap.size, 0, none⟩) 1 1 [S] (by simp [Act.eval, Act.put]) JB.out.cls.size (by simp [Act.eval, Act.put]) (Row.new w6 3 iv [S]).reads (fun _ => rfl) (by have := HLS.out; unfold maxLen; omega) (by have := HLS.out; omega) ?_; intro v7 w7 cU cV; obtain ⟨A7, n7, k7c, gH⟩ := Own.form3 cU; subst gH; have c7 := JB.out.blk.texc (JB.out.size1 cV) (by decide); have js7 := lh (JB.out.addSize cV cU); obtain ⟨p0, p1, p2, p3, q0, q1, q2, q3⟩ := Kk c7))
       all_goals
        go_wp2
        go_meet
        exact ⟨_, js7.out⟩
      case rest =>
       obtain ⟨vs', aD⟩ := hcut
       rename World => w8
       clear r0 r1 r2 r3 f0 f1 f2 f3 x0 x1 x2 x3 x4 x5 x6 x7 JA JB ra0 ra1 ra2 ra3 rb0 rb1 rb2 rb3
       obtain ⟨r0, r1, r2, r3, f0, f1, f2, f3⟩ := Kk aD.blk
       have HJS := lh aD
       clear aD
       go_upto_region 26 with fail
       go_cut [] (fun wc => ∃ vg', JS w L g how vf' vs' vg' (c.far ++ [row]) (c.size ++ [S]) (((c.gone.set A true).set B true) ++ [false]) g0 gj (jA ⟨A, B, (S : Int), hq⟩) wc)
       case first =>
        go_wp2_with (at_builtin; refine Jds Tryz.eltBool rfl (.tmp 162) (.tmp 163) rfl w8 _ ((c.gone.set A true).set B true) false _ rfl rfl HJS.out.cls.gone rfl rfl (by have := HLG.out; unfold maxLen; omega) (by have := HLG.out; omega) ?_; intro v9 w9 dV dW; obtain ⟨A9, n9, k9c, iY⟩ := Own.form3 dV; subst iY; have c9 := HJS.out.blk.texc (HJS.out.gone1 dW) (by decide); have js9 := lh (HJS.out.addGone dW dV); clear r0 r1 r2 r3 f0 f1 f2 f3 dV dW; obtain ⟨r0, r1, r2, r3, f0, f1, f2, f3⟩ := Kk c9; clear c9)
        go_meet
        exact ⟨_, js9.out⟩
       case rest =>
        obtain ⟨vg', aD⟩ := hcut
        rename World => wz
        clear r0 r1 r2 r3 f0 f1 f2 f3 HJS
        have dG : Blk wz gj _ #[.int .i64 (A : Int), .int .i64 (B : Int), .int .i64 (S : Int), .bool (decide (hq.num < 0)), .int .u64 (lo hq.num.natAbs : Int), .string (mo hq.num.natAbs), .int .u64 (lo ((qden hq)) : Int), .string (mo ((qden hq)))] := aD.bj
        have dX : Blk wz g0 _ #[.int .i64 0, .int .i64 0, .int .i64 0, .bool false, .int .u64 0, .string ⟨#[]⟩, .int .u64 0, .string ⟨#[]⟩] := aD.b0
        obtain ⟨x0, x1, x2, x3, x4, x5, x6, x7⟩ := dG.c8
        obtain ⟨u0, u1, u2, u3, u4, u5, u6, u7⟩ := dX.c8
        obtain ⟨f0, f1, f2, f3, f4, f5, f6, f7⟩ := dX.q8
        have HP := lh (dX.put8 (a' := .int .i64 (A : Int)) (b' := .int .i64 (B : Int)) (c' := .int .i64 (S : Int)) (d' := .bool (decide (hq.num < 0))) (e' := .int .u64 (lo hq.num.natAbs : Int)) (x' := .string (mo hq.num.natAbs)) (y' := .int .u64 (lo (qden hq) : Int)) (z' := .string (mo (qden hq))))
        have HD9 := lh (aD.done iN (.int .i64 (A : Int)) (.int .i64 (B : Int)) (.int .i64 (S : Int)) (.bool (decide (hq.num < 0))) (.int .u64 (lo hq.num.natAbs : Int)) (.string (mo hq.num.natAbs)) (.int .u64 (lo (qden hq) : Int)) (.string (mo (qden hq))))
        have HLL := lh (And.intro aD.lf (And.intro aD.ls aD.lo))
        have HRW := lh hrw
        clear aD dG dX hrw
        go_upto_region 27 with fail
        go_cut [] (fun wc => Blk wc g0 58 #[.int .i64 (A : Int), .int .i64 (B : Int), .int .i64 (S : Int), .bool (decide (hq.num < 0)), .int .u64 (lo hq.num.natAbs : Int), .string (mo hq.num.natAbs), .int .u64 (lo ((qden hq)) : Int), .string (mo ((qden hq)))] /\ ClsAt wc g how vf' vs' vg' ⟨c.far ++ [row], c.size ++ [S], ((c.gone.set A true).set B true) ++ [false]⟩ /\ TExc Jbx L w wc)
        case first =>
         go_wp2
         go_meet
         exact ⟨HP.out, HD9.out⟩
        case rest =>
         obtain ⟨dX, cE, eE⟩ := hcut
         obtain ⟨p0, p1, p2, p3, p4, p5, p6, p7⟩ := dX.c8
         have HCC := lh cE
         have HTE := lh eE
         clear x0 x1 x2 x3 x4 x5 x6 x7 u0 u1 u2 u3 u4 u5 u6 u7 f0 f1 f2 f3 f4 f5 f6 f7 dX cE eE HP HD9
         apply ‹∀ (a : Act) (w_1 : World), Code.wp _ Code.ret _ a w_1 -> _›
         refine wp_ret ?_
         refine bodyPost_ret (v := jV ⟨A, B, (S : Int), hq⟩) (by simp [results, Tryz.results62, go_sem, p0, p1, p2, p3, p4, p5, p6, p7, jV]) rfl ?_
         rw [HCL.out, HS.out]
         exact ⟨rfl, ⟨_, _, _, HCC.out, HLL.out.1, HLL.out.2.1, HLL.out.2.2⟩, HTE.out⟩
theorem Jct {P : Program} {t e : TypeId} {z : Value} {size bytes : Nat} (ht : P.underlying t = some (.slice e)) (hi : (P.info? e).map (fun i => (i.zero, i.size, i.bytes)) = some (some z, size, bytes)) (A : Option Addr) (n c : Nat) (k' : IntKind) (h : Int) (h1 : 0 <= h) (h2 : h <= c) (w : World) :
  (Instr.slice t (.slice A n c) none (some (.int k' h)) none).run P w = .ok (.slice (Us A c 0 size) h.toNat c) w := by
 obtain ⟨i0, iK, jP, iL, jQ⟩ := info_parts hi
 have h4 : max h 0 = h := by omega
 simp [h4, Instr.slice, run_underlying ht, Instr.sliceBounds, Instr.sliceBound, asIntOf, sizeOf, typeInfo, iK, h1, h2, iL, Us, Result.andThen]
theorem Jgq (g c k : Nat) : Us (some ⟨g, 0, none⟩) c 0 k = some ⟨g, 0, none⟩ := by
 unfold Us
 split
 ·rfl
 simp [Addr.add]
theorem Jku (w : World) : OwnQ (w.alloc (.cells #[] 56)) (.slice (some ⟨w.heap.size, 0, none⟩) 0 0) [] := by
 have h := World.ownsRow_made (base := 0) (size := 5) (e := 56) w #[] 0 (Nat.zero_le _) (Nat.zero_le _) rfl
 exact h
theorem Jrk (gb ob n c B : Nat) (l : List Rat) (w : World) (h : ReadsQ w B (some ⟨gb, ob, none⟩) n l) (hB : B <= w.heap.size) (hn : n <= 1000) :
  Calls Tryz.prog 61 #[.slice (some ⟨gb, ob, none⟩) n c] w fun e w' => ∃ v, e = .returned v /\ (∃ A c, v = .slice A n c) /\ OwnQ w' v l /\ (∀ b, v.ownBlock = some b -> w.heap.size <= b) /\ Below w.heap.size w w' := by
 have H := lh (ReadsW.alloc h hB (.cells #[] 56))
 have iP := h.len
 have HE := lh (Jku w)
 have q22 : ∀ (w : World) (a : Option Addr) (n c n' c' : Nat), (binOp .eql 73 (.slice a n c) (.slice none n' c')).run Tryz.prog w = .ok (.bool a.isNone) w := fun w a n c n' c' => Lib.run_eql_slice_nil w _ _ a n c n' c' (Tryz.eltQ).under
 clear h
 go_enter Tryz.func61, Tryz.ntmps61
 go_wp2_with (at_builtin; refine Jro Tryz.eltQ (by omega) rfl (.tmp 5) (.tmp 6) rfl (w.alloc (.cells #[] 56)) _ [] B (some ⟨gb, ob, none⟩) n c l rfl HE.out rfl H.out Jsj (by unfold maxLen; simp; omega) (by simp; omega) ?_; intro v' w1 dF gV; have dF := lh dF; have gV := lh gV)
 go_returns
 obtain ⟨A', c', hv, -⟩ := OwnW.form dF.out
 refine ⟨_, rfl, ⟨A', c', by rw [hv]; simp [iP]⟩, by simpa using dF.out, fun b hb => ?_, ?_⟩
 ·rcases gV.out.own b hb with h1 | h1
  ·have e : w.heap.size = b := Option.some.inj h1
   omega
  rw [World.size_alloc] at h1
  omega
 exact (Jb w _).trans (gV.out.below (by simp) (fun k hk => by have e : w.heap.size = k := Option.some.inj hk; omega))
section
variable {β : Type} {T TT : TypeId} {I : World -> Value -> β -> Prop} {ops : Array Oper} {op : Oper} {a : Act} {K : Act -> World -> Prop} {Q : Exit -> Act -> World -> Prop} {Z : Prop}
theorem Jsf (KK : Kind T I) (E : Elt Tryz.prog TT T (.slice none 0 0) 24) (bI : op.guard = none) (s x : Operand)
  (ho : op.op = .call { callee := .builtin .append, args := #[s, x], argTypes := #[TT, TT] })
  (wr : World) (v : Value) (bl : List β) (A : Option Addr) (n c : Nat) (b : β) (hs : a.eval s = v) (aM : OwnS T I wr v bl) (mX : I wr (.slice A n c) b) (hx : a.eval x = .slice (some ⟨wr.heap.size, 0, none⟩) 1 1) (hl : bl.length <= 1000000)
  (h : ∀ v' w1, OwnS T I w1 v' (bl ++ [b]) -> Grew wr w1 v v' -> K (a.put op.dst v') w1) : if Region.wanted op (yielded ops a.tmps) = true then Oper.wp Tryz.prog op a (wr.alloc (.cells #[.slice A n c] T)) K Q else Z := by
 obtain ⟨rl, h1, h2, h3⟩ := aM
 refine Jd7 E bI s x ho (wr.alloc (.cells #[.slice A n c] T)) v rl (wr.heap.size + 1) (some ⟨wr.heap.size, 0, none⟩) 1 1 [(⟨A, n, c⟩ : SW)] hs (Own.alloc h1 _) hx (Row.new wr T SW.v [⟨A, n, c⟩]).reads SW.one (by unfold maxLen; omega) (by omega) ?_
 intro v' w1 h4 h5
 have x8 : Grew wr w1 v v' := by
  refine ⟨h5.os, h5.tape, h5.output, nt (by simp) h5.size, fun k hk x9 => (h5.block k (by simp; omega) x9).trans (Below.heap_alloc wr _ k hk), fun k hk => ?_⟩
  rcases h5.own k hk with h6 | h6
  ·exact .inl h6
  exact .inr (by simp at h6; omega)
 exact h v' w1 (OwnS.snoc KK h1 h2 h3 mX h4 x8) x8
end
structure CS (L g how : Nat) (vf vs vg : Value) (c : Cls) (w : World) : Prop where
 cls : ClsAt w g how vf vs vg c
 lg : L <= g
 lf : ∀ b, vf.ownBlock = some b -> L <= b
 ls : ∀ b, vs.ownBlock = some b -> L <= b
 lo : ∀ b, vg.ownBlock = some b -> L <= b
section
variable {wr w1 : World} {L g how : Nat} {vf vs vg vf' vs' vg' : Value} {far : List (List Rat)} {size : List Nat} {gone : List Bool} {c : Cls}
theorem CS.next (h : CS L g how vf vs vg c wr) (hb : Below wr.heap.size wr w1) : CS L g how vf vs vg c w1 := ⟨h.cls.next hb, h.lg, h.lf, h.ls, h.lo⟩
theorem CS.texc {ts : List TypeId} {B : Nat} (h : CS L g how vf vs vg c wr) (t : TExc ts B wr w1) (h1 : 107 ∉ ts) (h2 : 73 ∉ ts) (h3 : 3 ∉ ts) (h4 : 4 ∉ ts) (h5 : 56 ∉ ts) : CS L g how vf vs vg c w1 :=
 ⟨⟨h.cls.blk.texc t h1, OwnQQ.texc h.cls.far t h2 h5, h.cls.size.texc t h3, h.cls.gone.texc t h4⟩, h.lg, h.lf, h.ls, h.lo⟩
theorem CS.far1 (h : CS L g how vf vs vg ⟨far, size, gone⟩ wr) (x8 : Grew wr w1 vf vf') : TExc [73] L wr w1 := TExc.grewS x8 h.cls.far (by simp) h.lf
theorem CS.addFar {row : List Rat} (h : CS L g how vf vs vg ⟨far, size, gone⟩ wr) (x8 : Grew wr w1 vf vf') (ho : OwnQQ w1 vf' (far ++ [row])) :
  CS L g how vf' vs vg ⟨far ++ [row], size, gone⟩ (w1.setCell ⟨g, 1, none⟩ vf') /\ TExc Jbx L wr (w1.setCell ⟨g, 1, none⟩ vf') := by
 have t1 := h.far1 x8
 have c1 := h.cls.blk.texc t1 (by decide)
 have t2 := JS.put1 c1 h.lg 1 vf'
 have c2 := c1.set_ 1 vf'
 refine ⟨⟨⟨by simpa using c2, OwnQQ.texc ho t2 (by decide) (by decide), (h.cls.size.texc t1 (by decide)).texc t2 (by decide), (h.cls.gone.texc t1 (by decide)).texc t2 (by decide)⟩, h.lg, ?_, h.ls, h.lo⟩, (t1.wide (by decide)).trans (t2.wide (by decide))⟩
 exact Kx x8 h.lf (nt h.lg (Nat.le_of_lt h.cls.blk.lt))
theorem CS.size1 (h : CS L g how vf vs vg ⟨far, size, gone⟩ wr) (x8 : Grew wr w1 vs vs') : TExc [3] L wr w1 := TExc.grew1 x8 h.cls.size (by simp) h.ls
theorem CS.addSize {s : Nat} (h : CS L g how vf vs vg ⟨far, size, gone⟩ wr) (x8 : Grew wr w1 vs vs') (ho : Own w1 3 iv vs' (size ++ [s])) :
  CS L g how vf vs' vg ⟨far, size ++ [s], gone⟩ (w1.setCell ⟨g, 2, none⟩ vs') /\ TExc Jbx L wr (w1.setCell ⟨g, 2, none⟩ vs') := by
 have t1 := h.size1 x8
 have c1 := h.cls.blk.texc t1 (by decide)
 have t2 := JS.put1 c1 h.lg 2 vs'
 have c2 := c1.set_ 2 vs'
 refine ⟨⟨⟨by simpa using c2, OwnQQ.texc (OwnQQ.texc h.cls.far t1 (by decide) (by decide)) t2 (by decide) (by decide), ho.texc t2 (by decide), (h.cls.gone.texc t1 (by decide)).texc t2 (by decide)⟩, h.lg, h.lf, ?_, h.lo⟩, (t1.wide (by decide)).trans (t2.wide (by decide))⟩
 exact Kx x8 h.ls (nt h.lg (Nat.le_of_lt h.cls.blk.lt))
theorem CS.gone1 (h : CS L g how vf vs vg ⟨far, size, gone⟩ wr) (x8 : Grew wr w1 vg vg') : TExc [4] L wr w1 := TExc.grew1 x8 h.cls.gone (by simp) h.lo
theorem CS.addGone {s : Bool} (h : CS L g how vf vs vg ⟨far, size, gone⟩ wr) (x8 : Grew wr w1 vg vg') (ho : Own w1 4 Value.bool vg' (gone ++ [s])) :
  CS L g how vf vs vg' ⟨far, size, gone ++ [s]⟩ (w1.setCell ⟨g, 3, none⟩ vg') /\ TExc Jbx L wr (w1.setCell ⟨g, 3, none⟩ vg') := by
 have t1 := h.gone1 x8
 have c1 := h.cls.blk.texc t1 (by decide)
 have t2 := JS.put1 c1 h.lg 3 vg'
 have c2 := c1.set_ 3 vg'
 refine ⟨⟨⟨by simpa using c2, OwnQQ.texc (OwnQQ.texc h.cls.far t1 (by decide) (by decide)) t2 (by decide) (by decide), (h.cls.size.texc t1 (by decide)).texc t2 (by decide), ho.texc t2 (by decide)⟩, h.lg, h.lf, h.ls, ?_⟩, (t1.wide (by decide)).trans (t2.wide (by decide))⟩
 exact Kx x8 h.lo (nt h.lg (Nat.le_of_lt h.cls.blk.lt))
end
def Xu (f : List (List Rat)) (k : Nat) : Cls := ⟨(List.range k).map fun i => (f.getD i []).take i, List.replicate k 1, List.replicate k false⟩
theorem Jg8 (f : List (List Rat)) : Xu f f.length = Jaj f := rfl
theorem Jg7 (f : List (List Rat)) (k : Nat) : Xu f (k + 1) = ⟨(Xu f k).far ++ [(f.getD k []).take k], (Xu f k).size ++ [1], (Xu f k).gone ++ [false]⟩ := by
 unfold Xu
 rw [List.range_succ, List.map_append, List.replicate_succ', List.replicate_succ']
 rfl
def Jka (w : World) (g how : Nat) (f : List (List Rat)) (k : Nat) (wr : World) : Prop :=
 ∃ vf vs vg, CS w.heap.size g how vf vs vg (Xu f k) wr /\ Below w.heap.size w wr
def Jgy (w : World) (g how : Nat) (f : List (List Rat)) (k : Nat) (v : Value) (wr : World) : Prop :=
 ∃ vf vs vg, CS w.heap.size g how vf vs vg (Qe how f k) wr /\ OwnJ wr v ((List.range k).map (Jh how f)) /\ (∀ b, v.ownBlock = some b -> w.heap.size <= b) /\ Below w.heap.size w wr
theorem OwnQQ.readsQQ {w : World} {A : Option Addr} {n c : Nat} {f : List (List Rat)} (h : OwnQQ w (.slice A n c) f) : Jd0 w w.heap.size A n f := OwnS.readS (fun h => OwnQ.reads_ h) h
theorem Jkx (A : Option Addr) (n c m how : Nat) (f : List (List Rat)) (w : World) (h : OwnQQ w (.slice A n c) f) (hn : n <= 7) (cL : 1 <= m) (hm : m <= 1000000) (hs : ∀ l ∈ f, ∀ x ∈ l, QS m x) (iZ : Xi f = 0) (hh : how = 1 \/ how = 2 \/ how = 3) (hT : Tab w) :
  Calls Tryz.prog 24 #[.slice A n c, .int .i64 (how : Int)] w fun e w' => ∃ v, e = .returned (.tuple #[v, .int .i64 0]) /\ OwnJ w' v (Zy how f) /\ (∀ b, v.ownBlock = some b -> w.heap.size <= b) /\ Below w.heap.size w w' := by
 obtain ⟨hf, hp, hz, h1, nH⟩ := Jg4 iZ
 have aJ : n = f.length := by
  obtain ⟨A', c', e⟩ := h.form
  injection e
 obtain ⟨gF, rfl⟩ := OwnS.addr h (by omega)
 have dY := Jkw (some ⟨gF, 0, none⟩) n c w.heap.size f w h.readsQQ zd (by omega) (fun l hl x hx => (hs l hl x hx).mono (by omega))
 rw [iZ] at dY
 have H := lh h
 have HF := lh hf
 have HS := lh hs
 have HT := lh hT
 have HCK := lh dY
 have HH := lh hh
 have HLEN := lh aJ
 clear h hf hp hz hs hT dY iZ aJ
 go_enter Tryz.func24, Tryz.ntmps24
 go_upto_region 1 with fail
 go_cut [20] (fun v wc => v = .bool false /\ w = wc)
 case first =>
  rcases hh with rfl | rfl | rfl
  ·go_wp2
   go_meet
   exact ⟨rfl, rfl⟩
  ·go_wp2
   go_meet
   exact ⟨rfl, rfl⟩
  go_wp2
  go_meet
  exact ⟨rfl, rfl⟩
 case rest =>
  obtain ⟨rfl, rfl⟩ := hcut
  clear hh
  go_wp2_with fail
  refine HCK.out.mono ?_
  rintro e w1 ⟨rfl, j9⟩
  clear HCK
  have b0 := Blk.new w1 107 #[.int .i64 (how : Int), .slice none 0 0, .slice none 0 0, .slice none 0 0]
  have cA := Jb w1 (.cells #[.int .i64 (how : Int), .slice none 0 0, .slice none 0 0, .slice none 0 0] 107)
  have cE : CS w.heap.size w1.heap.size how (.slice none 0 0) (.slice none 0 0) (.slice none 0 0) (Xu f 0) (w1.alloc (.cells #[.int .i64 (how : Int), .slice none 0 0, .slice none 0 0, .slice none 0 0] 107)) :=
   ⟨⟨b0, OwnS.nil _ _ _, Own.nil_ _ _ _, Own.nil_ _ _ _⟩, j9.size, (fun b h => by cases h), (fun b h => by cases h), (fun b h => by cases h)⟩
  have HI : Hid (Jka w w1.heap.size how f 0 (w1.alloc (.cells #[.int .i64 (how : Int), .slice none 0 0, .slice none 0 0, .slice none 0 0] 107))) := lh ⟨_, _, _, cE, Ja j9 cA⟩
  have lg : w.heap.size <= w1.heap.size := j9.size
  clear b0 cA cE
  go_wp2_with fail
  generalize w1.alloc (.cells #[.int .i64 (how : Int), .slice none 0 0, .slice none 0 0, .slice none 0 0] 107) = W at *
  generalize w1.heap.size = g at *
  clear j9
  go_loopw [30] (fun p wr => ∃ k : Nat, k <= n /\ p = .int .i64 (k : Int) /\ Jka w g how f k wr) (fun p _ => n - (intOf p).toNat)
  case atStart => exact ⟨0, by omega, rfl, HI.out⟩
  case round =>
   obtain ⟨k, hk, rfl, vf, vs, vg, aC, j8⟩ := hrel
   rename World => wr
   clear HI
   by_cases iO : k < n
   ·have k1 : (k : Int) < (n : Int) := by omega
    have k3 : (k : Int).toNat = k := by omega
    have aJ := HLEN.out
    have jB : k < f.length := by omega
    have hx := OwnS.next Tryz.kindQQ H.out j8
    obtain ⟨l, hl⟩ : ∃ l, f[k]? = some l := ⟨_, List.getElem?_eq_getElem jB⟩
    have kC : l.length = n := by
     have e := HF.out.row k jB
     rw [List.getD_eq_getElem?_getD, hl] at e
     rw [aJ]
     exact e
    obtain ⟨A1, m1, c1, nI, gI⟩ := OwnS.at_ hx hl
    obtain ⟨gr, rfl⟩ := OwnQ.addr gI (by omega)
    obtain rfl : m1 = n := by rw [OwnQ.len gI]; exact kC
    have mY : m1 <= c1 := by
     obtain ⟨A', c', e, h2, -⟩ := OwnW.form gI
     injection e with e1 e2 e3
     omega
    have gJ := Jct (P := Tryz.prog) (Tryz.eltQ).under (Tryz.eltQ).info (some ⟨gr, 0, none⟩) m1 c1 .i64 (k : Int) (by omega) (by omega)
    rw [Jgq, k3] at gJ
    have kD := ReadsW.front Jej (OwnQ.reads_ gI) (Nat.le_of_lt iO)
    have cG := fun w' (aF : Below wr.heap.size wr w') => Jrk gr 0 k c1 wr.heap.size (l.take k) w' (ReadsW.below kD aF) aF.size (by omega)
    have gS : (Xu f k).far.length <= 1000000 := by simp [Xu]; omega
    have dZ : (Xu f k).size.length <= 1000000 := by simp [Xu]; omega
    have eA : (Xu f k).gone.length <= 1000000 := by simp [Xu]; omega
    have bQ := Jg7 f k
    rw [show f.getD k [] = l by rw [List.getD_eq_getElem?_getD, hl]; rfl] at bQ
    have HST := lh bQ
    obtain ⟨far, size, gone, gK⟩ : ∃ far size gone, Xu f k = ⟨far, size, gone⟩ := ⟨_, _, _, rfl⟩
    rw [gK] at aC gS dZ eA HST
    have HCL := lh cG
    have HLK : Hid (far.length <= 1000000) := lh gS
    have HLK2 : Hid (size.length <= 1000000) := lh dZ
    have HLK3 : Hid (gone.length <= 1000000) := lh eA
    have HCS := lh aC
    have HBW := lh j8
    obtain ⟨r0, r1, r2, r3, -, -, -, -⟩ := Kk aC.cls.blk
    have HDR := lh (aC.next (Jf wr))
    clear cG gS dZ eA bQ gK kD hx gI kC hl aC j8 aJ jB
    go_upto_region 10 with fail
    go_cut [] (fun wc => ∃ vf', CS w.heap.size g how vf' vs vg ⟨far ++ [l.take k], size, gone⟩ wc /\ Below w.heap.size w wc)
    case first =>
     go_region_law (first | (refine Jsf Tryz.kindQQ Tryz.eltQQ rfl (.tmp 36) (.tmp 41) rfl w5 _ far A5 k c5 (l.take k) (by simp [Act.eval, Act.put]) CS5.out.cls.far gG (by simp [Act.eval, Act.put]) HLK.out ?_; intro v6 w6 kE kF; obtain ⟨A6, n6, c6, mZ⟩ := OwnS.form3 kE; subst mZ; have d6 := CS5.out.cls.blk.texc (CS5.out.far1 kF) (by decide); have CS6 := lh (CS5.out.addFar kF kE); obtain ⟨p0, p1, p2, p3, f0, f1, f2, f3⟩ := Kk d6) | (go_simp; go_at_call 61; (with_reducible refine (HCL.out _ (Jf _)).mono ?_); rintro e w5 ⟨v5, rfl, ⟨A5, c5, iX⟩, gG, nA, bH⟩; subst iX; have CS5 := lh (HDR.out.next bH); have HB5 := lh (HBW.out.trans ((Ja (Jf wr) bH).mono HBW.out.size)); obtain ⟨s0, s1, s2, s3, -, -, -, -⟩ := Kk CS5.out.cls.blk; obtain ⟨t0, t1, t2, t3, -, -, -, -⟩ := Kk (CS5.out.next (Jb w5 (.cells #[.slice A5 k c5] 73))).cls.blk))
     all_goals
      go_wp2
      go_meet
      exact ⟨_, CS6.out.1, HB5.out.trans (CS6.out.2.below HB5.out.size)⟩
    case rest =>
     obtain ⟨vf', aC, j8⟩ := hcut
     rename World => wq
     clear r0 r1 r2 r3 HDR HCS HBW HCL HLK
     obtain ⟨r0, r1, r2, r3, -, -, -, -⟩ := Kk aC.cls.blk
     have HCS := lh aC
     have HBW := lh j8
     clear aC j8
     go_upto_region 11 with fail
     go_cut [] (fun wc => ∃ vs', CS w.heap.size g how vf' vs' vg ⟨far ++ [l.take k], size ++ [1], gone⟩ wc /\ Below w.heap.size w wc)
     case first =>
      go_wp2_with (at_builtin; refine Jds (f := iv) Tryz.eltIntR rfl (.tmp 45) (.tmp 46) rfl wq _ size 1 (.int .i64 1) rfl rfl HCS.out.cls.size rfl rfl (by have := HLK2.out; unfold maxLen; omega) (by have := HLK2.out; omega) ?_; intro v7 w7 cU cV; obtain ⟨A7, n7, k7c, gH⟩ := Own.form3 cU; subst gH; have c7 := HCS.out.cls.blk.texc (HCS.out.size1 cV) (by decide); have js7 := lh (HCS.out.addSize cV cU); clear r0 r1 r2 r3 cU cV; obtain ⟨r0, r1, r2, r3, f0, f1, f2, f3⟩ := Kk c7; clear c7)
      go_meet
      exact ⟨_, js7.out.1, HBW.out.trans (js7.out.2.below HBW.out.size)⟩
     case rest =>
      obtain ⟨vs', aC, j8⟩ := hcut
      rename World => wz
      clear r0 r1 r2 r3 HCS HBW HLK2
      obtain ⟨r0, r1, r2, r3, -, -, -, -⟩ := Kk aC.cls.blk
      have HCS := lh aC
      have HBW := lh j8
      clear aC j8
      go_wp2_with (at_builtin; refine Jds Tryz.eltBool rfl (.tmp 50) (.tmp 51) rfl wz _ gone false _ rfl rfl HCS.out.cls.gone rfl rfl (by have := HLK3.out; unfold maxLen; omega) (by have := HLK3.out; omega) ?_; intro v9 w9 dV dW; obtain ⟨A9, n9, k9c, iY⟩ := Own.form3 dV; subst iY; have c9 := HCS.out.cls.blk.texc (HCS.out.gone1 dW) (by decide); have js9 := lh (HCS.out.addGone dW dV); clear r0 r1 r2 r3 dV dW; obtain ⟨r0, r1, r2, r3, f0, f1, f2, f3⟩ := Kk c9; clear c9)
      exact ⟨⟨k + 1, by omega, by go_num, _, _, _, by rw [HST.out]; exact js9.out.1, HBW.out.trans (js9.out.2.below HBW.out.size)⟩, by simp [intOf]; omega⟩
   obtain rfl : k = n := by omega
   have k1 : ¬ (k : Int) < (k : Int) := by omega
   have bQ : Xu f k = Qe how f 0 := by rw [HLEN.out, Jg8]; rfl
   rw [bQ] at aC
   obtain ⟨n1, gW⟩ : ∃ n1, k = n1 + 1 := ⟨k - 1, by have := HLEN.out; omega⟩
   have HN1 := lh gW
   have k4 : (k : Int) - 1 = (n1 : Int) := by omega
   have k5 : IntKind.i64.wrap ((k : Int) - 1) = (n1 : Int) := by rw [k4]; simp [IntKind.wrap, IntKind.signed, IntKind.bits]; omega
   have HI : Hid (Jgy w g how f 0 (.slice none 0 0) wr) := lh ⟨vf, vs, vg, aC, OwnW.nil_ _ _ _ _, (fun b h => by cases h), j8⟩
   clear aC j8 bQ gW
   go_wp2_with fail
   go_loopw [10, 58] (fun v p wr => ∃ i : Nat, i <= n1 /\ p = .int .i64 (i : Int) /\ Jgy w g how f i v wr) (fun _ p _ => n1 - (intOf p).toNat)
   case atStart => exact ⟨0, by omega, rfl, HI.out⟩
   case round =>
    obtain ⟨i, hi, rfl, vf, vs, vg, aC, ho, dH, j8⟩ := hrel
    rename World => wq
    clear HI
    by_cases nJ : i < n1
    ·have q1 : (i : Int) < (n1 : Int) := by omega
     have aJ := HLEN.out
     have gW := HN1.out
     obtain ⟨A, B, hj, hc⟩ := Zo (how := how) (k := i) HF.out (by omega)
     have hw := Jd2 (how := how) (k := i) HF.out cL HS.out (by omega) (by omega)
     have cA := (Ze (Jau (how := how) HF.out i (by omega)) (i := A) (by have := hj.ab; have := hj.bn; omega)).2 hj.pa
     have bC := hw.pos A (by have := hj.ab; have := hj.bn; omega) cA
     have cT := Jnj g how (f.length + i) (64 * m + 2520) A B w.heap.size (betw (Qe how f i).far A B) vf vs vg (Qe how f i) wq aC.cls hw (by omega) (by omega) (by omega) HH.out hj.scan hj.ab hj.bn (by omega) ⟨aC.lg, aC.lf, aC.ls, aC.lo⟩ (HT.out.next j8)
     rw [<- hc] at cT
     have he : Jh how f i = ⟨A, B, (((Qe how f i).size.getD A 0 + (Qe how f i).size.getD B 0 : Nat) : Int), betw (Qe how f i).far A B⟩ := by
      unfold Jh Jgd
      rw [hj.scan]
     generalize (((Qe how f i).size.getD A 0 + (Qe how f i).size.getD B 0 : Nat) : Int) = S at *
     generalize betw (Qe how f i).far A B = hq at *
     have kG : (List.range (i + 1)).map (Jh how f) = (List.range i).map (Jh how f) ++ [⟨A, B, S, hq⟩] := by
      rw [List.range_succ, List.map_append, <- he]
      rfl
     have HJN := lh cT
     have HRG := lh kG
     have HLK := lh (show ((List.range i).map (Jh how f)).length <= 1000000 by simp; omega)
     have HO := lh ho
     have HFR := lh dH
     have HBW := lh j8
     have HCS := lh aC
     clear cT kG ho dH j8 aC hj hc hw cA bC he aJ gW
     go_wp2_with fail
     refine HJN.out.mono ?_
     rintro e w2 ⟨he, ⟨vf', vs', vg', cE, l1, l2, l3⟩, eE⟩
     unfold jV at he
     subst he
     have cF := OwnW.texc HO.out eE (by decide)
     have kH : CS w.heap.size g how vf' vs' vg' (Qe how f (i + 1)) w2 := ⟨cE, HCS.out.lg, l1, l2, l3⟩
     have bP := HBW.out.trans (eE.below HBW.out.size)
     have HO2 := lh cF
     have CS2 := lh kH
     have HB2 := lh bP
     clear cE l1 l2 l3 eE cF kH bP HO HBW HCS HJN
     go_wp2_with (at_builtin; refine appJ rfl (.tmp 60) (.tmp 62) rfl w2 _ ((List.range i).map (Jh how f)) ⟨A, B, S, hq⟩ rfl HO2.out rfl HLK.out ?_; intro v3 w3 kI kJ; have HO3 := lh kI; have HG3 := lh kJ; clear kI kJ)
     have te3 : TExc [58] w.heap.size w2 w3 := TExc.grew HG3.out HO2.out (by simp) HFR.out
     exact ⟨⟨i + 1, by omega, by go_num, _, _, _, CS2.out.texc te3 (by decide) (by decide) (by decide) (by decide) (by decide), by rw [HRG.out]; exact HO3.out, Kx HG3.out HFR.out HB2.out.size, HB2.out.trans (te3.below HB2.out.size)⟩, by simp [intOf]; omega⟩
    obtain rfl : i = n1 := by omega
    have q1 : ¬ (i : Int) < (i : Int) := by omega
    have dG : (List.range i).map (Jh how f) = Zy how f := by
     unfold Zy
     rw [<- HLEN.out, HN1.out]
     rfl
    rw [dG] at ho
    have HO := lh ho
    have HFR := lh dH
    have HBW := lh j8
    clear ho dH j8 aC dG
    go_wp2
    go_returns
    exact ⟨_, rfl, HO.out, HFR.out, HBW.out⟩
theorem OwnJ.at_ {w : World} {g n c : Nat} {l : List Jn} (h : OwnJ w (.slice (some ⟨g, 0, none⟩) n c) l) {k : Nat} {j : Jn} (hj : l[k]? = some j) : AtJ w g (k * 8) j := by
 obtain ⟨A', c', h3, _⟩ := OwnW.form h
 injection h3 with _ hn _
 subst hn
 have hk : k < l.length := (List.getElem?_eq_some_iff.1 hj).1
 have hc : ∀ i, i < 8 -> w.cell? ⟨g, k * 8 + i, none⟩ = (jC j)[i]? := fun i hi => by
  rw [World.ownsRow.cellAt h (k * 8 + i) (by omega)]
  exact Jaw Jht l k i _ hj hi
 exact ⟨⟨hc 0 (by omega), hc 1 (by omega), hc 2 (by omega), hc 3 (by omega), hc 4 (by omega), hc 5 (by omega), hc 6 (by omega), hc 7 (by omega)⟩⟩
theorem OwnJ.addr {w : World} {A : Option Addr} {n c : Nat} {l : List Jn} (h : OwnJ w (.slice A n c) l) (hn : 0 < l.length) : n = l.length /\ ∃ g, A = some ⟨g, 0, none⟩ := by
 obtain ⟨A', c', h3, _⟩ := OwnW.form h
 injection h3 with h4 h5 h6
 refine ⟨h5, ?_⟩
 rcases h.2 with ⟨h3, h4⟩ | ⟨g, cap, cur, h3, _⟩
 ·omega
 injection h3 with h3 _ _
 exact ⟨g, h3⟩
theorem Jel (w : World) (q : Rat) : OwnQ (w.alloc (.cells #[.bool (decide (q.num < 0)), .int .u64 (lo q.num.natAbs : Int), .string (mo q.num.natAbs), .int .u64 (lo ((qden q)) : Int), .string (mo ((qden q)))] 56)) (.slice (some ⟨w.heap.size, 0, none⟩) 1 1) [q] := by
 have h := World.ownsRow_lit (base := 0) (size := 5) (e := 56) w #[.bool (decide (q.num < 0)), .int .u64 (lo q.num.natAbs : Int), .string (mo q.num.natAbs), .int .u64 (lo ((qden q)) : Int), .string (mo ((qden q)))] 1 (Nat.zero_le _) (by unfold maxLen; omega) rfl
 exact h
def Ys : List (List Rat) := [[((0 : Int) : Rat)], [((1 : Int) : Rat)], [((3 : Int) : Rat)]]
theorem Jew {w1 w2 w3 : World} {a b c : Rat} (h2 : Below (w1.alloc (.cells #[.bool (decide (a.num < 0)), .int .u64 (lo a.num.natAbs : Int), .string (mo a.num.natAbs), .int .u64 (lo ((qden a)) : Int), .string (mo ((qden a)))] 56)).heap.size (w1.alloc (.cells #[.bool (decide (a.num < 0)), .int .u64 (lo a.num.natAbs : Int), .string (mo a.num.natAbs), .int .u64 (lo ((qden a)) : Int), .string (mo ((qden a)))] 56)) w2) (h3 : Below (w2.alloc (.cells #[.bool (decide (b.num < 0)), .int .u64 (lo b.num.natAbs : Int), .string (mo b.num.natAbs), .int .u64 (lo ((qden b)) : Int), .string (mo ((qden b)))] 56)).heap.size (w2.alloc (.cells #[.bool (decide (b.num < 0)), .int .u64 (lo b.num.natAbs : Int), .string (mo b.num.natAbs), .int .u64 (lo ((qden b)) : Int), .string (mo ((qden b)))] 56)) w3) :
  OwnQQ ((w3.alloc (.cells #[.bool (decide (c.num < 0)), .int .u64 (lo c.num.natAbs : Int), .string (mo c.num.natAbs), .int .u64 (lo ((qden c)) : Int), .string (mo ((qden c)))] 56)).alloc (.cells #[.slice (some ⟨w1.heap.size, 0, none⟩) 1 1, .slice (some ⟨w2.heap.size, 0, none⟩) 1 1, .slice (some ⟨w3.heap.size, 0, none⟩) 1 1] 73)) (.slice (some ⟨w3.heap.size + 1, 0, none⟩) 3 3) [[a], [b], [c]] := by
 have o1 := OwnW.next (OwnW.next (Jel w1 a) h2) ((Jb w2 (.cells #[.bool (decide (b.num < 0)), .int .u64 (lo b.num.natAbs : Int), .string (mo b.num.natAbs), .int .u64 (lo ((qden b)) : Int), .string (mo ((qden b)))] 56)).trans (h3.mono (Below.size (Jb _ _))))
 have o2 := OwnW.next (Jel w2 b) h3
 have o3 := Jel w3 c
 have hb := Jb w3 (.cells #[.bool (decide (c.num < 0)), .int .u64 (lo c.num.natAbs : Int), .string (mo c.num.natAbs), .int .u64 (lo ((qden c)) : Int), .string (mo ((qden c)))] 56)
 have o1 := OwnW.next o1 hb
 have o2 := OwnW.next o2 hb
 have hl := Own.lit (w3.alloc (.cells #[.bool (decide (c.num < 0)), .int .u64 (lo c.num.natAbs : Int), .string (mo c.num.natAbs), .int .u64 (lo ((qden c)) : Int), .string (mo ((qden c)))] 56)) 73 SW.v [(⟨some ⟨w1.heap.size, 0, none⟩, 1, 1⟩ : SW), ⟨some ⟨w2.heap.size, 0, none⟩, 1, 1⟩, ⟨some ⟨w3.heap.size, 0, none⟩, 1, 1⟩] (by unfold maxLen; simp)
 rw [World.size_alloc] at hl
 have ha := Jb (w3.alloc (.cells #[.bool (decide (c.num < 0)), .int .u64 (lo c.num.natAbs : Int), .string (mo c.num.natAbs), .int .u64 (lo ((qden c)) : Int), .string (mo ((qden c)))] 56)) (.cells #[.slice (some ⟨w1.heap.size, 0, none⟩) 1 1, .slice (some ⟨w2.heap.size, 0, none⟩) 1 1, .slice (some ⟨w3.heap.size, 0, none⟩) 1 1] 73)
 refine ⟨_, hl, rfl, fun i r b' hr aF => ?_⟩
 match i, hr, aF with
 | 0, hr, aF =>
  obtain rfl := Option.some.inj hr
  obtain rfl := Option.some.inj aF
  exact OwnW.next o1 ha
 | 1, hr, aF =>
  obtain rfl := Option.some.inj hr
  obtain rfl := Option.some.inj aF
  exact OwnW.next o2 ha
 | 2, hr, aF =>
  obtain rfl := Option.some.inj hr
  obtain rfl := Option.some.inj aF
  exact OwnW.next o3 ha
 | n + 3, hr, aF => simp at hr
theorem Jjj : ∀ l ∈ Ys, ∀ y ∈ l, QS 2 y := by
 intro l hl y hy
 have h : l = [((0 : Int) : Rat)] \/ l = [((1 : Int) : Rat)] \/ l = [((3 : Int) : Rat)] := by simpa [Ys] using hl
 rcases h with rfl | rfl | rfl <;> (obtain rfl := List.mem_singleton.1 hy; exact ⟨Nat.le_of_ble_eq_true (by kernel_rfl), Nat.le_of_ble_eq_true (by kernel_rfl)⟩)
theorem Jjg : Jk1 Ys = true := by kernel_rfl
theorem Jji : Zy 1 (Xr Ys) = [⟨0, 1, 2, 1⟩, ⟨2, 3, 3, 4⟩] := by kernel_rfl
theorem Jjh : Xi (Xr Ys) = 0 := Je3 (by decide) (by decide) (by
 intro a ha b hb
 have h : ∀ a ∈ Ys, a.length = 1 := by decide
 rw [h a ha, h b hb])
theorem Jgc (w : World) (hT : Tab w) : Calls Tryz.prog 18 #[] w (Ret (.bool true) w) := by
 have cZ := fun w => Jbi 0 w (by omega) (by omega)
 have dA := fun w => Jbi 1 w (by omega) (by omega)
 have dB := fun w => Jbi 3 w (by omega) (by omega)
 have dI := fun (B : Nat) (A : Option Addr) (c : Nat) (w' : World) (h : Jd0 w' B A 3 Ys) (hB : B <= w'.heap.size) (hT : Tab w') => Jnl A 3 c B 2 Ys w' h hB (by omega) (by omega) (by omega) Jjj hT Jjg
 have hq := Jml (m := 2) (wd := 1) Jjj (by omega) (by
  have h : ∀ a ∈ Ys, a.length = 1 := by decide
  exact h)
 have aE := fun (A : Option Addr) (c : Nat) (w' : World) (h : OwnQQ w' (.slice A 3 c) (Xr Ys)) (hT : Tab w') => Jkx A 3 c _ 1 (Xr Ys) w' h (by omega) (by omega) (by omega) hq Jjh (Or.inl rfl) hT
 rw [Jji] at aE
 have gL := @Jew
 have aJ : (Xr Ys).length = 3 := by decide
 have HROWS : Hid (∀ (w1 w2 w3 : World), Below (w1.alloc (.cells #[.bool (decide ((((0 : Int) : Rat)).num < 0)), .int .u64 (lo (((((0 : Int) : Rat)).num).natAbs) : Int), .string (mo (((((0 : Int) : Rat)).num).natAbs)), .int .u64 (lo ((qden (((0 : Int) : Rat)))) : Int), .string (mo ((qden (((0 : Int) : Rat)))))] 56)).heap.size (w1.alloc (.cells #[.bool (decide ((((0 : Int) : Rat)).num < 0)), .int .u64 (lo (((((0 : Int) : Rat)).num).natAbs) : Int), .string (mo (((((0 : Int) : Rat)).num).natAbs)), .int .u64 (lo ((qden (((0 : Int) : Rat)))) : Int), .string (mo ((qden (((0 : Int) : Rat)))))] 56)) w2 -> Below (w2.alloc (.cells #[.bool (decide ((((1 : Int) : Rat)).num < 0)), .int .u64 (lo (((((1 : Int) : Rat)).num).natAbs) : Int), .string (mo (((((1 : Int) : Rat)).num).natAbs)), .int .u64 (lo ((qden (((1 : Int) : Rat)))) : Int), .string (mo ((qden (((1 : Int) : Rat)))))] 56)).heap.size (w2.alloc (.cells #[.bool (decide ((((1 : Int) : Rat)).num < 0)), .int .u64 (lo (((((1 : Int) : Rat)).num).natAbs) : Int), .string (mo (((((1 : Int) : Rat)).num).natAbs)), .int .u64 (lo ((qden (((1 : Int) : Rat)))) : Int), .string (mo ((qden (((1 : Int) : Rat)))))] 56)) w3 ->
   OwnQQ ((w3.alloc (.cells #[.bool (decide ((((3 : Int) : Rat)).num < 0)), .int .u64 (lo (((((3 : Int) : Rat)).num).natAbs) : Int), .string (mo (((((3 : Int) : Rat)).num).natAbs)), .int .u64 (lo ((qden (((3 : Int) : Rat)))) : Int), .string (mo ((qden (((3 : Int) : Rat)))))] 56)).alloc (.cells #[.slice (some ⟨w1.heap.size, 0, none⟩) 1 1, .slice (some ⟨w2.heap.size, 0, none⟩) 1 1, .slice (some ⟨w3.heap.size, 0, none⟩) 1 1] 73)) (.slice (some ⟨w3.heap.size + 1, 0, none⟩) 3 3) Ys) := lh fun w1 w2 w3 h2 h3 => Jew h2 h3
 clear gL hq
 generalize hx0 : ((0 : Int) : Rat) = x0 at cZ HROWS
 generalize hx1 : ((1 : Int) : Rat) = x1 at dA HROWS
 generalize hx3 : ((3 : Int) : Rat) = x3 at dB HROWS
 clear hx0 hx1 hx3
 unfold qV at cZ dA dB
 have dC := fun w => Jmg 1 1 1 w (by omega) (by omega) (by omega) (by omega) (by omega) (by kernel_rfl) ⟨Nat.le_of_ble_eq_true (by kernel_rfl), Nat.le_of_ble_eq_true (by kernel_rfl)⟩
 have dD := fun w => Jmg 4 4 1 w (by omega) (by omega) (by omega) (by omega) (by omega) (by kernel_rfl) ⟨Nat.le_of_ble_eq_true (by kernel_rfl), Nat.le_of_ble_eq_true (by kernel_rfl)⟩
 generalize hy1 : (1 : Rat) = y1 at dC aE
 generalize hy4 : (4 : Rat) = y4 at dD aE
 clear hy1 hy4
 unfold qV at dC dD
 have H0 := lh cZ
 have H1 := lh dA
 have H3 := lh dB
 have HF := lh dI
 have HB := lh aE
 have HI1 := lh dC
 have HI4 := lh dD
 have HT := lh hT
 have HLEN := lh aJ
 clear cZ dA dB dI aE dC dD hT aJ
 go_enter Tryz.func18, Tryz.ntmps18
 go_wp2_with fail
 refine (H0.out w).mono ?_
 rintro e w1 ⟨rfl, j7⟩
 go_wp2_with fail
 refine (H1.out _).mono ?_
 rintro e w2 ⟨rfl, bP⟩
 go_wp2_with fail
 refine (H3.out _).mono ?_
 rintro e w3 ⟨rfl, jD⟩
 have hr := HROWS.out w1 w2 w3 bP jD
 have hb := (j7.trans (((Jb w1 _).trans (bP.mono (Below.size (Jb _ _)))).mono j7.size))
 have hb := hb.trans (((Jb w2 _).trans (jD.mono (Below.size (Jb _ _)))).mono hb.size)
 have hb := hb.trans ((Jl w3 (.cells #[.bool (decide (x3.num < 0)), .int .u64 (lo x3.num.natAbs : Int), .string (mo x3.num.natAbs), .int .u64 (lo ((qden x3)) : Int), .string (mo ((qden x3)))] 56) (.cells #[.slice (some ⟨w1.heap.size, 0, none⟩) 1 1, .slice (some ⟨w2.heap.size, 0, none⟩) 1 1, .slice (some ⟨w3.heap.size, 0, none⟩) 1 1] 73)).mono hb.size)
 have HR := lh hr
 have HBW := lh hb
 clear hr hb j7 bP jD
 go_wp2_with fail
 refine (HF.out _ _ _ _ HR.out.readsQQ zd (HT.out.next HBW.out)).mono ?_
 rintro e w4 ⟨v, rfl, ho, dH, kK⟩
 obtain ⟨A, c, hv⟩ := OwnS.form ho
 rw [HLEN.out] at hv
 subst hv
 have HB4 := lh (Ja HBW.out kK)
 have HO := lh ho
 clear ho dH kK HR HBW
 go_wp2_with fail
 refine (HB.out _ _ _ HO.out (HT.out.next HB4.out)).mono ?_
 rintro e w5 ⟨v, rfl, ho, dH, kL⟩
 obtain ⟨A5, c5, hv, -⟩ := OwnW.form ho
 have hv : v = .slice A5 2 c5 := hv
 subst hv
 obtain ⟨-, g5, rfl⟩ := OwnJ.addr ho (by simp)
 have j0 := OwnJ.at_ ho (k := 0) rfl
 have j1 := OwnJ.at_ ho (k := 1) rfl
 have HB5 := lh (Ja HB4.out kL)
 clear ho dH kL HO HB4 HF HB H0 H1 H3 HROWS HT HLEN
 have q0 := j0.c8
 have q1 := j1.c8
 simp only [Nat.zero_mul, Nat.zero_add, Nat.one_mul, Nat.reduceAdd, Nat.reduceMul] at q0 q1
 obtain ⟨a0, a1, a2, a3, a4, a5, a6, a7⟩ := q0
 obtain ⟨b0, b1, b2, b3, b4, b5, b6, b7⟩ := q1
 have l0 := j0.lt
 have l1 := j1.lt
 go_wp2_with fail
 refine (HI1.out _).mono ?_
 rintro e w6 ⟨rfl, jE⟩
 have j1 := j1.below jE l1
 have q1 := j1.c8
 simp only [Nat.zero_mul, Nat.zero_add, Nat.one_mul, Nat.reduceAdd, Nat.reduceMul] at q1
 clear a0 a1 a2 a3 a4 a5 a6 a7 b0 b1 b2 b3 b4 b5 b6 b7 j0 l0 l1 HI1
 obtain ⟨b0, b1, b2, b3, b4, b5, b6, b7⟩ := q1
 have HB6 := lh (Ja HB5.out jE)
 clear jE HB5
 go_wp2_with fail
 refine (HI4.out _).mono ?_
 rintro e w7 ⟨rfl, kM⟩
 have HB7 := lh (Ja HB6.out kM)
 clear kM HB6 b0 b1 b2 b3 b4 b5 b6 b7
 go_wp2
 go_ret
 exact ⟨rfl, HB7.out⟩
