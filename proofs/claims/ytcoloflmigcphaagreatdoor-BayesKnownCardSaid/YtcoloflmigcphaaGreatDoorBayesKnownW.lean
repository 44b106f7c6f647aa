import Derived.Test.YtcoloflmigcphaaGreatDoorBayesC
import Derived.Test.YtcoloflmigcphaaGreatDoorHandRows
namespace Go.Proofs.YtcoloflmigcphaaGreatDoor
set_option maxRecDepth 100000
set_option maxHeartbeats 8000000
open Go.RowKit
set_option linter.all false
theorem Jit (x y : Int) (w : World) : Calls Tryz.prog 71 #[.int .i64 x, .int .i64 y] w (Ret (.int .i64 x) w) := by
 go_enter Tryz.func71, Tryz.ntmps71
 go_wp2
 go_ret
 exact ⟨rfl, Below.refl _ _⟩
theorem Jih (args : Array Value) (w : World) : (callFunc 71 args).run Tryz.prog w = .ok (.enter 71 args) w := by
 go_simp
def FitC (n1 n2 n3 : Nat) (m : BM) (W : World) (v v12 : Value) (wc : World) : Prop :=
 ∃ (g : Nat) (AW : Option Addr) (cW gS gC : Nat) (F G H : Nat -> Prop), v = .pointer (some ⟨g, 0, none⟩) /\ v12 = .int .i64 0 /\ Blk wc g 43 #[.bool (decide (m.smooth.num < 0)), .int .u64 (lo m.smooth.num.natAbs : Int), .string (mo m.smooth.num.natAbs), .int .u64 (lo ((qden m.smooth)) : Int), .string (mo ((qden m.smooth))), .slice AW n1 cW, .slice (some ⟨gS, 0, none⟩) n2 n2, .slice (some ⟨gC, 0, none⟩) n3 n3] /\
  OwB 3 22 65 W.heap.size wc ⟨AW, n1, cW⟩ ⟨some ⟨gS, 0, none⟩, n2, n2⟩ ⟨some ⟨gC, 0, none⟩, n3, n3⟩ F G H m /\ Below W.heap.size W wc
theorem Joh {a b u y : Value} (h : #[a, b] = #[u, y]) : a = u /\ b = y := by simpa using h
theorem Ji1 {g g' : Nat} (h : Value.pointer (some ⟨g, 0, none⟩) = .pointer (some ⟨g', 0, none⟩)) : g = g' := by
 injection h with h
 injection h with h
 injection h with h
def FitM (n1 n2 n3 : Nat) (m : BM) (W : World) (u : Value) (w : World) (X : Nat -> Prop) : Prop := ∃ (AW : Option Addr) (cW gS gC : Nat) (F G H : Nat -> Prop), u = .agg #[.bool (decide (m.smooth.num < 0)), .int .u64 (lo m.smooth.num.natAbs : Int), .string (mo m.smooth.num.natAbs), .int .u64 (lo ((qden m.smooth)) : Int), .string (mo ((qden m.smooth))), .slice AW n1 cW, .slice (some ⟨gS, 0, none⟩) n2 n2, .slice (some ⟨gC, 0, none⟩) n3 n3] /\
  OwB 3 22 65 W.heap.size w ⟨AW, n1, cW⟩ ⟨some ⟨gS, 0, none⟩, n2, n2⟩ ⟨some ⟨gC, 0, none⟩, n3, n3⟩ F G H m /\ ∀ g, X g -> ¬ F g /\ ¬ G g /\ ¬ H g
structure FitR (W : World) (n1 n2 n3 : Nat) (m : BM) (er : Int) (x0 x1 x2 x3 x4 x5 : Value) (d : Nat -> Bool) (val : Nat -> Value) (w : World) : Prop where
 bel : Below W.heap.size W w
 v0 : d 0 = true -> val 0 = x0
 v1 : d 1 = true -> val 1 = x1
 v2 : d 2 = true -> val 2 = x2
 v3 : d 3 = true -> val 3 = x3
 v4 : d 4 = true -> val 4 = x4
 v5 : d 5 = true -> val 5 = x5
 v6 : d 6 = true -> ∃ c0 c1 c2 c3 c4 c5 c6 c7, val 6 = .tuple #[.agg #[c0, c1, c2, c3, c4, c5, c6, c7], .int .i64 er] /\ (#[c0, c1, c2, c3, c4, c5, c6, c7].all (·.oneCell') = true) /\ (er = 0 -> FitM n1 n2 n3 m W (.agg #[c0, c1, c2, c3, c4, c5, c6, c7]) w fun g => d 10 = true /\ val 10 = .pointer (some ⟨g, 0, none⟩))
 v7 : d 7 = true -> d 6 = true /\ val 7 = val 6
 v8 : d 8 = true -> d 6 = true /\ ∀ u y, val 6 = .tuple #[u, y] -> val 8 = u
 v9 : d 9 = true -> d 6 = true /\ ∀ u y, val 6 = .tuple #[u, y] -> val 9 = y
 v10 : d 10 = true -> ∃ g y0 y1 y2 y3 y4 y5 y6 y7, val 10 = .pointer (some ⟨g, 0, none⟩) /\ W.heap.size <= g /\ Blk w g 43 #[y0, y1, y2, y3, y4, y5, y6, y7] /\ (d 11 = true -> d 8 = true /\ val 8 = .agg #[y0, y1, y2, y3, y4, y5, y6, y7])
 v11 : d 11 = true -> d 10 = true
 v12 : d 12 = true -> d 9 = true /\ val 12 = val 9
theorem Jky {L n1 n2 n3 : Nat} {m : BM} {er : Int} {v : Value} {W w : World} (h : Jhk L n1 n2 n3 (m, er) v w) (hL : W.heap.size <= L) : ∃ c0 c1 c2 c3 c4 c5 c6 c7, v = .tuple #[.agg #[c0, c1, c2, c3, c4, c5, c6, c7], .int .i64 er] /\ (#[c0, c1, c2, c3, c4, c5, c6, c7].all (·.oneCell') = true) /\ (er = 0 -> FitM n1 n2 n3 m W (.agg #[c0, c1, c2, c3, c4, c5, c6, c7]) w fun g => g < L) := by
 rcases h with ⟨h0, u, rfl, AW, cW, gS, gC, F, G, H, rfl, ho⟩ | ⟨h0, rfl⟩
 ·simp only at h0
  subst h0
  exact ⟨_, _, _, _, _, _, _, _, rfl, by simp [Value.oneCell'], fun _ => ⟨AW, cW, gS, gC, F, G, H, rfl, ho.low hL, fun g hg => ⟨fun e => by have := ho.from1 _ e; omega, fun e => by have := ho.from2 _ e; omega, fun e => by have := ho.from3 _ e; omega⟩⟩⟩
 exact ⟨_, _, _, _, _, _, _, _, rfl, by simp [Value.oneCell'], fun h => absurd h h0⟩
theorem FitM.next {n1 n2 n3 : Nat} {m : BM} {W w w' : World} {u : Value} {X Y : Nat -> Prop} (h : FitM n1 n2 n3 m W u w X) (hb : Below w.heap.size w w') (hY : ∀ g, Y g -> X g \/ w.heap.size <= g) : FitM n1 n2 n3 m W u w' Y := by
 obtain ⟨AW, cW, gS, gC, F, G, H, h1, ho, h2⟩ := h
 obtain ⟨o1, o2, o3⟩ := ho.old
 refine ⟨AW, cW, gS, gC, F, G, H, h1, ho.next hb, fun g hg => ?_⟩
 rcases hY g hg with h3 | h3
 ·exact h2 g h3
 exact ⟨fun e => by have := o1 _ e; omega, fun e => by have := o2 _ e; omega, fun e => by have := o3 _ e; omega⟩
theorem FitM.sub {n1 n2 n3 : Nat} {m : BM} {W w : World} {u : Value} {X Y : Nat -> Prop} (h : FitM n1 n2 n3 m W u w X) (hY : ∀ g, Y g -> X g) : FitM n1 n2 n3 m W u w Y := by
 obtain ⟨AW, cW, gS, gC, F, G, H, h1, ho, h2⟩ := h
 exact ⟨AW, cW, gS, gC, F, G, H, h1, ho, fun g hg => h2 g (hY g hg)⟩
theorem FitM.exc {n1 n2 n3 g : Nat} {m : BM} {W w w' : World} {u : Value} {X : Nat -> Prop} (h : FitM n1 n2 n3 m W u w X) (hx : Exc g w w') (hg : X g) : FitM n1 n2 n3 m W u w' X := by
 obtain ⟨AW, cW, gS, gC, F, G, H, h1, ho, h2⟩ := h
 have h3 := h2 g hg
 exact ⟨AW, cW, gS, gC, F, G, H, h1, ho.exc hx h3.1 h3.2.1 h3.2.2, h2⟩
def FitX (n1 n2 n3 : Nat) (m : BM) (er : Int) (W : World) (v v12 : Value) (wc : World) : Prop :=
 v12 = .int .i64 er /\ Below W.heap.size W wc /\ (er = 0 -> FitC n1 n2 n3 m W v (.int .i64 0) wc)
theorem Jie {m : BM} {rows : List (List Int)} {ls : List Int} {k : Nat} {r : List Int} {x : Int} (hr : rows[k]? = some r) (hx : ls[k]? = some x) :
  Jby m ((rows.zip ls).drop k) = if (Xg m r x).2 ≠ 0 then (BM.none, (Xg m r x).2) else Jby (Xg m r x).1 ((rows.zip ls).drop (k + 1)) := by
 have hz : (rows.zip ls)[k]? = some (r, x) := by rw [List.getElem?_zip_eq_some]; exact ⟨hr, hx⟩
 obtain ⟨hk, he⟩ := List.getElem?_eq_some_iff.1 hz
 rw [List.drop_eq_getElem_cons hk, he]
 rfl
theorem Jf7 {m : BM} {row : List Int} {c : Int} (h : (Xg m row c).2 = 0) : Jk (Xg m row c).1 = 0 /\ (Xg m row c).1.smooth = m.smooth := by
 unfold Xg at h ⊢
 by_cases h1 : Xq m row c = 0
 ·rw [if_neg (by simp [h1])] at h ⊢
  obtain ⟨t8, eS, eT, eB⟩ := Ye h1
  by_cases h2 : 1073741824 <= m.seen.getD c.toNat 0
  ·rw [if_pos h2] at h
   simp at h
  rw [if_neg h2]
  refine ⟨Jas t8 eB.1 fun s hs => ?_, rfl⟩
  rw [List.getD_eq_getElem?_getD, hs] at h2
  simpa using h2
 rw [if_pos h1] at h
 exact absurd h h1
def Jok (n1 n2 n3 L gR g8 : Nat) (w0 : World) (m : BM) (wr : World) : Prop :=
 ∃ (AW : Option Addr) (cW gS gC : Nat) (F G H : Nat -> Prop), Blk wr g8 43 #[.bool (decide (m.smooth.num < 0)), .int .u64 (lo m.smooth.num.natAbs : Int), .string (mo m.smooth.num.natAbs), .int .u64 (lo ((qden m.smooth)) : Int), .string (mo ((qden m.smooth))), .slice AW n1 cW, .slice (some ⟨gS, 0, none⟩) n2 n2, .slice (some ⟨gC, 0, none⟩) n3 n3] /\
  OwB 3 22 65 L wr ⟨AW, n1, cW⟩ ⟨some ⟨gS, 0, none⟩, n2, n2⟩ ⟨some ⟨gC, 0, none⟩, n3, n3⟩ F G H m /\ (¬ F g8 /\ ¬ G g8 /\ ¬ H g8) /\ Blk wr gR 43 #[.bool false, .int .u64 0, .string ⟨#[]⟩, .int .u64 0, .string ⟨#[]⟩, .slice none 0 0, .slice none 0 0, .slice none 0 0] /\ Below w0.heap.size w0 wr
theorem Jkj (X1 X2 X3 : Option Addr) (n1 s1 n2 s2 n3 s3 B : Nat) (m : BM) (A4 : Option Addr) (n4 s4 : Nat) (rows : List (List Int)) (A5 : Option Addr) (n5 s5 : Nat) (ls : List Int) (w : World) (h : RdB w B ⟨X1, n1, s1⟩ ⟨X2, n2, s2⟩ ⟨X3, n3, s3⟩ m) (h4 : ReadsS ReadsI w B A4 n4 rows) (h5 : ReadsI w B A5 n5 ls) (hB : B <= w.heap.size) (hL : LenB m) (eU : n4 <= 1000) (cR : ∀ r ∈ rows, r.length <= 1000) (eV : n5 <= 1000) (hs : QS 1099511627776 m.smooth) :
  Calls Tryz.prog 34 #[.agg #[.bool (decide (m.smooth.num < 0)), .int .u64 (lo m.smooth.num.natAbs : Int), .string (mo m.smooth.num.natAbs), .int .u64 (lo ((qden m.smooth)) : Int), .string (mo ((qden m.smooth))), .slice X1 n1 s1, .slice X2 n2 s2, .slice X3 n3 s3], .slice A4 n4 s4, .slice A5 n5 s5] w fun e w' => ∃ v, e = .returned v /\ Jhk w.heap.size n1 n2 n3 (Jif m rows ls) v w' /\ Below w.heap.size w w' := by
 have aR : m.words.length = n1 := h.words.len
 have aS : m.seen.length = n2 := h.seen.len
 have cS : m.counts.length = n3 := ReadsS.len h.counts
 have cT : rows.length = n4 := ReadsS.len h4
 have cU : ls.length = n5 := h5.len
 obtain ⟨R, hR⟩ : ∃ R, Jif m rows ls = R := ⟨_, rfl⟩
 rw [hR]
 have HR := lh hR
 clear hR
 obtain ⟨b0, b1, hB, hZ⟩ := bx2 w 43 #[.bool (decide (m.smooth.num < 0)), .int .u64 (lo m.smooth.num.natAbs : Int), .string (mo m.smooth.num.natAbs), .int .u64 (lo (qden m.smooth) : Int), .string (mo (qden m.smooth)), .slice X1 n1 s1, .slice X2 n2 s2, .slice X3 n3 s3] 43 #[.bool false, .int .u64 0, .string ⟨#[]⟩, .int .u64 0, .string ⟨#[]⟩, .slice none 0 0, .slice none 0 0, .slice none 0 0]
 go_enter Tryz.func34, Tryz.ntmps34
 go_upto_region 1 with fail
 generalize ((w.alloc (.cells #[.bool (decide (m.smooth.num < 0)), .int .u64 (lo m.smooth.num.natAbs : Int), .string (mo m.smooth.num.natAbs), .int .u64 (lo (qden m.smooth) : Int), .string (mo (qden m.smooth)), .slice X1 n1 s1, .slice X2 n2 s2, .slice X3 n3 s3] 43)).alloc (.cells #[.bool false, .int .u64 0, .string ⟨#[]⟩, .int .u64 0, .string ⟨#[]⟩, .slice none 0 0, .slice none 0 0, .slice none 0 0] 43)) = W at *
 rename B <= w.heap.size => hBB
 have HCK := lh (Zm X1 X2 X3 n1 s1 n2 s2 n3 s3 B m W (h.below (hB.mono hBB)) (nt hBB hB.size) hL hs)
 have H := lh h
 have H4 := lh h4
 have H5 := lh h5
 have HL := lh hL
 have HS := lh hs
 have HRL := lh cR
 have HW := lh (And.intro aR (And.intro aS (And.intro cS (And.intro cT cU))))
 have HBW := lh hB
 have HBB := lh hBB
 have HZ := lh hZ.out
 obtain ⟨r, hr⟩ : ∃ r, Jk m = r := ⟨_, rfl⟩
 rw [hr] at HCK
 have HRC := lh hr
 obtain ⟨x0, x1, x2, x3, x4, x5, x6, x7⟩ := b0.c8
 clear h h4 h5 hL hs cR aR aS cS cT cU hB hZ hBB hr
 go_wp2_with fail
 refine HCK.out.mono ?_
 rintro e w1 ⟨rfl, j7⟩
 have b0 := b0.below j7 b0.lt
 have b1 := b1.below j7 b1.lt
 have HB1 := lh (HBW.out.trans (j7.mono HBW.out.size))
 clear x0 x1 x2 x3 x4 x5 x6 x7 j7 HBW HCK
 obtain ⟨x0, x1, x2, x3, x4, x5, x6, x7⟩ := b0.c8
 have o9 := show w.heap.size <= w.heap.size + 1 by omega
 generalize aT : w.heap.size + 1 = gR at *
 have HGR := lh aT
 have HB2 := lh b1
 have HC := lh b0
 clear b0 b1 aT
 by_cases aU : r = 0
 case neg =>
  obtain rfl : R = (BM.none, 1) := by rw [<- HR.out]; unfold Jif; rw [if_pos (by rw [HRC.out]; exact aU)]
  have q1 : (r != 0) = true := by simp; omega
  have q2 : (r == 0) = false := by simp; omega
  go_wp2_with (refine Jr rfl _ (.tmp 6) (.tmp 16) rfl gR #[.bool false, .int .u64 0, .string ⟨#[]⟩, .int .u64 0, .string ⟨#[]⟩, .slice none 0 0, .slice none 0 0, .slice none 0 0] _ rfl rfl _ HB2.out (by kernel_rfl) rfl (by simp [Value.oneCell']) ?_; intro w7 j0 j6; have HX7 := lh j6; have HB7 := lh j0; clear j6 j0 x0 x1 x2 x3 x4 x5 x6 x7)
  obtain ⟨p0, p1, p2, p3, p4, p5, p6, p7⟩ := HB7.out.c8
  refine bodyPost_ret (v := .tuple #[.agg #[.bool false, .int .u64 0, .string ⟨#[]⟩, .int .u64 0, .string ⟨#[]⟩, .slice none 0 0, .slice none 0 0, .slice none 0 0], .int .i64 1]) (by simp [results, Tryz.results34, go_sem, p0, p1, p2, p3, p4, p5, p6, p7]) rfl ?_
  exact ⟨_, rfl, .inr ⟨by simp, rfl⟩, HB1.out.trans (HX7.out.below HB1.out.size o9)⟩
 subst aU
 by_cases bU : n4 = n5 /\ n4 <= 300
 case neg =>
  obtain rfl : R = (BM.none, 5) := by rw [<- HR.out]; unfold Jif; rw [if_neg (by rw [HRC.out]; simp), if_pos (by have := HW.out; omega)]
  have HQ : Hid (((n4 : Int) = (n5 : Int) /\ (300 : Int) < (n4 : Int)) \/ ¬ (n4 : Int) = (n5 : Int)) := lh (by omega)
  clear HR HRC
  rcases HQ.out with ⟨k1, k2⟩ | k1
  ·have q1 : ((n4 : Int) != (n5 : Int)) = false := by simp; omega
   have q2 : ((n4 : Int) == (n5 : Int)) = true := by simp; omega
   have q3 : decide ((300 : Int) < (n4 : Int)) = true := decide_eq_true k2
   clear HQ bU k1
   go_wp2_with (refine Jr rfl _ (.tmp 6) (.tmp 27) rfl gR #[.bool false, .int .u64 0, .string ⟨#[]⟩, .int .u64 0, .string ⟨#[]⟩, .slice none 0 0, .slice none 0 0, .slice none 0 0] _ rfl rfl _ HB2.out (by kernel_rfl) rfl (by simp [Value.oneCell']) ?_; intro w7 j0 j6; have HX7 := lh j6; have HB7 := lh j0; clear j6 j0 x0 x1 x2 x3 x4 x5 x6 x7)
   obtain ⟨p0, p1, p2, p3, p4, p5, p6, p7⟩ := HB7.out.c8
   refine bodyPost_ret (v := .tuple #[.agg #[.bool false, .int .u64 0, .string ⟨#[]⟩, .int .u64 0, .string ⟨#[]⟩, .slice none 0 0, .slice none 0 0, .slice none 0 0], .int .i64 5]) (by simp [results, Tryz.results34, go_sem, p0, p1, p2, p3, p4, p5, p6, p7]) rfl ?_
   exact ⟨_, rfl, .inr ⟨by simp, rfl⟩, HB1.out.trans (HX7.out.below HB1.out.size o9)⟩
  have q1 : ((n4 : Int) != (n5 : Int)) = true := by simp; omega
  have q2 : ((n4 : Int) == (n5 : Int)) = false := by simp; omega
  clear HQ bU
  go_wp2_with (refine Jr rfl _ (.tmp 6) (.tmp 27) rfl gR #[.bool false, .int .u64 0, .string ⟨#[]⟩, .int .u64 0, .string ⟨#[]⟩, .slice none 0 0, .slice none 0 0, .slice none 0 0] _ rfl rfl _ HB2.out (by kernel_rfl) rfl (by simp [Value.oneCell']) ?_; intro w7 j0 j6; have HX7 := lh j6; have HB7 := lh j0; clear j6 j0 x0 x1 x2 x3 x4 x5 x6 x7)
  obtain ⟨p0, p1, p2, p3, p4, p5, p6, p7⟩ := HB7.out.c8
  refine bodyPost_ret (v := .tuple #[.agg #[.bool false, .int .u64 0, .string ⟨#[]⟩, .int .u64 0, .string ⟨#[]⟩, .slice none 0 0, .slice none 0 0, .slice none 0 0], .int .i64 5]) (by simp [results, Tryz.results34, go_sem, p0, p1, p2, p3, p4, p5, p6, p7]) rfl ?_
  exact ⟨_, rfl, .inr ⟨by simp, rfl⟩, HB1.out.trans (HX7.out.below HB1.out.size o9)⟩
 obtain ⟨rfl, cV⟩ := bU
 have t8 := HRC.out
 obtain rfl : R = Jby m (rows.zip ls) := by rw [<- HR.out]; unfold Jif; rw [if_neg (by rw [t8]; simp), if_neg (by have := HW.out; omega)]
 have hM := HB1.out.mono HBB.out
 have HMG := lh (Um 71 Jih (fun x _ => x) (fun _ => True) (fun x y w _ _ => Jit x y w) X1 X2 X3 n1 s1 n2 s2 n3 s3 X1 X2 X3 n1 s1 n2 s2 n3 s3 B m m w1 (H.out.below hM) (H.out.below hM) (nt HBB.out HB1.out.size) HL.out (Jat t8))
 rw [Jal (fun _ _ => rfl)] at HMG
 have q1 : ((n4 : Int) != (n4 : Int)) = false := by simp
 have q2 : ((n4 : Int) == (n4 : Int)) = true := by simp
 have q3 : decide ((300 : Int) < (n4 : Int)) = false := decide_eq_false (by omega)
 clear hM t8 HR
 go_wp2_with fail
 refine HMG.out.mono ?_
 rintro e w2 ⟨v, rfl, ⟨AW, cW, gS, gC, F, G, H9, rfl, ho⟩, l5⟩
 have bV := HB2.out.lt
 have B2 := HB2.out.below l5 bV
 have cZ : gR < w1.heap.size := bV
 have eC := l5.size
 have bJ := Js 3 zv
 have dA : ∀ k, F k -> k < w2.heap.size := fun k hk => bJ.lt ho.words hk
 have dB : ∀ k, G k -> k < w2.heap.size := fun k hk => bJ.lt ho.seen hk
 have dC : ∀ k, H9 k -> k < w2.heap.size := fun k hk => ho.counts.lt (Xt bJ _) hk
 go_upto_region 6 with fail
 have dD : Jok n1 n2 n3 w1.heap.size gR w2.heap.size w m (w2.alloc (.cells #[.bool (decide (m.smooth.num < 0)), .int .u64 (lo m.smooth.num.natAbs : Int), .string (mo m.smooth.num.natAbs), .int .u64 (lo ((qden m.smooth)) : Int), .string (mo ((qden m.smooth))), .slice AW n1 cW, .slice (some ⟨gS, 0, none⟩) n2 n2, .slice (some ⟨gC, 0, none⟩) n3 n3] 43)) :=
  ⟨AW, cW, gS, gC, F, G, H9, Blk.new _ _ _, ho.next (Jb _ _), ⟨fun e => by have := dA _ e; omega, fun e => by have := dB _ e; omega, fun e => by have := dC _ e; omega⟩, B2.alloc _, (HB1.out.trans (l5.mono HB1.out.size)).trans ((Jb _ _).mono (nt HB1.out.size l5.size))⟩
 generalize w2.alloc (.cells #[.bool (decide (m.smooth.num < 0)), .int .u64 (lo m.smooth.num.natAbs : Int), .string (mo m.smooth.num.natAbs), .int .u64 (lo ((qden m.smooth)) : Int), .string (mo ((qden m.smooth))), .slice AW n1 cW, .slice (some ⟨gS, 0, none⟩) n2 n2, .slice (some ⟨gC, 0, none⟩) n3 n3] 43) = w3 at *
 generalize w2.heap.size = g8 at *
 have eW : gR < g8 := by omega
 have bW : w.heap.size <= g8 := by omega
 have HST := lh dD
 have HQM := HS
 have HL1 := lh (And.intro cZ HB1.out.size)
 generalize w1.heap.size = L at *
 clear dD ho l5 B2 dA dB dC bJ HMG HB2 HC x0 x1 x2 x3 x4 x5 x6 x7 HB1 bV cZ eC b0 b1 HZ
 go_wp2_with fail
 go_loopw [33] (fun p wr => ∃ (k : Nat) (mk : BM), k <= n4 /\ p = .int .i64 (k : Int) /\ Hid (Jby m (rows.zip ls) = Jby mk ((rows.zip ls).drop k)) /\ Jk mk = 0 /\ QS 1099511627776 mk.smooth /\ Jok n1 n2 n3 L gR g8 w mk wr) (fun p _ => n4 - (intOf p).toNat)
 case atStart => exact ⟨0, m, by omega, rfl, lh (by rw [List.drop_zero]), HRC.out, HQM.out, HST.out⟩
 case round =>
  obtain ⟨k, mk, hk, rfl, aP, t8, q8, dE⟩ := hrel
  rename World => wr
  clear HST HRC
  by_cases bK : k < n4
  ·as_aux_lemma =>
   have k1 : (k : Int) < (n4 : Int) := by omega
   obtain ⟨AW, cW, gS, gC, F, G, H9, b8, ho, bX, bR, x8⟩ := dE
   obtain ⟨row, y8⟩ : ∃ row, rows[k]? = some row := ⟨_, List.getElem?_eq_getElem (by have := HW.out; omega)⟩
   obtain ⟨ad, A', m', c', rfl, aJ, dF, bY⟩ := H4.out.at_ y8
   have aV := Qg (x8.mono HBB.out) dF aJ
   obtain ⟨ad5, g5, o5, x, rfl, eD, dG, hx, b5⟩ := H5.out.spot (k := k) bK
   have b5 := b5.below (x8.mono HBB.out) dG
   have eE : row.length = m' := bY.len
   have eF : m' <= 1000 := by have := HRL.out row (List.mem_of_getElem? y8); omega
   have aW := rkindI.more (rkindI.below bY (x8.mono HBB.out)) (nt HBB.out x8.size)
   have bZ := fun w' (hb : Below wr.heap.size wr w') => Jb3 AW (some ⟨gS, 0, none⟩) (some ⟨gC, 0, none⟩) n1 cW n2 n2 n3 n3 wr.heap.size mk A' m' c' row x w' (ho.read.below hb) (rkindI.below aW hb) hb.size (Za t8) eF q8
   have aK := Jie (m := mk) y8 hx
   have aX := @Jf7 mk row x
   obtain ⟨t, ht⟩ : ∃ t, Xg mk row x = t := ⟨_, rfl⟩
   rw [ht] at aK aX bZ
   obtain ⟨mt, er⟩ := t
   simp only at aK aX
   have dH := b8.lt
   have bL := bR.lt
   have eG : L <= wr.heap.size := by
    have hG : G gS := (ho.seen.2 gS).2 rfl
    have h1 := ho.from2 gS hG
    have h2 := (Js 3 zv).lt ho.seen hG
    omega
   have HBR := lh (And.intro bR bL)
   have HB8 := lh b8
   have HBW := lh x8
   have HTE := lh bZ
   clear bZ y8 hx dF bY aW ho bX bR x8 ht eE aJ
   go_upto_region 9 with fail
   go_cut [11, 12] (fun v v12 wc => FitX n1 n2 n3 mt er wr v v12 wc)
   case first =>
    refine Je0 (FitR wr n1 n2 n3 mt er (.agg #[.bool (decide (mk.smooth.num < 0)), .int .u64 (lo mk.smooth.num.natAbs : Int), .string (mo mk.smooth.num.natAbs), .int .u64 (lo ((qden mk.smooth)) : Int), .string (mo ((qden mk.smooth))), .slice AW n1 cW, .slice (some ⟨gS, 0, none⟩) n2 n2, .slice (some ⟨gC, 0, none⟩) n3 n3]) (.slice A' m' c') (.slice (some ad5) n4 s5) (.int .i64 (k : Int)) (.pointer (some (ad5.add k))) (.int .i64 x)) (by kernel_rfl) (by kernel_rfl) (by kernel_rfl) ?_ ?_ [some 39, some 40, some 41, some 42, some 43, some 44, some 45, some 38, some 46, some 47, some 11, none, some 12] rfl ?_
    ·constructor <;> first | exact Jt _ | (intro h; cases h)
    ·refine ⟨⟨⟨⟨⟨⟨⟨⟨⟨⟨⟨⟨⟨trivial, ?_⟩, ?_⟩, ?_⟩, ?_⟩, ?_⟩, ?_⟩, ?_⟩, ?_⟩, ?_⟩, ?_⟩, ?_⟩, ?_⟩, ?_⟩
     case refine_1 =>
      intro d val a' w' hS hF hd hp
      have b8' := HB8.out.below hF.bel dH
      obtain ⟨y0, y1, y2, y3, y4, y5, y6, y7⟩ := b8'.c8
      have e8 : a'.tmps[8]?.getD undef = .pointer (some ⟨g8, 0, none⟩) := hS.arg 8 (by kernel_rfl)
      refine Xa _ rfl rfl ?_ (show FitR _ _ _ _ _ _ _ _ _ _ _ _ _ _ _ from ⟨hF.bel, fun _ => rfl, hF.v1, hF.v2, hF.v3, hF.v4, hF.v5, hF.v6, hF.v7, hF.v8, hF.v9, hF.v10, hF.v11, hF.v12⟩)
      clear hF hS hd hp
      go_simp
     case refine_2 =>
      intro d val a' w' hS hF hd hp
      have e8 : a'.tmps[10]?.getD undef = .slice A' m' c' := hS.arg 10 (by kernel_rfl)
      refine Xa _ rfl rfl ?_ (show FitR _ _ _ _ _ _ _ _ _ _ _ _ _ _ _ from ⟨hF.bel, hF.v0, fun _ => rfl, hF.v2, hF.v3, hF.v4, hF.v5, hF.v6, hF.v7, hF.v8, hF.v9, hF.v10, hF.v11, hF.v12⟩)
      clear hF hS hd hp
      go_simp
     case refine_3 =>
      intro d val a' w' hS hF hd hp
      have e8 : a'.tmps[2]?.getD undef = .slice (some ad5) n4 s5 := hS.arg 2 (by kernel_rfl)
      refine Xa _ rfl rfl ?_ (show FitR _ _ _ _ _ _ _ _ _ _ _ _ _ _ _ from ⟨hF.bel, hF.v0, hF.v1, fun _ => rfl, hF.v3, hF.v4, hF.v5, hF.v6, hF.v7, hF.v8, hF.v9, hF.v10, hF.v11, hF.v12⟩)
      clear hF hS hd hp
      go_simp
     case refine_4 =>
      intro d val a' w' hS hF hd hp
      have e8 : a'.tmps[9]?.getD undef = .int .i64 (k : Int) := hS.arg 9 (by kernel_rfl)
      refine Xa _ rfl rfl ?_ (show FitR _ _ _ _ _ _ _ _ _ _ _ _ _ _ _ from ⟨hF.bel, hF.v0, hF.v1, hF.v2, fun _ => rfl, hF.v4, hF.v5, hF.v6, hF.v7, hF.v8, hF.v9, hF.v10, hF.v11, hF.v12⟩)
      clear hF hS hd hp
      go_simp
     case refine_5 =>
      intro d val a' w' hS hF hd hp
      have e1 := hS.res 2 41 (hp 2 (by kernel_rfl)) rfl (by kernel_rfl)
      have e2 := hS.res 3 42 (hp 3 (by kernel_rfl)) rfl (by kernel_rfl)
      rw [hF.v2 (hp 2 (by kernel_rfl))] at e1
      rw [hF.v3 (hp 3 (by kernel_rfl))] at e2
      refine Xa _ rfl rfl ?_ (show FitR _ _ _ _ _ _ _ _ _ _ _ _ _ _ _ from ⟨hF.bel, hF.v0, hF.v1, hF.v2, hF.v3, fun _ => rfl, hF.v5, hF.v6, hF.v7, hF.v8, hF.v9, hF.v10, hF.v11, hF.v12⟩)
      clear hF hS hd hp
      go_simp
     case refine_6 =>
      intro d val a' w' hS hF hd hp
      have e1 := hS.res 4 43 (hp 4 (by kernel_rfl)) rfl (by kernel_rfl)
      rw [hF.v4 (hp 4 (by kernel_rfl)), eD] at e1
      have p8 := b5.below hF.bel (Nat.lt_of_lt_of_le dG (nt HBB.out HBW.out.size))
      have bM := p8.1
      refine Xa _ rfl rfl ?_ (show FitR _ _ _ _ _ _ _ _ _ _ _ _ _ _ _ from ⟨hF.bel, hF.v0, hF.v1, hF.v2, hF.v3, hF.v4, fun _ => rfl, hF.v6, hF.v7, hF.v8, hF.v9, hF.v10, hF.v11, hF.v12⟩)
      clear hF hS hd hp
      go_simp
     case refine_7 =>
      intro d val a' w' hS hF hd hp
      have e1 := hS.res 0 39 (hp 0 (by kernel_rfl)) rfl (by kernel_rfl)
      have e2 := hS.res 1 40 (hp 1 (by kernel_rfl)) rfl (by kernel_rfl)
      have e3 := hS.res 5 44 (hp 5 (by kernel_rfl)) rfl (by kernel_rfl)
      rw [hF.v0 (hp 0 (by kernel_rfl))] at e1
      rw [hF.v1 (hp 1 (by kernel_rfl))] at e2
      rw [hF.v5 (hp 5 (by kernel_rfl))] at e3
      refine Jjm (Ψ := fun v w'' => FitR wr n1 n2 n3 mt er _ _ _ _ _ _ (upI d 6) (Jf3 val 6 v) w'') _ rfl rfl (args := #[.agg #[.bool (decide (mk.smooth.num < 0)), .int .u64 (lo mk.smooth.num.natAbs : Int), .string (mo mk.smooth.num.natAbs), .int .u64 (lo ((qden mk.smooth)) : Int), .string (mo ((qden mk.smooth))), .slice AW n1 cW, .slice (some ⟨gS, 0, none⟩) n2 n2, .slice (some ⟨gC, 0, none⟩) n3 n3], .slice A' m' c', .int .i64 x]) (w2 := w') (f := 29) ?_ ?_
      ·clear hF hS hd hp
       go_simp
      refine (HTE.out w' hF.bel).mono ?_
      rintro e w2 ⟨v, rfl, hv, l5⟩
      have bN := hF.bel.size
      obtain ⟨c0, c1, c2, c3, c4, c5, c6, c7, rfl, l6, aM⟩ := Jky hv bN
      refine ⟨_, rfl, hF.bel.trans (l5.mono bN), hF.v0, hF.v1, hF.v2, hF.v3, hF.v4, hF.v5, fun _ => ⟨c0, c1, c2, c3, c4, c5, c6, c7, rfl, l6, fun h0 => (aM h0).sub fun g hg => ?_⟩, fun h => absurd ((hF.v7 h).1) (by rw [hd]; decide), fun h => absurd ((hF.v8 h).1) (by rw [hd]; decide), fun h => absurd ((hF.v9 h).1) (by rw [hd]; decide), fun h => ?_, hF.v11, hF.v12⟩
      ·obtain ⟨g', z0, z1, z2, z3, z4, z5, z6, z7, e11, aQ, s9, -⟩ := hF.v10 hg.1
       rw [<- Ji1 (e11.symm.trans hg.2)]
       exact s9.lt
      obtain ⟨g', z0, z1, z2, z3, z4, z5, z6, z7, e11, aQ, s9, bO⟩ := hF.v10 h
      exact ⟨g', z0, z1, z2, z3, z4, z5, z6, z7, e11, aQ, s9.below l5 s9.lt, bO⟩
     case refine_8 =>
      intro d val a' w' hS hF hd hp
      have e1 := hS.res 6 45 (hp 6 (by kernel_rfl)) rfl (by kernel_rfl)
      have h6 := hp 6 (by kernel_rfl)
      refine Xa (v := val 6) _ rfl rfl ?_ (show FitR _ _ _ _ _ _ _ _ _ _ _ _ _ _ _ from ⟨hF.bel, hF.v0, hF.v1, hF.v2, hF.v3, hF.v4, hF.v5, hF.v6, fun _ => ⟨h6, rfl⟩, hF.v8, hF.v9, hF.v10, hF.v11, hF.v12⟩)
      clear hF hS hd hp
      go_simp
     case refine_9 =>
      intro d val a' w' hS hF hd hp
      have e1 := hS.res 7 38 (hp 7 (by kernel_rfl)) rfl (by kernel_rfl)
      obtain ⟨h6, h7⟩ := hF.v7 (hp 7 (by kernel_rfl))
      obtain ⟨c0, c1, c2, c3, c4, c5, c6, c7, e6, -⟩ := hF.v6 h6
      rw [h7, e6] at e1
      refine Xa (v := .agg #[c0, c1, c2, c3, c4, c5, c6, c7]) _ rfl rfl ?_ (show FitR _ _ _ _ _ _ _ _ _ _ _ _ _ _ _ from ⟨hF.bel, hF.v0, hF.v1, hF.v2, hF.v3, hF.v4, hF.v5, hF.v6, hF.v7, fun _ => ⟨h6, fun u y (e : val 6 = _) => by rw [e6] at e; injection e with e; exact (Joh e).1⟩, hF.v9, fun h => (hF.v10 h).imp fun g h => h.imp fun y0 h => h.imp fun y1 h => h.imp fun y2 h => h.imp fun y3 h => h.imp fun y4 h => h.imp fun y5 h => h.imp fun y6 h => h.imp fun y7 h => ⟨h.1, h.2.1, h.2.2.1, fun h' => absurd (h.2.2.2 h').1 (by rw [hd]; decide)⟩, hF.v11, hF.v12⟩)
      clear hF hS hd hp
      go_simp
     case refine_10 =>
      intro d val a' w' hS hF hd hp
      have e1 := hS.res 7 38 (hp 7 (by kernel_rfl)) rfl (by kernel_rfl)
      obtain ⟨h6, h7⟩ := hF.v7 (hp 7 (by kernel_rfl))
      obtain ⟨c0, c1, c2, c3, c4, c5, c6, c7, e6, -⟩ := hF.v6 h6
      rw [h7, e6] at e1
      refine Xa (v := .int .i64 er) _ rfl rfl ?_ (show FitR _ _ _ _ _ _ _ _ _ _ _ _ _ _ _ from ⟨hF.bel, hF.v0, hF.v1, hF.v2, hF.v3, hF.v4, hF.v5, hF.v6, hF.v7, hF.v8, fun _ => ⟨h6, fun u y (e : val 6 = _) => by rw [e6] at e; injection e with e; exact (Joh e).2⟩, hF.v10, hF.v11, fun h => absurd ((hF.v12 h).1) (by rw [hd]; decide)⟩)
      clear hF hS hd hp
      go_simp
     case refine_11 =>
      intro d val a' w' hS hF hd hp
      have bN := hF.bel.size
      refine Xa (v := .pointer (some ⟨w'.heap.size, 0, none⟩)) (w2 := w'.alloc (.cells #[.bool false, .int .u64 0, .string ⟨#[]⟩, .int .u64 0, .string ⟨#[]⟩, .slice none 0 0, .slice none 0 0, .slice none 0 0] 43)) _ rfl rfl ?_ (show FitR _ _ _ _ _ _ _ _ _ _ _ _ _ _ _ from ⟨Ja hF.bel (Jb _ _), hF.v0, hF.v1, hF.v2, hF.v3, hF.v4, hF.v5, fun h => ?_, hF.v7, hF.v8, hF.v9, fun _ => ⟨_, _, _, _, _, _, _, _, _, rfl, bN, Blk.new _ _ _, fun h => absurd (hF.v11 h) (by rw [hd]; decide)⟩, fun _ => rfl, hF.v12⟩)
      ·clear hF hS hd hp
       go_simp
      obtain ⟨c0, c1, c2, c3, c4, c5, c6, c7, e6, l6, aM⟩ := hF.v6 h
      exact ⟨c0, c1, c2, c3, c4, c5, c6, c7, e6, l6, fun h0 => (aM h0).next (Jb _ _) fun g hg => .inr (by rw [<- Ji1 (show Value.pointer (some ⟨w'.heap.size, 0, none⟩) = .pointer (some ⟨g, 0, none⟩) from hg.2)]; exact Nat.le_refl _)⟩
     case refine_12 =>
      intro d val a' w' hS hF hd hp
      obtain ⟨h6, h8⟩ := hF.v8 (hp 8 (by kernel_rfl))
      have aN := hp 10 (by kernel_rfl)
      obtain ⟨g', z0, z1, z2, z3, z4, z5, z6, z7, e11, aQ, s9, -⟩ := hF.v10 aN
      obtain ⟨c0, c1, c2, c3, c4, c5, c6, c7, e6, l6, aM⟩ := hF.v6 h6
      have e8 := h8 _ _ e6
      exact Jde _ rfl rfl _ _ _ rfl rfl g' #[c0, c1, c2, c3, c4, c5, c6, c7] _ ((hS.got 10 11 aN rfl (Nat.le_of_ble_eq_true (by kernel_rfl))).trans e11) ((hS.got 8 46 (hp 8 (by kernel_rfl)) rfl (Nat.le_of_ble_eq_true (by kernel_rfl))).trans e8) _ s9 (by kernel_rfl) rfl l6 fun w2 l5 dI => show FitR _ _ _ _ _ _ _ _ _ _ _ _ _ _ _ from ⟨hF.bel.trans (dI.below hF.bel.size aQ), hF.v0, hF.v1, hF.v2, hF.v3, hF.v4, hF.v5, fun h => ⟨c0, c1, c2, c3, c4, c5, c6, c7, e6, l6, fun h0 => (aM h0).exc dI ⟨aN, e11⟩⟩, hF.v7, hF.v8, hF.v9, fun _ => ⟨g', _, _, _, _, _, _, _, _, e11, aQ, l5, fun _ => ⟨hp 8 (by kernel_rfl), e8⟩⟩, fun _ => aN, hF.v12⟩
     case refine_13 =>
      intro d val a' w' hS hF hd hp
      have e1 := hS.res 9 47 (hp 9 (by kernel_rfl)) rfl (by kernel_rfl)
      have h9 := hp 9 (by kernel_rfl)
      refine Xa (v := val 9) _ rfl rfl ?_ (show FitR _ _ _ _ _ _ _ _ _ _ _ _ _ _ _ from ⟨hF.bel, hF.v0, hF.v1, hF.v2, hF.v3, hF.v4, hF.v5, hF.v6, hF.v7, hF.v8, hF.v9, hF.v10, hF.v11, fun _ => ⟨h9, rfl⟩⟩)
      clear hF hS hd hp
      go_simp
    intro d val w' hF hd
    simp only [Exit.then, Jd7, Act.put, List.setIfInBounds_toArray, List.set_cons_succ, List.set_cons_zero]
    refine ‹∀ a' w', Met _ a' w' -> _› _ _ ?_
    go_meet
    have k6 := hd 6 (by decide)
    obtain ⟨c0, c1, c2, c3, c4, c5, c6, c7, e6, l6, aM⟩ := hF.v6 k6
    have e9 := (hF.v9 (hd 9 (by decide))).2 _ _ e6
    obtain ⟨g', z0, z1, z2, z3, z4, z5, z6, z7, e11, aQ, s9, eH⟩ := hF.v10 (hd 10 (by decide))
    refine ⟨(hF.v12 (hd 12 (by decide))).2.trans e9, hF.bel, fun h0 => ?_⟩
    obtain ⟨AW1, cW1, gS1, gC1, F1, G1, H1, e0, aO, -⟩ := aM h0
    have e8 := ((eH (hd 11 (by decide))).2.symm.trans ((hF.v8 (hd 8 (by decide))).2 _ _ e6)).trans e0
    injection e8 with e8
    rw [e8] at s9
    exact ⟨g', AW1, cW1, gS1, gC1, F1, G1, H1, e11, rfl, s9, aO, hF.bel⟩
   case rest =>
    obtain ⟨rfl, j7, cA⟩ := hcut
    rename World => wc
    by_cases cB : er = 0
    ·subst cB
     obtain ⟨cC, dJ⟩ := aX rfl
     rw [if_neg (by simp)] at aK
     have HF2 := lh (aP.out.trans aK)
     have HCQ := lh (And.intro cC (show QS 1099511627776 mt.smooth by rw [dJ]; exact q8))
     obtain ⟨g11, AW1, cW1, gS1, gC1, F1, G1, H1, rfl, -, b11, aO, -⟩ := cA rfl
     clear aK aX aP cC dJ t8 q8 cA
     obtain ⟨y0, y1, y2, y3, y4, y5, y6, y7⟩ := b11.c8
     have B8 := lh (HB8.out.below j7 dH)
     have BR := lh (HBR.out.1.below j7 HBR.out.2)
     have HX := lh (show ¬ F1 g8 /\ ¬ G1 g8 /\ ¬ H1 g8 from ⟨fun e => by have := aO.from1 _ e; omega, fun e => by have := aO.from2 _ e; omega, fun e => by have := aO.from3 _ e; omega⟩)
     have HO1 := lh (aO.low (show L <= wr.heap.size from eG))
     have HB1 := lh (HBW.out.trans (j7.mono HBW.out.size))
     clear b11 aO j7 HBR HB8 HBW HTE b8 b5 aV
     go_wp2_with (refine Jr rfl _ (.tmp 8) (.tmp 52) rfl g8 #[.bool (decide (mt.smooth.num < 0)), .int .u64 (lo mt.smooth.num.natAbs : Int), .string (mo mt.smooth.num.natAbs), .int .u64 (lo ((qden mt.smooth)) : Int), .string (mo ((qden mt.smooth))), .slice AW1 n1 cW1, .slice (some ⟨gS1, 0, none⟩) n2 n2, .slice (some ⟨gC1, 0, none⟩) n3 n3] _ rfl rfl _ B8.out (by kernel_rfl) rfl (by simp [Value.oneCell']) ?_; intro w7 j0 j6; have HX7 := lh j6; have HB7 := lh j0; clear j6 j0 y0 y1 y2 y3 y4 y5 y6 y7)
     exact ⟨⟨k + 1, mt, by omega, by go_num, HF2, HCQ.out.1, HCQ.out.2, AW1, cW1, gS1, gC1, F1, G1, H1, HB7.out, HO1.out.exc HX7.out HX.out.1 HX.out.2.1 HX.out.2.2, HX.out, BR.out.exc HX7.out (by omega), HB1.out.trans (HX7.out.below HB1.out.size bW)⟩, by simp [intOf]; omega⟩
    rw [if_pos cB] at aK
    have HF2 := lh (aP.out.trans aK)
    clear aK aX aP t8 q8 cA
    have q1 : (er != 0) = true := by simp; omega
    have q2 : (er == 0) = false := by simp; omega
    have BR := lh (HBR.out.1.below j7 HBR.out.2)
    have HB1 := lh (HBW.out.trans (j7.mono HBW.out.size))
    clear j7 HBR HB8 HBW HTE b8 b5 aV
    go_wp2_with (refine Jr rfl _ (.tmp 6) (.tmp 50) rfl gR #[.bool false, .int .u64 0, .string ⟨#[]⟩, .int .u64 0, .string ⟨#[]⟩, .slice none 0 0, .slice none 0 0, .slice none 0 0] _ rfl rfl _ BR.out (by kernel_rfl) rfl (by simp [Value.oneCell']) ?_; intro w7 j0 j6; have HX7 := lh j6; have HB7 := lh j0; clear j6 j0)
    obtain ⟨p0, p1, p2, p3, p4, p5, p6, p7⟩ := HB7.out.c8
    refine bodyPost_ret (v := .tuple #[.agg #[.bool false, .int .u64 0, .string ⟨#[]⟩, .int .u64 0, .string ⟨#[]⟩, .slice none 0 0, .slice none 0 0, .slice none 0 0], .int .i64 er]) (by simp [results, Tryz.results34, go_sem, p0, p1, p2, p3, p4, p5, p6, p7]) rfl ?_
    rw [HF2.out]
    exact ⟨_, rfl, .inr ⟨cB, rfl⟩, HB1.out.trans (HX7.out.below HB1.out.size o9)⟩
  as_aux_lemma =>
  obtain rfl : k = n4 := by omega
  have k1 : ¬ (k : Int) < (k : Int) := by omega
  obtain ⟨AW, cW, gS, gC, F, G, H9, b8, ho, bX, bR, x8⟩ := dE
  have aY : (rows.zip ls).drop k = [] := List.drop_eq_nil_of_le (by rw [List.length_zip]; have := HW.out; omega)
  have cD := aP.out
  rw [aY] at cD
  have HF2 : Hid (Jby m (rows.zip ls) = (mk, 0)) := lh cD
  have HX : Hid (¬ F gR /\ ¬ G gR /\ ¬ H9 gR) := lh ⟨fun e => by have := ho.from1 _ e; have := HL1.out; omega, fun e => by have := ho.from2 _ e; have := HL1.out; omega, fun e => by have := ho.from3 _ e; have := HL1.out; omega⟩
  have HO := lh (ho.low HL1.out.2)
  have BR := lh bR
  have HBW := lh x8
  obtain ⟨y0, y1, y2, y3, y4, y5, y6, y7⟩ := b8.c8
  clear ho bR x8 aY cD aP t8 q8 bX b8
  go_wp2_with (refine Jr rfl _ (.tmp 6) (.tmp 54) rfl gR #[.bool (decide (mk.smooth.num < 0)), .int .u64 (lo mk.smooth.num.natAbs : Int), .string (mo mk.smooth.num.natAbs), .int .u64 (lo ((qden mk.smooth)) : Int), .string (mo ((qden mk.smooth))), .slice AW n1 cW, .slice (some ⟨gS, 0, none⟩) n2 n2, .slice (some ⟨gC, 0, none⟩) n3 n3] _ rfl rfl _ BR.out (by kernel_rfl) rfl (by simp [Value.oneCell']) ?_; intro w7 j0 j6; have HX7 := lh j6; have HB7 := lh j0; clear j6 j0 y0 y1 y2 y3 y4 y5 y6 y7)
  obtain ⟨p0, p1, p2, p3, p4, p5, p6, p7⟩ := HB7.out.c8
  refine bodyPost_ret (v := .tuple #[.agg #[.bool (decide (mk.smooth.num < 0)), .int .u64 (lo mk.smooth.num.natAbs : Int), .string (mo mk.smooth.num.natAbs), .int .u64 (lo ((qden mk.smooth)) : Int), .string (mo ((qden mk.smooth))), .slice AW n1 cW, .slice (some ⟨gS, 0, none⟩) n2 n2, .slice (some ⟨gC, 0, none⟩) n3 n3], .int .i64 0]) (by simp [results, Tryz.results34, go_sem, p0, p1, p2, p3, p4, p5, p6, p7]) rfl ?_
  rw [HF2.out]
  exact ⟨_, rfl, .inl ⟨rfl, _, rfl, AW, cW, gS, gC, F, G, H9, rfl, HO.out.exc HX7.out HX.out.1 HX.out.2.1 HX.out.2.2⟩, HBW.out.trans (HX7.out.below HBW.out.size o9)⟩
theorem Jkf (a b : Rat) : Jc2 a b = 0 ↔ a = b := by
 unfold Jc2
 by_cases h1 : a < b
 ·rw [if_pos h1]
  constructor
  ·intro h; omega
  rintro rfl; exact absurd h1 Rat.lt_irrefl
 rw [if_neg h1]
 by_cases h2 : b < a
 ·rw [if_pos h2]
  constructor
  ·intro h; omega
  rintro rfl; exact absurd h2 Rat.lt_irrefl
 rw [if_neg h2]
 exact ⟨fun _ => Rat.le_antisymm (Rat.not_lt.1 h2) (Rat.not_lt.1 h1), fun _ => rfl⟩
theorem Jns {l l' : List Int} {n : Nat} (h1 : l.length = n) (h2 : l'.length = n) (h : ∀ j, j < n -> l[j]? = l'[j]?) : decide (l = l') = true := by
 refine decide_eq_true (List.ext_getElem? fun j => ?_)
 rcases Nat.lt_or_ge j n with h3 | h3
 ·exact h j h3
 rw [List.getElem?_eq_none (by omega), List.getElem?_eq_none (by omega)]
theorem Jni {l l' : List Int} {k : Nat} {x y : Int} (hx : l[k]? = some x) (hy : l'[k]? = some y) (h : x ≠ y) : decide (l = l') = false := by
 refine decide_eq_false fun e => h ?_
 subst e
 exact Option.some.inj (hx.symm.trans hy)
theorem Jhr (A A' : Option Addr) (n c n' c' : Nat) (l l' : List Int) (B B' : Nat) (w : World) (h : ReadsI w B A n l) (h' : ReadsI w B' A' n' l') (hn : n <= 9223372036854775807) (eX : n' <= 9223372036854775807) :
  Calls Tryz.prog 90 #[.slice A n c, .slice A' n' c'] w fun e w' => e = .returned (.bool (decide (l = l'))) /\ ∃ k, w' = w.drewN k := by
 have hl : l.length = n := h.len
 have bP : l'.length = n' := h'.len
 obtain ⟨R, hR⟩ : ∃ R, decide (l = l') = R := ⟨_, rfl⟩
 rw [hR]
 have HR := lh hR
 clear hR
 by_cases aZ : n = n'
 case neg =>
  obtain rfl : R = false := by rw [<- HR.out]; exact decide_eq_false fun e => aZ (by rw [<- hl, <- bP, e])
  have q0 : ¬ ((n : Int) = (n' : Int)) := by omega
  have q1 : ((n : Int) != (n' : Int)) = true := by simp; omega
  have q2 : ((n : Int) == (n' : Int)) = false := by simp; omega
  clear hl bP HR
  go_enter Tryz.func90, Tryz.ntmps90
  go_wp2
  go_ret
  exact ⟨rfl, 0, rfl⟩
 subst aZ
 have HL := lh (And.intro hl bP)
 clear hl bP
 have q1 : ((n : Int) != (n : Int)) = false := by simp
 have q2 : ((n : Int) == (n : Int)) = true := by simp
 go_enter Tryz.func90, Tryz.ntmps90
 go_wp2
 go_loopw [13] (fun i wr => ∃ k : Nat, k <= n /\ i = .int .i64 k /\ Hid (∀ j, j < k -> l[j]? = l'[j]?) /\ ∃ d, wr = w.drewN d) (fun i _ => n - (intOf i).toNat)
 case atStart => exact ⟨0, Nat.zero_le _, rfl, lh fun j hj => absurd hj (Nat.not_lt_zero j), 0, rfl⟩
 case round =>
  obtain ⟨k, hk, rfl, HE, d, rfl⟩ := hrel
  by_cases aJ : k < n
  ·obtain ⟨ad, x, hA, hb, hx, hc⟩ := h.at_ aJ
   obtain ⟨ad', y, eI, eY, hy, cE⟩ := h'.at_ aJ
   have HX := lh (And.intro hx hy)
   clear hx hy
   subst hA eI
   have eJ : (k : Int) < (n : Int) := by omega
   by_cases dK : x = y
   ·subst dK
    have q3 : (x != x) = false := by simp
    have q4 : (x == x) = true := by simp
    have HE2 : Hid (∀ j, j < k + 1 -> l[j]? = l'[j]?) := lh fun j hj => by
     rcases Nat.lt_or_eq_of_le (Nat.lt_succ_iff.1 hj) with h1 | h1
     ·exact HE.out j h1
     rw [h1, HX.out.1, HX.out.2]
    clear HE HX
    go_wp2
    go_quiet (fail)
    go_wp2
    exact ⟨⟨k + 1, by omega, by go_num, HE2, _, rfl⟩, by simp [intOf]; omega⟩
   obtain rfl : R = false := by rw [<- HR.out]; exact Jni HX.out.1 HX.out.2 dK
   have q3 : (x != y) = true := by simp; omega
   have q4 : (x == y) = false := by simp; omega
   clear HE HX HR
   go_wp2
   go_quiet (fail)
   go_wp2
   go_ret
   exact ⟨rfl, _, World.drewN_drewN _ _ _⟩
  obtain rfl : k = n := by omega
  obtain rfl : R = true := by rw [<- HR.out]; exact Jns HL.out.1 HL.out.2 HE.out
  clear HE HR HL
  go_wp2
  go_ret
  exact ⟨rfl, d, rfl⟩
theorem Jir (x y : Int) (w : World) (hx : 0 <= x /\ x <= 1073741824) (hy : 0 <= y /\ y <= 1073741824) : Calls Tryz.prog 91 #[.int .i64 x, .int .i64 y] w (Ret (.int .i64 (x + y)) w) := by
 have q1 := Jfv (x := x + y) (by omega) (by omega)
 go_enter Tryz.func91, Tryz.ntmps91
 go_wp2
 go_ret
 exact ⟨rfl, Below.refl _ _⟩
theorem Jig (args : Array Value) (w : World) : (callFunc 91 args).run Tryz.prog w = .ok (.enter 91 args) w := by
 go_simp
theorem Jh3 {a b : BM} (ha : Jk a = 0) (hb : Jk b = 0) (hw : a.words = b.words) (hs : a.seen.length = b.seen.length) : LikeB (fun x => 0 <= x /\ x <= 1073741824) a b := by
 have hA := Qy ha
 have hB := Qy hb
 refine ⟨hA.cols.1, hs, by rw [hA.tabs, hB.tabs, hs], fun i t t' h1 h2 => ?_, ⟨hA.seen, fun t ht y9 hc => (hA.nums t ht y9 hc).1⟩, ⟨hB.seen, fun t ht y9 hc => (hB.nums t ht y9 hc).1⟩⟩
 obtain ⟨f1, f2⟩ := hA.fits t (List.mem_of_getElem? h1)
 obtain ⟨g1, g2⟩ := hB.fits t' (List.mem_of_getElem? h2)
 refine ⟨by rw [f1, g1, hw], fun j x x' h3 h4 => ?_⟩
 have hj := (List.getElem?_eq_some_iff.1 h3).1
 have e1 := f2 j x (a.words[j]'(by omega)) h3 (List.getElem?_eq_getElem _)
 have e2 := g2 j x' (b.words[j]'(by rw [<- hw]; omega)) h4 (List.getElem?_eq_getElem _)
 have e3 : a.words[j]'(by omega) = b.words[j]'(by rw [<- hw]; omega) := by simp only [hw]
 omega
theorem Jhv {l l' : List Int} {k : Nat} {x y : Int} (hx : l[k]? = some x) (hy : l'[k]? = some y) (h : 1073741824 < x + y) : (l.zip l').any (fun p => decide (1073741824 < p.1 + p.2)) = true := by
 rw [List.any_eq_true]
 refine ⟨(x, y), List.mem_of_getElem? (i := k) ?_, decide_eq_true h⟩
 rw [List.getElem?_zip_eq_some]
 exact ⟨hx, hy⟩
theorem Jgk {l l' : List Int} {n : Nat} (h1 : l.length = n) (h : ∀ j x y, j < n -> l[j]? = some x -> l'[j]? = some y -> x + y <= 1073741824) : (l.zip l').any (fun p => decide (1073741824 < p.1 + p.2)) = false := by
 rw [List.any_eq_false]
 intro p hp
 obtain ⟨i, hi⟩ := List.getElem?_of_mem hp
 rw [List.getElem?_zip_eq_some] at hi
 have := h i p.1 p.2 (by have := (List.getElem?_eq_some_iff.1 hi.1).1; omega) hi.1 hi.2
 simp
 omega
theorem Jiu (X1 X2 X3 : Option Addr) (n1 s1 n2 s2 n3 s3 : Nat) (Y1 Y2 Y3 : Option Addr) (m1 t1 m2 t2 m3 t3 B : Nat) (a b : BM) (w : World) (h : RdB w B ⟨X1, n1, s1⟩ ⟨X2, n2, s2⟩ ⟨X3, n3, s3⟩ a) (h' : RdB w B ⟨Y1, m1, t1⟩ ⟨Y2, m2, t2⟩ ⟨Y3, m3, t3⟩ b) (hB : B <= w.heap.size) (hL : LenB a) (cF : LenB b) (hs : QS 549755813888 a.smooth) (bQ : QS 549755813888 b.smooth) :
  Calls Tryz.prog 45 #[.agg #[.bool (decide (a.smooth.num < 0)), .int .u64 (lo a.smooth.num.natAbs : Int), .string (mo a.smooth.num.natAbs), .int .u64 (lo ((qden a.smooth)) : Int), .string (mo ((qden a.smooth))), .slice X1 n1 s1, .slice X2 n2 s2, .slice X3 n3 s3], .agg #[.bool (decide (b.smooth.num < 0)), .int .u64 (lo b.smooth.num.natAbs : Int), .string (mo b.smooth.num.natAbs), .int .u64 (lo ((qden b.smooth)) : Int), .string (mo ((qden b.smooth))), .slice Y1 m1 t1, .slice Y2 m2 t2, .slice Y3 m3 t3]] w fun e w' => ∃ v, e = .returned v /\ Jhk w.heap.size n1 n2 n3 (Jcv a b) v w' /\ Below w.heap.size w w' := by
 have aR : a.words.length = n1 := h.words.len
 have aS : a.seen.length = n2 := h.seen.len
 have dL : b.words.length = m1 := h'.words.len
 have dM : b.seen.length = m2 := h'.seen.len
 obtain ⟨R, hR⟩ : ∃ R, Jcv a b = R := ⟨_, rfl⟩
 rw [hR]
 have HR := lh hR
 clear hR
 obtain ⟨b0, b1, b2, hB, hZ⟩ := bx3 w 43 #[.bool (decide (a.smooth.num < 0)), .int .u64 (lo a.smooth.num.natAbs : Int), .string (mo a.smooth.num.natAbs), .int .u64 (lo (qden a.smooth) : Int), .string (mo (qden a.smooth)), .slice X1 n1 s1, .slice X2 n2 s2, .slice X3 n3 s3] 43 #[.bool (decide (b.smooth.num < 0)), .int .u64 (lo b.smooth.num.natAbs : Int), .string (mo b.smooth.num.natAbs), .int .u64 (lo (qden b.smooth) : Int), .string (mo (qden b.smooth)), .slice Y1 m1 t1, .slice Y2 m2 t2, .slice Y3 m3 t3] 43 #[.bool false, .int .u64 0, .string ⟨#[]⟩, .int .u64 0, .string ⟨#[]⟩, .slice none 0 0, .slice none 0 0, .slice none 0 0]
 go_enter Tryz.func45, Tryz.ntmps45
 go_upto_region 1 with fail
 generalize (((w.alloc (.cells #[.bool (decide (a.smooth.num < 0)), .int .u64 (lo a.smooth.num.natAbs : Int), .string (mo a.smooth.num.natAbs), .int .u64 (lo (qden a.smooth) : Int), .string (mo (qden a.smooth)), .slice X1 n1 s1, .slice X2 n2 s2, .slice X3 n3 s3] 43)).alloc (.cells #[.bool (decide (b.smooth.num < 0)), .int .u64 (lo b.smooth.num.natAbs : Int), .string (mo b.smooth.num.natAbs), .int .u64 (lo (qden b.smooth) : Int), .string (mo (qden b.smooth)), .slice Y1 m1 t1, .slice Y2 m2 t2, .slice Y3 m3 t3] 43)).alloc (.cells #[.bool false, .int .u64 0, .string ⟨#[]⟩, .int .u64 0, .string ⟨#[]⟩, .slice none 0 0, .slice none 0 0, .slice none 0 0] 43)) = W at *
 rename B <= w.heap.size => hBB
 have HCK := lh (fun w' (hb : Below w.heap.size w w') => Zm X1 X2 X3 n1 s1 n2 s2 n3 s3 B a w' (h.below (hb.mono hBB)) (nt hBB hb.size) hL (hs.mono (by omega)))
 have HCK' := lh (fun w' (hb : Below w.heap.size w w') => Zm Y1 Y2 Y3 m1 t1 m2 t2 m3 t3 B b w' (h'.below (hb.mono hBB)) (nt hBB hb.size) cF (bQ.mono (by omega)))
 have cG := fun w' => Jg3 a.smooth b.smooth w' hs bQ
 have dN := Jkf a.smooth b.smooth
 generalize Jc2 a.smooth b.smooth = cv at *
 unfold qV at cG
 have HCM := lh cG
 have HCZ := lh dN
 have H := lh h
 have H' := lh h'
 have HLS := lh (And.intro hL (And.intro cF (And.intro hs bQ)))
 have HW := lh (And.intro aR (And.intro aS (And.intro dL dM)))
 have HBW := lh hB
 have HBB := lh hBB
 have HZ := lh hZ.out
 obtain ⟨r, hr⟩ : ∃ r, Jk a = r := ⟨_, rfl⟩
 rw [hr] at HCK
 have HRC := lh hr
 obtain ⟨r', cH⟩ : ∃ r', Jk b = r' := ⟨_, rfl⟩
 rw [cH] at HCK'
 have HRC' := lh cH
 obtain ⟨x0, x1, x2, x3, x4, x5, x6, x7⟩ := b0.c8
 obtain ⟨y0, y1, y2, y3, y4, y5, y6, y7⟩ := b1.c8
 clear h h' hL cF hs bQ aR aS dL dM hB hZ hBB hr cH cG dN
 go_wp2_with fail
 refine (HCK.out _ HBW.out).mono ?_
 rintro e w1 ⟨rfl, j7⟩
 have b0 := b0.below j7 b0.lt
 have b1 := b1.below j7 b1.lt
 have b2 := b2.below j7 b2.lt
 have HB1 := lh (HBW.out.trans (j7.mono HBW.out.size))
 clear x0 x1 x2 x3 x4 x5 x6 x7 y0 y1 y2 y3 y4 y5 y6 y7 j7 HBW HCK
 have o9 := show w.heap.size <= w.heap.size + 1 + 1 by omega
 generalize aT : w.heap.size + 1 + 1 = gR at *
 generalize dO : w.heap.size + 1 = gQ at *
 obtain ⟨x0, x1, x2, x3, x4, x5, x6, x7⟩ := b0.c8
 obtain ⟨y0, y1, y2, y3, y4, y5, y6, y7⟩ := b1.c8
 have HG := lh (And.intro aT dO)
 clear aT dO
 have HBA := lh b0
 have HBB2 := lh b1
 have HB2 := lh b2
 clear b0 b1 b2
 by_cases aU : r = 0
 case neg =>
  obtain rfl : R = (BM.none, 1) := by rw [<- HR.out]; unfold Jcv; rw [if_pos (.inl (by rw [HRC.out]; exact aU))]
  have q1 : (r != 0) = true := by simp; omega
  have q2 : (r == 0) = false := by simp; omega
  go_wp2_with (refine Jr rfl _ (.tmp 4) (.tmp 15) rfl gR #[.bool false, .int .u64 0, .string ⟨#[]⟩, .int .u64 0, .string ⟨#[]⟩, .slice none 0 0, .slice none 0 0, .slice none 0 0] _ rfl rfl _ HB2.out (by kernel_rfl) rfl (by simp [Value.oneCell']) ?_; intro w7 j0 j6; have HX7 := lh j6; have HB7 := lh j0; clear j6 j0 x0 x1 x2 x3 x4 x5 x6 x7 y0 y1 y2 y3 y4 y5 y6 y7)
  obtain ⟨p0, p1, p2, p3, p4, p5, p6, p7⟩ := HB7.out.c8
  refine bodyPost_ret (v := .tuple #[.agg #[.bool false, .int .u64 0, .string ⟨#[]⟩, .int .u64 0, .string ⟨#[]⟩, .slice none 0 0, .slice none 0 0, .slice none 0 0], .int .i64 1]) (by simp [results, Tryz.results45, go_sem, p0, p1, p2, p3, p4, p5, p6, p7]) rfl ?_
  exact ⟨_, rfl, .inr ⟨by simp, rfl⟩, HB1.out.trans (HX7.out.below HB1.out.size o9)⟩
 subst aU
 have q1 : ((0 : Int) != 0) = false := by simp
 go_wp2_with fail
 refine (HCK'.out _ HB1.out).mono ?_
 rintro e w2 ⟨rfl, l5⟩
 have b0 := HBA.out.below l5 HBA.out.lt
 have b1 := HBB2.out.below l5 HBB2.out.lt
 have b2 := HB2.out.below l5 HB2.out.lt
 have HBX := lh (HB1.out.trans (l5.mono HB1.out.size))
 clear x0 x1 x2 x3 x4 x5 x6 x7 y0 y1 y2 y3 y4 y5 y6 y7 l5 HBA HBB2 HB2 HCK' HB1
 obtain ⟨x0, x1, x2, x3, x4, x5, x6, x7⟩ := b0.c8
 obtain ⟨y0, y1, y2, y3, y4, y5, y6, y7⟩ := b1.c8
 have HBA := lh b0
 have HBB2 := lh b1
 have HB2 := lh b2
 clear b0 b1 b2
 by_cases bA : r' = 0
 case neg =>
  obtain rfl : R = (BM.none, 1) := by rw [<- HR.out]; unfold Jcv; rw [if_pos (.inr (by rw [HRC'.out]; exact bA))]
  have q1 : (r' != 0) = true := by simp; omega
  have q2 : (r' == 0) = false := by simp; omega
  go_wp2_with (refine Jr rfl _ (.tmp 4) (.tmp 15) rfl gR #[.bool false, .int .u64 0, .string ⟨#[]⟩, .int .u64 0, .string ⟨#[]⟩, .slice none 0 0, .slice none 0 0, .slice none 0 0] _ rfl rfl _ HB2.out (by kernel_rfl) rfl (by simp [Value.oneCell']) ?_; intro w7 j0 j6; have HX7 := lh j6; have HB7 := lh j0; clear j6 j0 x0 x1 x2 x3 x4 x5 x6 x7 y0 y1 y2 y3 y4 y5 y6 y7)
  obtain ⟨p0, p1, p2, p3, p4, p5, p6, p7⟩ := HB7.out.c8
  refine bodyPost_ret (v := .tuple #[.agg #[.bool false, .int .u64 0, .string ⟨#[]⟩, .int .u64 0, .string ⟨#[]⟩, .slice none 0 0, .slice none 0 0, .slice none 0 0], .int .i64 1]) (by simp [results, Tryz.results45, go_sem, p0, p1, p2, p3, p4, p5, p6, p7]) rfl ?_
  exact ⟨_, rfl, .inr ⟨by simp, rfl⟩, HBX.out.trans (HX7.out.below HBX.out.size o9)⟩
 subst bA
 obtain ⟨R2, cI⟩ : ∃ R2, (if a.smooth ≠ b.smooth \/ a.words ≠ b.words \/ a.seen.length ≠ b.seen.length then (BM.none, (10 : Int)) else if (a.seen.zip b.seen).any (fun p => decide (1073741824 < p.1 + p.2)) then (BM.none, 18) else (Ja1 a b, 0)) = R2 := ⟨_, rfl⟩
 obtain rfl : R = R2 := by rw [<- HR.out, <- cI]; unfold Jcv; rw [if_neg (by rw [HRC.out, HRC'.out]; simp)]
 have HR3 := lh cI
 clear cI HR
 go_wp2_with fail
 refine (HCM.out _).mono ?_
 rintro e w3 ⟨rfl, p9⟩
 have b0 := HBA.out.below p9 HBA.out.lt
 have b1 := HBB2.out.below p9 HBB2.out.lt
 have b2 := HB2.out.below p9 HB2.out.lt
 have HB3 := lh (HBX.out.trans (p9.mono HBX.out.size))
 clear x0 x1 x2 x3 x4 x5 x6 x7 y0 y1 y2 y3 y4 y5 y6 y7 p9 HBA HBB2 HB2 HCM HBX
 obtain ⟨x0, x1, x2, x3, x4, x5, x6, x7⟩ := b0.c8
 obtain ⟨y0, y1, y2, y3, y4, y5, y6, y7⟩ := b1.c8
 have HBA := lh b0
 have HBB2 := lh b1
 have HB2 := lh b2
 clear b0 b1 b2
 by_cases dP : cv = 0
 case neg =>
  obtain rfl : R = (BM.none, 10) := by rw [<- HR3.out, if_pos (.inl fun e => dP (HCZ.out.2 e))]
  have q3 : (cv != 0) = true := by simp; omega
  have q2 : (cv == 0) = false := by simp; omega
  go_wp2_with (refine Jr rfl _ (.tmp 4) (.tmp 39) rfl gR #[.bool false, .int .u64 0, .string ⟨#[]⟩, .int .u64 0, .string ⟨#[]⟩, .slice none 0 0, .slice none 0 0, .slice none 0 0] _ rfl rfl _ HB2.out (by kernel_rfl) rfl (by simp [Value.oneCell']) ?_; intro w7 j0 j6; have HX7 := lh j6; have HB7 := lh j0; clear j6 j0 x0 x1 x2 x3 x4 x5 x6 x7 y0 y1 y2 y3 y4 y5 y6 y7)
  obtain ⟨p0, p1, p2, p3, p4, p5, p6, p7⟩ := HB7.out.c8
  refine bodyPost_ret (v := .tuple #[.agg #[.bool false, .int .u64 0, .string ⟨#[]⟩, .int .u64 0, .string ⟨#[]⟩, .slice none 0 0, .slice none 0 0, .slice none 0 0], .int .i64 10]) (by simp [results, Tryz.results45, go_sem, p0, p1, p2, p3, p4, p5, p6, p7]) rfl ?_
  exact ⟨_, rfl, .inr ⟨by simp, rfl⟩, HB3.out.trans (HX7.out.below HB3.out.size o9)⟩
 subst dP
 have dQ := HCZ.out.1 rfl
 have hM := HB3.out.mono HBB.out
 have dR := Jhr X1 Y1 n1 s1 m1 t1 a.words b.words B B w3 (rkindI.below H.out.words hM) (rkindI.below H'.out.words hM) (by have := HLS.out.1.words; have := HW.out.1; omega) (by have := HLS.out.2.1.words; have := HW.out.2.2.1; omega)
 have HEQ := lh dR
 have HSM := lh dQ
 clear dR hM dQ
 obtain ⟨tw, cJ⟩ : ∃ tw, decide (a.words = b.words) = tw := ⟨_, rfl⟩
 rw [cJ] at HEQ
 have HTW := lh cJ
 clear cJ
 go_wp2_with fail
 refine HEQ.out.mono ?_
 rintro e w4 ⟨rfl, d4, rfl⟩
 have o0 := Jw (Below.refl w3.heap.size w3) d4
 have b0 := HBA.out.below o0 HBA.out.lt
 have b1 := HBB2.out.below o0 HBB2.out.lt
 have b2 := HB2.out.below o0 HB2.out.lt
 have HB4 := lh (HB3.out.trans (o0.mono HB3.out.size))
 clear x0 x1 x2 x3 x4 x5 x6 x7 y0 y1 y2 y3 y4 y5 y6 y7 o0 HBA HBB2 HB2 HEQ HB3
 generalize w3.drewN d4 = w4 at *
 obtain ⟨x0, x1, x2, x3, x4, x5, x6, x7⟩ := b0.c8
 obtain ⟨y0, y1, y2, y3, y4, y5, y6, y7⟩ := b1.c8
 have HBA := lh b0
 have HBB2 := lh b1
 have HB2 := lh b2
 clear b0 b1 b2
 cases tw
 case false =>
  obtain rfl : R = (BM.none, 10) := by rw [<- HR3.out, if_pos (.inr (.inl (of_decide_eq_false HTW.out)))]
  go_wp2_with (refine Jr rfl _ (.tmp 4) (.tmp 39) rfl gR #[.bool false, .int .u64 0, .string ⟨#[]⟩, .int .u64 0, .string ⟨#[]⟩, .slice none 0 0, .slice none 0 0, .slice none 0 0] _ rfl rfl _ HB2.out (by kernel_rfl) rfl (by simp [Value.oneCell']) ?_; intro w7 j0 j6; have HX7 := lh j6; have HB7 := lh j0; clear j6 j0 x0 x1 x2 x3 x4 x5 x6 x7 y0 y1 y2 y3 y4 y5 y6 y7)
  obtain ⟨p0, p1, p2, p3, p4, p5, p6, p7⟩ := HB7.out.c8
  refine bodyPost_ret (v := .tuple #[.agg #[.bool false, .int .u64 0, .string ⟨#[]⟩, .int .u64 0, .string ⟨#[]⟩, .slice none 0 0, .slice none 0 0, .slice none 0 0], .int .i64 10]) (by simp [results, Tryz.results45, go_sem, p0, p1, p2, p3, p4, p5, p6, p7]) rfl ?_
  exact ⟨_, rfl, .inr ⟨by simp, rfl⟩, HB4.out.trans (HX7.out.below HB4.out.size o9)⟩
 have bB := of_decide_eq_true HTW.out
 by_cases aZ : n2 = m2
 case neg =>
  obtain rfl : R = (BM.none, 10) := by rw [<- HR3.out, if_pos (.inr (.inr (by have := HW.out; omega)))]
  have k1 : ¬ (n2 : Int) = (m2 : Int) := by omega
  have k2 : ((n2 : Int) != (m2 : Int)) = true := by simp; omega
  have k3 : ((n2 : Int) == (m2 : Int)) = false := by simp; omega
  clear bB aZ
  go_wp2_with (refine Jr rfl _ (.tmp 4) (.tmp 39) rfl gR #[.bool false, .int .u64 0, .string ⟨#[]⟩, .int .u64 0, .string ⟨#[]⟩, .slice none 0 0, .slice none 0 0, .slice none 0 0] _ rfl rfl _ HB2.out (by kernel_rfl) rfl (by simp [Value.oneCell']) ?_; intro w7 j0 j6; have HX7 := lh j6; have HB7 := lh j0; clear j6 j0 x0 x1 x2 x3 x4 x5 x6 x7 y0 y1 y2 y3 y4 y5 y6 y7)
  obtain ⟨p0, p1, p2, p3, p4, p5, p6, p7⟩ := HB7.out.c8
  refine bodyPost_ret (v := .tuple #[.agg #[.bool false, .int .u64 0, .string ⟨#[]⟩, .int .u64 0, .string ⟨#[]⟩, .slice none 0 0, .slice none 0 0, .slice none 0 0], .int .i64 10]) (by simp [results, Tryz.results45, go_sem, p0, p1, p2, p3, p4, p5, p6, p7]) rfl ?_
  exact ⟨_, rfl, .inr ⟨by simp, rfl⟩, HB4.out.trans (HX7.out.below HB4.out.size o9)⟩
 subst aZ
 have cK := HR3.out
 rw [if_neg (by have := HW.out; simp only [ne_eq, not_or, Decidable.not_not]; exact ⟨HSM.out, bB, by omega⟩)] at cK
 have HR4 := lh cK
 have HWD := lh bB
 have dS := Jh3 HRC.out HRC'.out bB (by have := HW.out; omega)
 have HLK := lh dS
 have hN := Qy HRC.out
 have dT := Qy HRC'.out
 have HN := lh (And.intro hN.seen dT.seen)
 have eK : n2 <= 12 := by have := hN.classes; have := HW.out; omega
 clear cK HR3 bB dS hN dT
 have eZ := HBA.out.lt
 go_wp2_with fail
 go_loopw [43] (fun p wr => ∃ k : Nat, k <= n2 /\ p = .int .i64 (k : Int) /\ Hid (∀ j x y, j < k -> a.seen[j]? = some x -> b.seen[j]? = some y -> x + y <= 1073741824) /\ ∃ d, wr = w4.drewN d) (fun p _ => n2 - (intOf p).toNat)
 case atStart => exact ⟨0, by omega, rfl, lh fun j x y hj => absurd hj (Nat.not_lt_zero j), 0, rfl⟩
 case round =>
  obtain ⟨k, hk, rfl, HE, d, rfl⟩ := hrel
  by_cases bK : k < n2
  ·have k1 : (k : Int) < (n2 : Int) := by omega
   obtain ⟨ad, x, rfl, aJ, hx, hc⟩ := H.out.seen.at_ (k := k) bK
   obtain ⟨ad', y, rfl, bC, hy, cE⟩ := H'.out.seen.at_ (k := k) bK
   have hM := HB4.out.mono HBB.out
   have fA := Qg hM hc aJ
   have fB := Qg hM cE bC
   have eL := HN.out.1 x (List.mem_of_getElem? hx)
   have eM := HN.out.2 y (List.mem_of_getElem? hy)
   have eN := Jfv (x := x + y) (by omega) (by omega)
   obtain ⟨t, ht⟩ : ∃ t, x + y = t := ⟨_, rfl⟩
   rw [ht] at eN
   have HXY := lh (And.intro hx (And.intro hy ht))
   clear hc cE hM eL eM hx hy aJ bC
   by_cases cL : 1073741824 < t
   ·obtain rfl : R = (BM.none, 18) := by rw [<- HR4.out, if_pos (Jhv HXY.out.1 HXY.out.2.1 (by rw [HXY.out.2.2]; exact cL))]
    have k2 : decide (1073741824 < t) = true := decide_eq_true cL
    clear HE
    go_upto_region 8 with fail
    go_quiet (fail)
    rename Nat => nq
    have HB5 := lh (HB2.out.below (Jw (Below.refl w4.heap.size w4) (d + nq)) HB2.out.lt)
    have HB6 := lh (HB4.out.trans ((Jw (Below.refl w4.heap.size w4) (d + nq)).mono HB4.out.size))
    go_wp2_with (refine Jr rfl _ (.tmp 4) (.tmp 58) rfl gR #[.bool false, .int .u64 0, .string ⟨#[]⟩, .int .u64 0, .string ⟨#[]⟩, .slice none 0 0, .slice none 0 0, .slice none 0 0] _ rfl rfl _ HB5.out (by kernel_rfl) rfl (by simp [Value.oneCell']) ?_; intro w7 j0 j6; have HX7 := lh j6; have HB7 := lh j0; clear j6 j0 x0 x1 x2 x3 x4 x5 x6 x7 y0 y1 y2 y3 y4 y5 y6 y7)
    obtain ⟨p0, p1, p2, p3, p4, p5, p6, p7⟩ := HB7.out.c8
    refine bodyPost_ret (v := .tuple #[.agg #[.bool false, .int .u64 0, .string ⟨#[]⟩, .int .u64 0, .string ⟨#[]⟩, .slice none 0 0, .slice none 0 0, .slice none 0 0], .int .i64 18]) (by simp [results, Tryz.results45, go_sem, p0, p1, p2, p3, p4, p5, p6, p7]) rfl ?_
    exact ⟨_, rfl, .inr ⟨by simp, rfl⟩, HB6.out.trans (HX7.out.below HB6.out.size o9)⟩
   have k2 : decide (1073741824 < t) = false := decide_eq_false cL
   have HE2 : Hid (∀ j x y, j < k + 1 -> a.seen[j]? = some x -> b.seen[j]? = some y -> x + y <= 1073741824) := lh fun j x' y' hj h1 h2 => by
    rcases Nat.lt_or_eq_of_le (Nat.lt_succ_iff.1 hj) with h3 | h3
    ·exact HE.out j x' y' h3 h1 h2
    subst h3
    have e1 := Option.some.inj (HXY.out.1.symm.trans h1)
    have e2 := Option.some.inj (HXY.out.2.1.symm.trans h2)
    have := HXY.out.2.2
    omega
   clear HE
   go_upto_region 8 with fail
   go_quiet (fail)
   go_wp2_with fail
   exact ⟨⟨k + 1, by omega, by go_num, HE2, _, rfl⟩, by simp [intOf]; omega⟩
  obtain rfl : k = n2 := by omega
  have k1 : ¬ (k : Int) < (k : Int) := by omega
  obtain rfl : R = (Ja1 a b, 0) := by rw [<- HR4.out, if_neg (by rw [Jgk HW.out.2.1 HE.out]; simp)]
  have cN := Jw (Below.refl w4.heap.size w4) d
  have p8 := HB4.out.trans (cN.mono HB4.out.size)
  have hM := p8.mono HBB.out
  have HMG := lh (Um 91 Jig (fun x y => x + y) (fun x => 0 <= x /\ x <= 1073741824) (fun x y w hx hy => Jir x y w hx hy) X1 X2 X3 n1 s1 k s2 n3 s3 Y1 Y2 Y3 m1 t1 k t2 m3 t3 B a b (w4.drewN d) (H.out.below hM) (H'.out.below hM) (nt HBB.out p8.size) HLS.out.1 HLK.out)
  rw [Jgv] at HMG
  have HB5 := lh p8
  have HBD := lh (HB2.out.below cN HB2.out.lt)
  clear cN p8 hM HE
  go_wp2_with fail
  refine HMG.out.mono ?_
  rintro e w6 ⟨v, rfl, ⟨AW, cW, gS, gC, F, G, H9, rfl, ho⟩, bM⟩
  have bL := HBD.out.lt
  have HBE := lh (HBD.out.below bM bL)
  have HNR := lh (show ¬ F gR /\ ¬ G gR /\ ¬ H9 gR from ⟨fun e => by have := ho.from1 _ e; omega, fun e => by have := ho.from2 _ e; omega, fun e => by have := ho.from3 _ e; omega⟩)
  have HB6 := lh (HB5.out.trans (bM.mono HB5.out.size))
  have HO := lh (ho.low HB5.out.size)
  clear ho bM HMG x0 x1 x2 x3 x4 x5 x6 x7 y0 y1 y2 y3 y4 y5 y6 y7 bL
  go_wp2_with (refine Jr rfl _ (.tmp 4) (.tmp 62) rfl gR #[.bool (decide (((Ja1 a b).smooth).num < 0)), .int .u64 (lo ((((Ja1 a b).smooth).num).natAbs) : Int), .string (mo ((((Ja1 a b).smooth).num).natAbs)), .int .u64 (lo ((qden ((Ja1 a b).smooth))) : Int), .string (mo ((qden ((Ja1 a b).smooth)))), .slice AW n1 cW, .slice (some ⟨gS, 0, none⟩) k k, .slice (some ⟨gC, 0, none⟩) n3 n3] _ rfl rfl _ HBE.out (by kernel_rfl) rfl (by simp [Value.oneCell']) ?_; intro w7 j0 j6; have HX7 := lh j6; have HB7 := lh j0; clear j6 j0)
  obtain ⟨p0, p1, p2, p3, p4, p5, p6, p7⟩ := HB7.out.c8
  refine bodyPost_ret (v := .tuple #[.agg #[.bool (decide (((Ja1 a b).smooth).num < 0)), .int .u64 (lo ((((Ja1 a b).smooth).num).natAbs) : Int), .string (mo ((((Ja1 a b).smooth).num).natAbs)), .int .u64 (lo ((qden ((Ja1 a b).smooth))) : Int), .string (mo ((qden ((Ja1 a b).smooth)))), .slice AW n1 cW, .slice (some ⟨gS, 0, none⟩) k k, .slice (some ⟨gC, 0, none⟩) n3 n3], .int .i64 0]) (by simp [results, Tryz.results45, go_sem, p0, p1, p2, p3, p4, p5, p6, p7]) rfl ?_
  exact ⟨_, rfl, .inl ⟨rfl, _, rfl, AW, cW, gS, gC, F, G, H9, rfl, HO.out.exc HX7.out HNR.out.1 HNR.out.2.1 HNR.out.2.2⟩, HB6.out.trans (HX7.out.below HB6.out.size o9)⟩
theorem Jlf : LenB kn0 := Za Jj0
theorem Jle : LenB kn1 := Za Jjz
theorem Jaj (w : World) (x : Int) : ReadsI (w.alloc (.cells #[.int .i64 x] 3)) (w.alloc (.cells #[.int .i64 x] 3)).heap.size (some ⟨w.heap.size, 0, none⟩) 1 [x] := rkindI.more (Reads.one w (zv x) _) (by show w.heap.size + 1 <= (w.heap.push _).size; rw [Array.size_push]; exact Nat.le_refl _)
theorem Jnm : ∃ (m0 m1 : BM) (a b : Rat), Jdk 2 [2] 1 = (m0, 0) /\ Xg m0 [0] 0 = (m1, 0) /\ Qo m1 [0] = ([a, b], 0) /\ LenB m0 /\ LenB m1 /\ QS 1000 m0.smooth /\ QS 1000 m1.smooth /\ QS 1000 a /\ QS 1000 b /\ a = Rat.divInt 8 11 /\ b = Rat.divInt 3 11 :=
 ⟨kn0, kn1, _, _, Jnl, Jld, Jh6, Jlf, Jle, ⟨Nat.le_of_ble_eq_true (by kernel_rfl), Nat.le_of_ble_eq_true (by kernel_rfl)⟩, ⟨Nat.le_of_ble_eq_true (by kernel_rfl), Nat.le_of_ble_eq_true (by kernel_rfl)⟩, ⟨Nat.le_of_ble_eq_true (by kernel_rfl), Nat.le_of_ble_eq_true (by kernel_rfl)⟩, ⟨Nat.le_of_ble_eq_true (by kernel_rfl), Nat.le_of_ble_eq_true (by kernel_rfl)⟩, by decide +kernel, by decide +kernel⟩
theorem Jgy (w : World) (hT : Tab w) : Calls Tryz.prog 19 #[] w (Ret (.bool true) w) := by
 obtain ⟨m0, m1, a, b, h1, h2, h3, h4, h5, h6, h7, h8, h9, aN, bO⟩ := Jnm
 have aA := fun w => Vo 1 w (by decide) (by decide)
 obtain ⟨q1, aB⟩ : ∃ q1 : Rat, ((1 : Int) : Rat) = q1 := ⟨_, rfl⟩
 have t7 : (1 : Rat) = q1 := aB
 rw [t7] at h1
 rw [aB] at aA
 have q8 : QS 1099511627776 q1 := by rw [<- aB]; exact (QS.cnt (k := 1) (by decide) (by decide) (by decide)).mono (by decide)
 unfold qV at aA
 have HOF := lh aA
 have HNW : Hid (∀ (w : World) (X : Addr), ReadsI w w.heap.size (some X) 1 [2] -> Calls Tryz.prog 15 #[.int .i64 2, .slice (some X) 1 1, .agg #[.bool (decide (q1.num < 0)), .int .u64 (lo q1.num.natAbs : Int), .string (mo q1.num.natAbs), .int .u64 (lo ((qden q1)) : Int), .string (mo ((qden q1)))]] w fun e w' => ∃ u, e = .returned (.tuple #[u, .int .i64 0]) /\ ModB w.heap.size 1 2 2 m0 u w' /\ Below w.heap.size w w') := lh fun w X h => by
  refine (Vp 2 (some X) 1 1 w.heap.size [2] q1 w h zd (by omega) q8).mono ?_
  rintro e w' ⟨v, rfl, hv, hb⟩
  rw [h1] at hv
  rcases hv with ⟨-, u, rfl, hm⟩ | ⟨h0, -⟩
  ·exact ⟨u, rfl, hm, hb⟩
  exact absurd rfl h0
 have HTE : Hid (∀ (w : World) (AW : Option Addr) (cW gS gC : Nat) (X : Addr), RdB w w.heap.size ⟨AW, 1, cW⟩ ⟨some ⟨gS, 0, none⟩, 2, 2⟩ ⟨some ⟨gC, 0, none⟩, 2, 2⟩ m0 -> ReadsI w w.heap.size (some X) 1 [0] -> Calls Tryz.prog 29 #[.agg #[.bool (decide (m0.smooth.num < 0)), .int .u64 (lo m0.smooth.num.natAbs : Int), .string (mo m0.smooth.num.natAbs), .int .u64 (lo ((qden m0.smooth)) : Int), .string (mo ((qden m0.smooth))), .slice AW 1 cW, .slice (some ⟨gS, 0, none⟩) 2 2, .slice (some ⟨gC, 0, none⟩) 2 2], .slice (some X) 1 1, .int .i64 0] w fun e w' => ∃ u, e = .returned (.tuple #[u, .int .i64 0]) /\ ModB w.heap.size 1 2 2 m1 u w' /\ Below w.heap.size w w') := lh fun w AW cW gS gC X h h' => by
  refine (Jb3 AW (some ⟨gS, 0, none⟩) (some ⟨gC, 0, none⟩) 1 cW 2 2 2 2 w.heap.size m0 (some X) 1 1 [0] 0 w h h' zd h4 (by omega) (h6.mono (by omega))).mono ?_
  rintro e w' ⟨v, rfl, hv, hb⟩
  rw [h2] at hv
  rcases hv with ⟨-, u, rfl, hm⟩ | ⟨h0, -⟩
  ·exact ⟨u, rfl, hm, hb⟩
  exact absurd rfl h0
 have HCH : Hid (∀ (w : World) (AW : Option Addr) (cW gS gC : Nat) (X : Addr), RdB w w.heap.size ⟨AW, 1, cW⟩ ⟨some ⟨gS, 0, none⟩, 2, 2⟩ ⟨some ⟨gC, 0, none⟩, 2, 2⟩ m1 -> ReadsI w w.heap.size (some X) 1 [0] -> Tab w -> Calls Tryz.prog 24 #[.agg #[.bool (decide (m1.smooth.num < 0)), .int .u64 (lo m1.smooth.num.natAbs : Int), .string (mo m1.smooth.num.natAbs), .int .u64 (lo ((qden m1.smooth)) : Int), .string (mo ((qden m1.smooth))), .slice AW 1 cW, .slice (some ⟨gS, 0, none⟩) 2 2, .slice (some ⟨gC, 0, none⟩) 2 2], .slice (some X) 1 1] w fun e w' => ∃ g, e = .returned (.tuple #[.slice (some ⟨g, 0, none⟩) 2 2, .int .i64 0]) /\ AtQ w' g 0 a /\ AtQ w' g 5 b /\ g < w'.heap.size /\ Below w.heap.size w w') := lh fun w AW cW gS gC X h h' hT => by
  refine (Vu AW (some ⟨gS, 0, none⟩) (some ⟨gC, 0, none⟩) 1 cW 2 2 2 2 w.heap.size m1 (some X) 1 1 [0] w h h' zd h5 (by omega) h7 hT).mono ?_
  rintro e w' ⟨v, rfl, hv, hb⟩
  rw [h3] at hv
  rcases hv with ⟨-, g, rfl, hg, ho⟩ | ⟨h0, -⟩
  ·have e0 := OwnQ.at_ ho (k := 0) rfl
   have e1 := OwnQ.at_ ho (k := 1) rfl
   exact ⟨g, rfl, e0, e1, Xw e0.c5.1, hb⟩
  exact absurd rfl h0
 have cO := fun w => Ji4 a 8 11 w (by omega) (by omega) (by omega) (by omega) (by omega) aN (h8.mono (by omega))
 have cP := fun w => Ji4 b 3 11 w (by omega) (by omega) (by omega) (by omega) (by omega) bO (h9.mono (by omega))
 unfold qV at cO cP
 have HI1 := lh cO
 have HI2 := lh cP
 have HT := lh hT
 clear cO cP hT aA h1 h2 h3 h4 h5 h6 h7 h8 h9 aN bO aB t7 q8
 go_enter Tryz.func19, Tryz.ntmps19
 go_wp2_with fail
 refine (HOF.out _).mono ?_
 rintro e w1 ⟨rfl, j7⟩
 have hr := rkindI.below (Jaj w 2) j7
 have HR := lh (rkindI.more hr j7.size)
 have HB1 := lh (Ja (Jb w (.cells #[.int .i64 2] 3)) j7)
 clear j7 hr
 go_wp2_with fail
 refine (HNW.out w1 _ HR.out).mono ?_
 rintro e w2 ⟨u, rfl, ⟨AW, cW, gS, gC, F, G, H, rfl, ho⟩, l5⟩
 have HB2 := lh (Ja HB1.out l5)
 have HO := lh ho
 clear l5 ho HR HB1 HNW HOF
 go_upto_region 2 with fail
 have b0 := Blk.new w2 43 #[.bool (decide (m0.smooth.num < 0)), .int .u64 (lo m0.smooth.num.natAbs : Int), .string (mo m0.smooth.num.natAbs), .int .u64 (lo ((qden m0.smooth)) : Int), .string (mo ((qden m0.smooth))), .slice AW 1 cW, .slice (some ⟨gS, 0, none⟩) 2 2, .slice (some ⟨gC, 0, none⟩) 2 2]
 have p9 := Jb w2 (.cells #[.bool (decide (m0.smooth.num < 0)), .int .u64 (lo m0.smooth.num.natAbs : Int), .string (mo m0.smooth.num.natAbs), .int .u64 (lo ((qden m0.smooth)) : Int), .string (mo ((qden m0.smooth))), .slice AW 1 cW, .slice (some ⟨gS, 0, none⟩) 2 2, .slice (some ⟨gC, 0, none⟩) 2 2] 43)
 generalize w2.alloc (.cells #[.bool (decide (m0.smooth.num < 0)), .int .u64 (lo m0.smooth.num.natAbs : Int), .string (mo m0.smooth.num.natAbs), .int .u64 (lo ((qden m0.smooth)) : Int), .string (mo ((qden m0.smooth))), .slice AW 1 cW, .slice (some ⟨gS, 0, none⟩) 2 2, .slice (some ⟨gC, 0, none⟩) 2 2] 43) = w3 at *
 have s9 : w.heap.size <= w2.heap.size := HB2.out.size
 have bD := HO.out.next p9
 have HB3 := lh (Ja HB2.out p9)
 generalize w2.heap.size = g at *
 have hr := Jaj w3 0
 have o0 := Jb w3 (.cells #[.int .i64 0] 3)
 have bE := (bD.next o0).read
 have b4 := b0.below o0 b0.lt
 have HTE2 := lh (HTE.out _ AW cW gS gC _ bE hr)
 have HB4 := lh (Ja HB3.out o0)
 have bS := b4.lt
 obtain ⟨x0, x1, x2, x3, x4, x5, x6, x7⟩ := b0.c8
 have B4 := lh (And.intro b4 bS)
 clear bD p9 hr o0 bE HTE HO HB2 HB3 b4 bS b0
 go_wp2_with fail
 refine HTE2.out.mono ?_
 rintro e w5 ⟨u, rfl, ⟨AW5, cW5, gS5, gC5, F5, G5, H5, rfl, bF⟩, p8⟩
 have HB5 := lh (Ja HB4.out p8)
 have B5 := lh (B4.out.1.below p8 B4.out.2)
 have HN5 := lh (show ¬ F5 g /\ ¬ G5 g /\ ¬ H5 g from ⟨fun e => by have := bF.from1 _ e; have := B4.out.2; omega, fun e => by have := bF.from2 _ e; have := B4.out.2; omega, fun e => by have := bF.from3 _ e; have := B4.out.2; omega⟩)
 have HO5 := lh bF
 clear p8 bF HTE2 HB4 B4 x0 x1 x2 x3 x4 x5 x6 x7
 go_wp2_with (refine Jr rfl _ (.tmp 1) (.tmp 16) rfl g #[.bool (decide (m1.smooth.num < 0)), .int .u64 (lo m1.smooth.num.natAbs : Int), .string (mo m1.smooth.num.natAbs), .int .u64 (lo ((qden m1.smooth)) : Int), .string (mo ((qden m1.smooth))), .slice AW5 1 cW5, .slice (some ⟨gS5, 0, none⟩) 2 2, .slice (some ⟨gC5, 0, none⟩) 2 2] _ rfl rfl _ B5.out (by kernel_rfl) rfl (by simp [Value.oneCell']) ?_; intro w7 j0 j6; have HX7 := lh j6; have B7 := lh j0; obtain ⟨x0, x1, x2, x3, x4, x5, x6, x7⟩ := j0.c8; clear j0 j6)
 have dU := HO5.out.exc HX7.out HN5.out.1 HN5.out.2.1 HN5.out.2.2
 have HB7 := lh (HB5.out.trans (HX7.out.below HB5.out.size s9))
 have hr := Jaj w7 0
 have aL := Jb w7 (.cells #[.int .i64 0] 3)
 have bE := (dU.next aL).read
 have HB8 := lh (Ja HB7.out aL)
 have HCH2 := lh (HCH.out _ AW5 cW5 gS5 gC5 _ bE hr (HT.out.next HB8.out))
 clear dU hr aL bE HCH HB7 HB5 HN5 HX7 B5 B7 HO5
 refine HCH2.out.mono ?_
 rintro e w9 ⟨g9, rfl, d0, d1, bS, dV⟩
 have HB9 := lh (Ja HB8.out dV)
 clear HCH2 dV HB8 x0 x1 x2 x3 x4 x5 x6 x7
 obtain ⟨x0, x1, x2, x3, x4⟩ := d0.c5
 obtain ⟨y0, y1, y2, y3, y4⟩ := d1.c5
 go_wp2_with fail
 refine (HI1.out _).mono ?_
 rintro e wa ⟨rfl, cQ⟩
 have d1 := d1.below cQ bS
 have HBA := lh (Ja HB9.out cQ)
 clear cQ x0 x1 x2 x3 x4 y0 y1 y2 y3 y4 HI1 HB9 d0
 obtain ⟨y0, y1, y2, y3, y4⟩ := d1.c5
 go_wp2_with fail
 refine (HI2.out _).mono ?_
 rintro e wb ⟨rfl, dW⟩
 have HBB := lh (Ja HBA.out dW)
 clear dW y0 y1 y2 y3 y4 HI2 HBA d1
 go_wp2
 go_ret
 exact ⟨rfl, HBB.out⟩
def HoldB (w : World) (g n1 n2 n3 : Nat) (m : BM) : Prop := ∃ (AW : Option Addr) (cW gS gC : Nat) (F G H : Nat -> Prop), Blk w g 43 #[.bool (decide (m.smooth.num < 0)), .int .u64 (lo m.smooth.num.natAbs : Int), .string (mo m.smooth.num.natAbs), .int .u64 (lo ((qden m.smooth)) : Int), .string (mo ((qden m.smooth))), .slice AW n1 cW, .slice (some ⟨gS, 0, none⟩) n2 n2, .slice (some ⟨gC, 0, none⟩) n3 n3] /\
 OwB 3 22 65 0 w ⟨AW, n1, cW⟩ ⟨some ⟨gS, 0, none⟩, n2, n2⟩ ⟨some ⟨gC, 0, none⟩, n3, n3⟩ F G H m
theorem HoldB.next {w w' : World} {g n1 n2 n3 : Nat} {m : BM} (h : HoldB w g n1 n2 n3 m) (hb : Below w.heap.size w w') : HoldB w' g n1 n2 n3 m := by
 obtain ⟨AW, cW, gS, gC, F, G, H, h1, h2⟩ := h
 exact ⟨AW, cW, gS, gC, F, G, H, h1.below hb h1.lt, h2.next hb⟩
theorem Ug (w : World) (x y : Int) : ReadsI (w.alloc (.cells #[.int .i64 x, .int .i64 y] 3)) (w.alloc (.cells #[.int .i64 x, .int .i64 y] 3)).heap.size (some ⟨w.heap.size, 0, none⟩) 2 [x, y] := (Own.lit w 3 zv [x, y] (by unfold maxLen; simp)).reads
theorem Jmc (w : World) (a b : SW) (x y : List Int) (hx : ReadsI w w.heap.size a.A a.n x) (hy : ReadsI w w.heap.size b.A b.n y) : ReadsS ReadsI (w.alloc (.cells #[a.v, b.v] 22)) (w.alloc (.cells #[a.v, b.v] 22)).heap.size (some ⟨w.heap.size, 0, none⟩) 2 [x, y] := by
 have hb := Jb w (.cells #[a.v, b.v] 22)
 refine ⟨[a, b], (Own.lit w 22 SW.v [a, b] (by unfold maxLen; simp)).reads, rfl, fun i r l h1 h2 => ?_⟩
 match i, h1, h2 with
 | 0, h1, h2 =>
  obtain rfl := Option.some.inj h1
  obtain rfl := Option.some.inj h2
  exact rkindI.more (rkindI.below hx hb) hb.size
 | 1, h1, h2 =>
  obtain rfl := Option.some.inj h1
  obtain rfl := Option.some.inj h2
  exact rkindI.more (rkindI.below hy hb) hb.size
abbrev Jjv (w : World) (a b c d e f : Int) : World := (((w.alloc (.cells #[.int .i64 a, .int .i64 b] 3)).alloc (.cells #[.int .i64 c, .int .i64 d] 3)).alloc (.cells #[.slice (some ⟨w.heap.size, 0, none⟩) 2 2, .slice (some ⟨w.heap.size + 1, 0, none⟩) 2 2] 22)).alloc (.cells #[.int .i64 e, .int .i64 f] 3)
theorem Jmj (w : World) (a b c d e f : Int) : ReadsS ReadsI (Jjv w a b c d e f) (Jjv w a b c d e f).heap.size (some ⟨w.heap.size + 1 + 1, 0, none⟩) 2 [[a, b], [c, d]] /\ ReadsI (Jjv w a b c d e f) (Jjv w a b c d e f).heap.size (some ⟨w.heap.size + 1 + 1 + 1, 0, none⟩) 2 [e, f] /\ Below w.heap.size w (Jjv w a b c d e f) := by
 have h1 := Ug w a b
 have b1 := Jb w (.cells #[.int .i64 a, .int .i64 b] 3)
 have e1 : (w.alloc (.cells #[.int .i64 a, .int .i64 b] 3)).heap.size = w.heap.size + 1 := World.size_alloc _ _
 unfold Jjv
 generalize w.alloc (.cells #[.int .i64 a, .int .i64 b] 3) = w1 at *
 have h2 := Ug w1 c d
 have b2 := Jb w1 (.cells #[.int .i64 c, .int .i64 d] 3)
 have e2 : (w1.alloc (.cells #[.int .i64 c, .int .i64 d] 3)).heap.size = w1.heap.size + 1 := World.size_alloc _ _
 have eO := rkindI.more (rkindI.below h1 b2) b2.size
 generalize w1.alloc (.cells #[.int .i64 c, .int .i64 d] 3) = w2 at *
 rw [e1] at h2
 have h3 := Jmc w2 ⟨some ⟨w.heap.size, 0, none⟩, 2, 2⟩ ⟨some ⟨w.heap.size + 1, 0, none⟩, 2, 2⟩ [a, b] [c, d] eO h2
 have b3 := Jb w2 (.cells #[.slice (some ⟨w.heap.size, 0, none⟩) 2 2, .slice (some ⟨w.heap.size + 1, 0, none⟩) 2 2] 22)
 have e3 : (w2.alloc (.cells #[.slice (some ⟨w.heap.size, 0, none⟩) 2 2, .slice (some ⟨w.heap.size + 1, 0, none⟩) 2 2] 22)).heap.size = w2.heap.size + 1 := World.size_alloc _ _
 rw [show w2.heap.size = w.heap.size + 1 + 1 by omega] at h3
 unfold SW.v at h3
 generalize w2.alloc (.cells #[.slice (some ⟨w.heap.size, 0, none⟩) 2 2, .slice (some ⟨w.heap.size + 1, 0, none⟩) 2 2] 22) = w3 at *
 have h4 := Ug w3 e f
 have b4 := Jb w3 (.cells #[.int .i64 e, .int .i64 f] 3)
 rw [show w3.heap.size = w.heap.size + 1 + 1 + 1 by omega] at h4
 exact ⟨(Ja5 rkindI).more ((Ja5 rkindI).below h3 b4) b4.size, h4, Ja (Ja (Ja b1 b2) b3) b4⟩
theorem Vk {L n1 n2 n3 : Nat} {m : BM} {v : Value} {w : World} (h : Jhk L n1 n2 n3 (m, 0) v w) : ∃ u, v = .tuple #[u, .int .i64 0] /\ ModB L n1 n2 n3 m u w := by
 rcases h with ⟨-, u, rfl, hm⟩ | ⟨h0, -⟩
 ·exact ⟨u, rfl, hm⟩
 exact absurd rfl h0
theorem Ja7 {L n1 n2 n3 : Nat} {r : BM × Int} {z : Int} {v : Value} {w : World} (h : Jhk L n1 n2 n3 r v w) (hz : r.2 = z) (h0 : z ≠ 0) : v = .tuple #[.agg #[.bool false, .int .u64 0, .string ⟨#[]⟩, .int .u64 0, .string ⟨#[]⟩, .slice none 0 0, .slice none 0 0, .slice none 0 0], .int .i64 z] := by
 subst hz
 rcases h with ⟨h1, -⟩ | ⟨-, h1⟩
 ·exact absurd h1 h0
 exact h1
theorem Jj3 : Jk kb0 = 0 := by decide +kernel
theorem Jj2 : Jk kb1 = 0 := by decide +kernel
theorem Jj1 : Jk kb2 = 0 := by decide +kernel
theorem Jnp : ∃ m0 m1 m2 m3 : BM, Jdk 2 [2, 3] 1 = (m0, 0) /\ Jif m0 [[0, 2], [1, -1]] [1, 1] = (m2, 0) /\ Vq m2 [-1, -1] = (1, 0) /\ Yd m2 [1, -1] 1 = (m1, 0) /\ (Yd m1 [1, -1] 1).2 = 7 /\ Jcv m1 m1 = (m3, 0) /\ (LenB m0 /\ LenB m1 /\ LenB m2) /\ (QS 1000 m0.smooth /\ QS 1000 m1.smooth /\ QS 1000 m2.smooth) /\
  m1.seen[1]? = some 1 /\ m3.seen[1]? = some 2 /\ ∃ t y9, m3.counts[1]? = some t /\ t[1]? = some y9 /\ y9[2]? = some 2 :=
 ⟨kb0, kb1, kb2, kb3, Jnn, Jno, Jj4, Jmq, Jlg, Jmp, ⟨Za Jj3, Za Jj2, Za Jj1⟩, ⟨⟨Nat.le_of_ble_eq_true (by kernel_rfl), Nat.le_of_ble_eq_true (by kernel_rfl)⟩, ⟨Nat.le_of_ble_eq_true (by kernel_rfl), Nat.le_of_ble_eq_true (by kernel_rfl)⟩, ⟨Nat.le_of_ble_eq_true (by kernel_rfl), Nat.le_of_ble_eq_true (by kernel_rfl)⟩⟩, rfl, rfl, _, _, rfl, rfl, rfl⟩
theorem Jb6 (w : World) (hT : Tab w) : Calls Tryz.prog 10 #[] w (Ret (.bool true) w) := by
 obtain ⟨m0, m1, m2, m3, h1, h2, h3, h4, h5, h6, ⟨l0, l1, l2⟩, ⟨s0, s1, s2⟩, g1, g2, t, y9, g3, g4, g5⟩ := Jnp
 have aA := fun w => Vo 1 w (by decide) (by decide)
 have aC := fun w => Vo 0 w (by decide) (by decide)
 obtain ⟨q1, aB⟩ : ∃ q1 : Rat, ((1 : Int) : Rat) = q1 := ⟨_, rfl⟩
 have t7 : (1 : Rat) = q1 := aB
 obtain ⟨q0, bT⟩ : ∃ q0 : Rat, ((0 : Int) : Rat) = q0 := ⟨_, rfl⟩
 have bG : (0 : Rat) = q0 := bT
 have n0 := Jmo
 have n1 := Jmn
 rw [t7] at h1 n0
 rw [bG] at n1
 rw [aB] at aA
 rw [bT] at aC
 have q8 : QS 1099511627776 q1 := by rw [<- aB]; exact (QS.cnt (k := 1) (by decide) (by decide) (by decide)).mono (by decide)
 have bH : QS 1099511627776 q0 := by rw [<- bT]; exact (QS.cnt (k := 1) (by decide) (by decide) (by decide)).mono (by decide)
 unfold qV at aA aC
 have HOF := lh aA
 have HOF0 := lh aC
 have HNW : Hid (∀ (w : World) (X : Addr), ReadsI w w.heap.size (some X) 2 [2, 3] -> Calls Tryz.prog 15 #[.int .i64 2, .slice (some X) 2 2, .agg #[.bool (decide (q1.num < 0)), .int .u64 (lo q1.num.natAbs : Int), .string (mo q1.num.natAbs), .int .u64 (lo ((qden q1)) : Int), .string (mo ((qden q1)))]] w fun e w' => ∃ u, e = .returned (.tuple #[u, .int .i64 0]) /\ ModB w.heap.size 2 2 2 m0 u w' /\ Below w.heap.size w w') := lh fun w X h => by
  refine (Vp 2 (some X) 2 2 w.heap.size [2, 3] q1 w h zd (by omega) q8).mono ?_
  rintro e w' ⟨v, rfl, hv, hb⟩
  rw [h1] at hv
  obtain ⟨u, rfl, hm⟩ := Vk hv
  exact ⟨u, rfl, hm, hb⟩
 have HNE : Hid (∀ (w : World) (X : Addr), ReadsI w w.heap.size (some X) 1 [2] -> Calls Tryz.prog 15 #[.int .i64 0, .slice (some X) 1 1, .agg #[.bool (decide (q1.num < 0)), .int .u64 (lo q1.num.natAbs : Int), .string (mo q1.num.natAbs), .int .u64 (lo ((qden q1)) : Int), .string (mo ((qden q1)))]] w (Ret (.tuple #[.agg #[.bool false, .int .u64 0, .string ⟨#[]⟩, .int .u64 0, .string ⟨#[]⟩, .slice none 0 0, .slice none 0 0, .slice none 0 0], .int .i64 5]) w)) := lh fun w X h => by
  refine (Vp 0 (some X) 1 1 w.heap.size [2] q1 w h zd (by omega) q8).mono ?_
  rintro e w' ⟨v, rfl, hv, hb⟩
  rw [Ja7 hv n0 (by decide)]
  exact ⟨rfl, hb⟩
 have HNF : Hid (∀ (w : World) (X : Addr), ReadsI w w.heap.size (some X) 1 [2] -> Calls Tryz.prog 15 #[.int .i64 1, .slice (some X) 1 1, .agg #[.bool (decide (q0.num < 0)), .int .u64 (lo q0.num.natAbs : Int), .string (mo q0.num.natAbs), .int .u64 (lo ((qden q0)) : Int), .string (mo ((qden q0)))]] w (Ret (.tuple #[.agg #[.bool false, .int .u64 0, .string ⟨#[]⟩, .int .u64 0, .string ⟨#[]⟩, .slice none 0 0, .slice none 0 0, .slice none 0 0], .int .i64 1]) w)) := lh fun w X h => by
  refine (Vp 1 (some X) 1 1 w.heap.size [2] q0 w h zd (by omega) bH).mono ?_
  rintro e w' ⟨v, rfl, hv, hb⟩
  rw [Ja7 hv n1 (by decide)]
  exact ⟨rfl, hb⟩
 have HFT : Hid (∀ (w : World) (AW : Option Addr) (cW gS gC : Nat) (X Y : Addr), RdB w w.heap.size ⟨AW, 2, cW⟩ ⟨some ⟨gS, 0, none⟩, 2, 2⟩ ⟨some ⟨gC, 0, none⟩, 2, 2⟩ m0 -> ReadsS ReadsI w w.heap.size (some X) 2 [[0, 2], [1, -1]] -> ReadsI w w.heap.size (some Y) 2 [1, 1] -> Calls Tryz.prog 34 #[.agg #[.bool (decide (m0.smooth.num < 0)), .int .u64 (lo m0.smooth.num.natAbs : Int), .string (mo m0.smooth.num.natAbs), .int .u64 (lo ((qden m0.smooth)) : Int), .string (mo ((qden m0.smooth))), .slice AW 2 cW, .slice (some ⟨gS, 0, none⟩) 2 2, .slice (some ⟨gC, 0, none⟩) 2 2], .slice (some X) 2 2, .slice (some Y) 2 2] w fun e w' => ∃ u, e = .returned (.tuple #[u, .int .i64 0]) /\ ModB w.heap.size 2 2 2 m2 u w' /\ Below w.heap.size w w') := lh fun w AW cW gS gC X Y h h' eP => by
  refine (Jkj AW (some ⟨gS, 0, none⟩) (some ⟨gC, 0, none⟩) 2 cW 2 2 2 2 w.heap.size m0 (some X) 2 2 [[0, 2], [1, -1]] (some Y) 2 2 [1, 1] w h h' eP zd l0 (by omega) (by simp) (by omega) (s0.mono (by omega))).mono ?_
  rintro e w' ⟨v, rfl, hv, hb⟩
  rw [h2] at hv
  obtain ⟨u, rfl, hm⟩ := Vk hv
  exact ⟨u, rfl, hm, hb⟩
 have HAN : Hid (∀ (w : World) (AW : Option Addr) (cW gS gC : Nat) (X : Addr), RdB w w.heap.size ⟨AW, 2, cW⟩ ⟨some ⟨gS, 0, none⟩, 2, 2⟩ ⟨some ⟨gC, 0, none⟩, 2, 2⟩ m2 -> ReadsI w w.heap.size (some X) 2 [-1, -1] -> Tab w -> Calls Tryz.prog 36 #[.agg #[.bool (decide (m2.smooth.num < 0)), .int .u64 (lo m2.smooth.num.natAbs : Int), .string (mo m2.smooth.num.natAbs), .int .u64 (lo ((qden m2.smooth)) : Int), .string (mo ((qden m2.smooth))), .slice AW 2 cW, .slice (some ⟨gS, 0, none⟩) 2 2, .slice (some ⟨gC, 0, none⟩) 2 2], .slice (some X) 2 2] w (Ret (.tuple #[.int .i64 1, .int .i64 0]) w)) := lh fun w AW cW gS gC X h h' hT => by
  have := Jfs AW (some ⟨gS, 0, none⟩) (some ⟨gC, 0, none⟩) 2 cW 2 2 2 2 w.heap.size m2 (some X) 2 2 [-1, -1] w h h' zd l2 (by omega) s2 hT
  rw [h3] at this
  exact this
 have HUN : Hid (∀ (w : World) (AW : Option Addr) (cW gS gC : Nat) (X : Addr), RdB w w.heap.size ⟨AW, 2, cW⟩ ⟨some ⟨gS, 0, none⟩, 2, 2⟩ ⟨some ⟨gC, 0, none⟩, 2, 2⟩ m2 -> ReadsI w w.heap.size (some X) 2 [1, -1] -> Calls Tryz.prog 32 #[.agg #[.bool (decide (m2.smooth.num < 0)), .int .u64 (lo m2.smooth.num.natAbs : Int), .string (mo m2.smooth.num.natAbs), .int .u64 (lo ((qden m2.smooth)) : Int), .string (mo ((qden m2.smooth))), .slice AW 2 cW, .slice (some ⟨gS, 0, none⟩) 2 2, .slice (some ⟨gC, 0, none⟩) 2 2], .slice (some X) 2 2, .int .i64 1] w fun e w' => ∃ u, e = .returned (.tuple #[u, .int .i64 0]) /\ ModB w.heap.size 2 2 2 m1 u w' /\ Below w.heap.size w w') := lh fun w AW cW gS gC X h h' => by
  refine (Vt AW (some ⟨gS, 0, none⟩) (some ⟨gC, 0, none⟩) 2 cW 2 2 2 2 w.heap.size m2 (some X) 2 2 [1, -1] 1 w h h' zd l2 (by omega) (s2.mono (by omega))).mono ?_
  rintro e w' ⟨v, rfl, hv, hb⟩
  rw [h4] at hv
  obtain ⟨u, rfl, hm⟩ := Vk hv
  exact ⟨u, rfl, hm, hb⟩
 have HUE : Hid (∀ (w : World) (AW : Option Addr) (cW gS gC : Nat) (X : Addr), RdB w w.heap.size ⟨AW, 2, cW⟩ ⟨some ⟨gS, 0, none⟩, 2, 2⟩ ⟨some ⟨gC, 0, none⟩, 2, 2⟩ m1 -> ReadsI w w.heap.size (some X) 2 [1, -1] -> Calls Tryz.prog 32 #[.agg #[.bool (decide (m1.smooth.num < 0)), .int .u64 (lo m1.smooth.num.natAbs : Int), .string (mo m1.smooth.num.natAbs), .int .u64 (lo ((qden m1.smooth)) : Int), .string (mo ((qden m1.smooth))), .slice AW 2 cW, .slice (some ⟨gS, 0, none⟩) 2 2, .slice (some ⟨gC, 0, none⟩) 2 2], .slice (some X) 2 2, .int .i64 1] w (Ret (.tuple #[.agg #[.bool false, .int .u64 0, .string ⟨#[]⟩, .int .u64 0, .string ⟨#[]⟩, .slice none 0 0, .slice none 0 0, .slice none 0 0], .int .i64 7]) w)) := lh fun w AW cW gS gC X h h' => by
  refine (Vt AW (some ⟨gS, 0, none⟩) (some ⟨gC, 0, none⟩) 2 cW 2 2 2 2 w.heap.size m1 (some X) 2 2 [1, -1] 1 w h h' zd l1 (by omega) (s1.mono (by omega))).mono ?_
  rintro e w' ⟨v, rfl, hv, hb⟩
  rw [Ja7 hv h5 (by decide)]
  exact ⟨rfl, hb⟩
 have HJN : Hid (∀ (w : World) (AW : Option Addr) (cW gS gC : Nat), RdB w w.heap.size ⟨AW, 2, cW⟩ ⟨some ⟨gS, 0, none⟩, 2, 2⟩ ⟨some ⟨gC, 0, none⟩, 2, 2⟩ m1 -> Calls Tryz.prog 45 #[.agg #[.bool (decide (m1.smooth.num < 0)), .int .u64 (lo m1.smooth.num.natAbs : Int), .string (mo m1.smooth.num.natAbs), .int .u64 (lo ((qden m1.smooth)) : Int), .string (mo ((qden m1.smooth))), .slice AW 2 cW, .slice (some ⟨gS, 0, none⟩) 2 2, .slice (some ⟨gC, 0, none⟩) 2 2], .agg #[.bool (decide (m1.smooth.num < 0)), .int .u64 (lo m1.smooth.num.natAbs : Int), .string (mo m1.smooth.num.natAbs), .int .u64 (lo ((qden m1.smooth)) : Int), .string (mo ((qden m1.smooth))), .slice AW 2 cW, .slice (some ⟨gS, 0, none⟩) 2 2, .slice (some ⟨gC, 0, none⟩) 2 2]] w fun e w' => ∃ u, e = .returned (.tuple #[u, .int .i64 0]) /\ ModB w.heap.size 2 2 2 m3 u w' /\ Below w.heap.size w w') := lh fun w AW cW gS gC h => by
  refine (Jiu AW (some ⟨gS, 0, none⟩) (some ⟨gC, 0, none⟩) 2 cW 2 2 2 2 AW (some ⟨gS, 0, none⟩) (some ⟨gC, 0, none⟩) 2 cW 2 2 2 2 w.heap.size m1 m1 w h h zd l1 l1 (s1.mono (by omega)) (s1.mono (by omega))).mono ?_
  rintro e w' ⟨v, rfl, hv, hb⟩
  rw [h6] at hv
  obtain ⟨u, rfl, hm⟩ := Vk hv
  exact ⟨u, rfl, hm, hb⟩
 have HKN := lh (fun w hT => Jgy w hT)
 have HG := lh (And.intro g1 (And.intro g2 (And.intro g3 (And.intro g4 g5))))
 have HT := lh hT
 clear hT aA aC h1 h2 h3 h4 h5 h6 l0 l1 l2 s0 s1 s2 g1 g2 g3 g4 g5 aB t7 q8 bT bG bH n0 n1
 go_enter Tryz.func10, Tryz.ntmps10
 go_wp2_with fail
 refine (HOF.out _).mono ?_
 rintro e w1 ⟨rfl, j7⟩
 have hr := rkindI.below (Ug w 2 3) j7
 have HR := lh (rkindI.more hr j7.size)
 have HB1 := lh (Ja (Jb w (.cells #[.int .i64 2, .int .i64 3] 3)) j7)
 clear j7 hr
 go_wp2_with fail
 refine (HNW.out w1 _ HR.out).mono ?_
 rintro e w2 ⟨u, rfl, ⟨AW, cW, gS, gC, F, G, H, rfl, ho⟩, l5⟩
 have HB2 := lh (Ja HB1.out l5)
 have HO := lh (ho.low (Nat.zero_le _))
 clear l5 ho HR HB1 HNW
 go_upto_region 2 with fail
 have b0 := Blk.new w2 43 #[.bool (decide (m0.smooth.num < 0)), .int .u64 (lo m0.smooth.num.natAbs : Int), .string (mo m0.smooth.num.natAbs), .int .u64 (lo ((qden m0.smooth)) : Int), .string (mo ((qden m0.smooth))), .slice AW 2 cW, .slice (some ⟨gS, 0, none⟩) 2 2, .slice (some ⟨gC, 0, none⟩) 2 2]
 have p9 := Jb w2 (.cells #[.bool (decide (m0.smooth.num < 0)), .int .u64 (lo m0.smooth.num.natAbs : Int), .string (mo m0.smooth.num.natAbs), .int .u64 (lo ((qden m0.smooth)) : Int), .string (mo ((qden m0.smooth))), .slice AW 2 cW, .slice (some ⟨gS, 0, none⟩) 2 2, .slice (some ⟨gC, 0, none⟩) 2 2] 43)
 generalize w2.alloc (.cells #[.bool (decide (m0.smooth.num < 0)), .int .u64 (lo m0.smooth.num.natAbs : Int), .string (mo m0.smooth.num.natAbs), .int .u64 (lo ((qden m0.smooth)) : Int), .string (mo ((qden m0.smooth))), .slice AW 2 cW, .slice (some ⟨gS, 0, none⟩) 2 2, .slice (some ⟨gC, 0, none⟩) 2 2] 43) = w3 at *
 have bD := HO.out.next p9
 have HB3 := lh (Ja HB2.out p9)
 generalize w2.heap.size = ga at *
 have HO3 := lh bD
 obtain ⟨x0, x1, x2, x3, x4, x5, x6, x7⟩ := b0.c8
 clear p9 bD HO HB2 b0
 obtain ⟨bA, dX, o0⟩ := Jmj w3 0 2 1 (-1) 1 1
 have HFT2 := lh (HFT.out _ AW cW gS gC _ _ (HO3.out.next o0).read bA dX)
 have HB4 := lh (Ja HB3.out o0)
 clear bA dX o0 HFT
 go_wp2_with fail
 refine HFT2.out.mono ?_
 rintro e w5 ⟨u, rfl, ⟨AWb, cWb, gSb, gCb, Fb, Gb, Hb, rfl, dY⟩, p8⟩
 have HB5 := lh (Ja HB4.out p8)
 have HObo := lh (dY.low (Nat.zero_le _))
 clear p8 dY HFT2 HB4 x0 x1 x2 x3 x4 x5 x6 x7 HO3 HB3
 go_upto_region 3 with fail
 have bb := Blk.new w5 43 #[.bool (decide (m2.smooth.num < 0)), .int .u64 (lo m2.smooth.num.natAbs : Int), .string (mo m2.smooth.num.natAbs), .int .u64 (lo ((qden m2.smooth)) : Int), .string (mo ((qden m2.smooth))), .slice AWb 2 cWb, .slice (some ⟨gSb, 0, none⟩) 2 2, .slice (some ⟨gCb, 0, none⟩) 2 2]
 have j8 := Jb w5 (.cells #[.bool (decide (m2.smooth.num < 0)), .int .u64 (lo m2.smooth.num.natAbs : Int), .string (mo m2.smooth.num.natAbs), .int .u64 (lo ((qden m2.smooth)) : Int), .string (mo ((qden m2.smooth))), .slice AWb 2 cWb, .slice (some ⟨gSb, 0, none⟩) 2 2, .slice (some ⟨gCb, 0, none⟩) 2 2] 43)
 generalize w5.alloc (.cells #[.bool (decide (m2.smooth.num < 0)), .int .u64 (lo m2.smooth.num.natAbs : Int), .string (mo m2.smooth.num.natAbs), .int .u64 (lo ((qden m2.smooth)) : Int), .string (mo ((qden m2.smooth))), .slice AWb 2 cWb, .slice (some ⟨gSb, 0, none⟩) 2 2, .slice (some ⟨gCb, 0, none⟩) 2 2] 43) = w6 at *
 have HO6 := lh (HObo.out.next j8)
 have HB6 := lh (Ja HB5.out j8)
 generalize w5.heap.size = gb at *
 have hr := Ug w6 (-1) (-1)
 have j9 := Jb w6 (.cells #[.int .i64 (-1), .int .i64 (-1)] 3)
 have HB7 := lh (Ja HB6.out j9)
 have HAN2 := lh (HAN.out _ AWb cWb gSb gCb _ (HO6.out.next j9).read hr (HT.out.next HB7.out))
 have bb7 := lh (bb.below j9 bb.lt)
 have HO7 := lh (HO6.out.next j9)
 obtain ⟨x0, x1, x2, x3, x4, x5, x6, x7⟩ := bb.c8
 clear j8 HObo HB5 hr j9 HAN HO6 HB6 bb
 go_wp2_with fail
 refine HAN2.out.mono ?_
 rintro e w8 ⟨rfl, aL⟩
 have HB8 := lh (Ja HB7.out aL)
 have bb8 := bb7.out.below aL bb7.out.lt
 have HO8 := lh (HO7.out.next aL)
 clear aL HAN2 HB7 bb7 HO7 x0 x1 x2 x3 x4 x5 x6 x7
 go_upto_region 4 with fail
 have hr := Ug w8 1 (-1)
 have j9 := Jb w8 (.cells #[.int .i64 1, .int .i64 (-1)] 3)
 have HB9 := lh (Ja HB8.out j9)
 have HUN2 := lh (HUN.out _ AWb cWb gSb gCb _ (HO8.out.next j9).read hr)
 obtain ⟨x0, x1, x2, x3, x4, x5, x6, x7⟩ := bb8.c8
 clear hr j9 HUN HO8 HB8 bb8
 go_wp2_with fail
 refine HUN2.out.mono ?_
 rintro e w10 ⟨u, rfl, ⟨AWc, cWc, gSc, gCc, Fc, Gc, Hc, rfl, dZ⟩, bI⟩
 have HB10 := lh (Ja HB9.out bI)
 have HOc := lh (dZ.low (Nat.zero_le _))
 clear bI dZ HUN2 HB9 x0 x1 x2 x3 x4 x5 x6 x7
 go_upto_region 5 with fail
 have bc := Blk.new w10 43 #[.bool (decide (m1.smooth.num < 0)), .int .u64 (lo m1.smooth.num.natAbs : Int), .string (mo m1.smooth.num.natAbs), .int .u64 (lo ((qden m1.smooth)) : Int), .string (mo ((qden m1.smooth))), .slice AWc 2 cWc, .slice (some ⟨gSc, 0, none⟩) 2 2, .slice (some ⟨gCc, 0, none⟩) 2 2]
 have j8 := Jb w10 (.cells #[.bool (decide (m1.smooth.num < 0)), .int .u64 (lo m1.smooth.num.natAbs : Int), .string (mo m1.smooth.num.natAbs), .int .u64 (lo ((qden m1.smooth)) : Int), .string (mo ((qden m1.smooth))), .slice AWc 2 cWc, .slice (some ⟨gSc, 0, none⟩) 2 2, .slice (some ⟨gCc, 0, none⟩) 2 2] 43)
 generalize w10.alloc (.cells #[.bool (decide (m1.smooth.num < 0)), .int .u64 (lo m1.smooth.num.natAbs : Int), .string (mo m1.smooth.num.natAbs), .int .u64 (lo ((qden m1.smooth)) : Int), .string (mo ((qden m1.smooth))), .slice AWc 2 cWc, .slice (some ⟨gSc, 0, none⟩) 2 2, .slice (some ⟨gCc, 0, none⟩) 2 2] 43) = w11 at *
 have HO11 := lh (HOc.out.next j8)
 have HB11 := lh (Ja HB10.out j8)
 generalize w10.heap.size = gc at *
 have hr := Ug w11 1 (-1)
 have j9 := Jb w11 (.cells #[.int .i64 1, .int .i64 (-1)] 3)
 have HB12 := lh (Ja HB11.out j9)
 have HUE2 := lh (HUE.out _ AWc cWc gSc gCc _ (HO11.out.next j9).read hr)
 have bc12 := lh (bc.below j9 bc.lt)
 have HO12 := lh (HO11.out.next j9)
 obtain ⟨x0, x1, x2, x3, x4, x5, x6, x7⟩ := bc.c8
 clear j8 HOc HB10 hr j9 HUE HO11 HB11 bc
 go_wp2_with fail
 refine HUE2.out.mono ?_
 rintro e w13 ⟨rfl, aD⟩
 have HB13 := lh (Ja HB12.out aD)
 have bc13 := lh (bc12.out.below aD bc12.out.lt)
 have HO13 := lh (HO12.out.next aD)
 clear aD HUE2 HB12 bc12 HO12 x0 x1 x2 x3 x4 x5 x6 x7
 go_upto_region 6 with fail
 have j8 := Jb w13 (.cells #[.bool false, .int .u64 0, .string ⟨#[]⟩, .int .u64 0, .string ⟨#[]⟩, .slice none 0 0, .slice none 0 0, .slice none 0 0] 43)
 generalize hw14 : w13.alloc (.cells #[.bool false, .int .u64 0, .string ⟨#[]⟩, .int .u64 0, .string ⟨#[]⟩, .slice none 0 0, .slice none 0 0, .slice none 0 0] 43) = w14 at *
 have HB14 := lh (Ja HB13.out j8)
 have HO14 := lh (HO13.out.next j8)
 have bc14 := lh (bc13.out.below j8 bc13.out.lt)
 clear hw14 j8 HB13 HO13 bc13
 go_wp2_with fail
 refine (HOF.out _).mono ?_
 rintro e w15 ⟨rfl, aE⟩
 have hr := rkindI.below (Jaj w14 2) aE
 have HR := lh (rkindI.more hr aE.size)
 have j9 := Ja (Jb w14 (.cells #[.int .i64 2] 3)) aE
 have HB15 := lh (Ja HB14.out j9)
 have HO15 := lh (HO14.out.next j9)
 have bc15 := lh (bc14.out.below j9 bc14.out.lt)
 clear aE hr j9 HB14 HO14 bc14
 go_wp2_with fail
 refine (HNE.out w15 _ HR.out).mono ?_
 rintro e w16 ⟨rfl, aF⟩
 have HB16 := lh (Ja HB15.out aF)
 have HO16 := lh (HO15.out.next aF)
 have bc16 := lh (bc15.out.below aF bc15.out.lt)
 clear aF HR HB15 HO15 bc15 HNE
 go_upto_region 7 with fail
 have j8 := Jb w16 (.cells #[.bool false, .int .u64 0, .string ⟨#[]⟩, .int .u64 0, .string ⟨#[]⟩, .slice none 0 0, .slice none 0 0, .slice none 0 0] 43)
 generalize hw14 : w16.alloc (.cells #[.bool false, .int .u64 0, .string ⟨#[]⟩, .int .u64 0, .string ⟨#[]⟩, .slice none 0 0, .slice none 0 0, .slice none 0 0] 43) = w17 at *
 have HB17 := lh (Ja HB16.out j8)
 have HO17 := lh (HO16.out.next j8)
 have bc17 := lh (bc16.out.below j8 bc16.out.lt)
 clear hw14 j8 HB16 HO16 bc16
 go_wp2_with fail
 refine (HOF0.out _).mono ?_
 rintro e w18 ⟨rfl, aG⟩
 have hr := rkindI.below (Jaj w17 2) aG
 have HR := lh (rkindI.more hr aG.size)
 have j9 := Ja (Jb w17 (.cells #[.int .i64 2] 3)) aG
 have HB18 := lh (Ja HB17.out j9)
 have HO18 := lh (HO17.out.next j9)
 have bc18 := lh (bc17.out.below j9 bc17.out.lt)
 clear aG hr j9 HB17 HO17 bc17
 go_wp2_with fail
 refine (HNF.out w18 _ HR.out).mono ?_
 rintro e w19 ⟨rfl, aH⟩
 have HB19 := lh (Ja HB18.out aH)
 have HO19 := lh (HO18.out.next aH)
 have bc19 := lh (bc18.out.below aH bc18.out.lt)
 clear aH HR HB18 HO18 bc18 HNF HOF HOF0
 go_upto_region 8 with fail
 have j8 := Jb w19 (.cells #[.bool false, .int .u64 0, .string ⟨#[]⟩, .int .u64 0, .string ⟨#[]⟩, .slice none 0 0, .slice none 0 0, .slice none 0 0] 43)
 generalize hw14 : w19.alloc (.cells #[.bool false, .int .u64 0, .string ⟨#[]⟩, .int .u64 0, .string ⟨#[]⟩, .slice none 0 0, .slice none 0 0, .slice none 0 0] 43) = w20 at *
 have HB20 := lh (Ja HB19.out j8)
 have HO20 := lh (HO19.out.next j8)
 have bc20 := bc19.out.below j8 bc19.out.lt
 have HJN2 := lh (HJN.out w20 AWc cWc gSc gCc HO20.out.read)
 obtain ⟨x0, x1, x2, x3, x4, x5, x6, x7⟩ := bc20.c8
 have HC20 := lh bc20
 clear hw14 j8 HB19 HO19 bc19 HJN bc20
 go_wp2_with fail
 refine HJN2.out.mono ?_
 rintro e w21 ⟨u, rfl, ⟨AWd, cWd, gSd, gCd, Fd, Gd, Hd, rfl, eA⟩, aI⟩
 have HB21 := lh (Ja HB20.out aI)
 have HOd := lh (eA.low (Nat.zero_le _))
 have bc21 := lh (HC20.out.below aI HC20.out.lt)
 have HO21 := lh (HO20.out.next aI)
 clear aI eA HJN2 HB20 HO20 HC20 x0 x1 x2 x3 x4 x5 x6 x7
 go_upto_region 9 with fail
 have bd := Blk.new w21 43 #[.bool (decide (m3.smooth.num < 0)), .int .u64 (lo m3.smooth.num.natAbs : Int), .string (mo m3.smooth.num.natAbs), .int .u64 (lo ((qden m3.smooth)) : Int), .string (mo ((qden m3.smooth))), .slice AWd 2 cWd, .slice (some ⟨gSd, 0, none⟩) 2 2, .slice (some ⟨gCd, 0, none⟩) 2 2]
 have j8 := Jb w21 (.cells #[.bool (decide (m3.smooth.num < 0)), .int .u64 (lo m3.smooth.num.natAbs : Int), .string (mo m3.smooth.num.natAbs), .int .u64 (lo ((qden m3.smooth)) : Int), .string (mo ((qden m3.smooth))), .slice AWd 2 cWd, .slice (some ⟨gSd, 0, none⟩) 2 2, .slice (some ⟨gCd, 0, none⟩) 2 2] 43)
 generalize w21.alloc (.cells #[.bool (decide (m3.smooth.num < 0)), .int .u64 (lo m3.smooth.num.natAbs : Int), .string (mo m3.smooth.num.natAbs), .int .u64 (lo ((qden m3.smooth)) : Int), .string (mo ((qden m3.smooth))), .slice AWd 2 cWd, .slice (some ⟨gSd, 0, none⟩) 2 2, .slice (some ⟨gCd, 0, none⟩) 2 2] 43) = w22 at *
 have HB22 := lh (Ja HB21.out j8)
 have HOe := lh (HOd.out.next j8)
 have bc22 := lh (bc21.out.below j8 bc21.out.lt)
 have HO22 := lh (HO21.out.next j8)
 generalize w21.heap.size = gd at *
 clear j8 HB21 HOd bc21 HO21
 have BD := lh bd
 clear bd
 go_wp2_with fail
 refine (HKN.out _ (HT.out.next HB22.out)).mono ?_
 rintro e w23 ⟨rfl, l7⟩
 have HB23 := lh (Ja HB22.out l7)
 obtain ⟨x0, x1, x2, x3, x4, x5, x6, x7⟩ := (bc22.out.below l7 bc22.out.lt).c8
 obtain ⟨y0, y1, y2, y3, y4, y5, y6, y7⟩ := (BD.out.below l7 BD.out.lt).c8
 have eQ := (HO22.out.next l7).seen.cell HG.out.1
 have eR := (HOe.out.next l7).seen.cell HG.out.2.1
 obtain ⟨g1, k1, g2, k2, z1, z2, z3, -⟩ := (HOe.out.next l7).deep HG.out.2.2.1 HG.out.2.2.2.1 HG.out.2.2.2.2
 unfold zv at eQ eR z3
 have fC : 1 < t.length := (List.getElem?_eq_some_iff.1 HG.out.2.2.2.1).1
 have cC : 2 < y9.length := (List.getElem?_eq_some_iff.1 HG.out.2.2.2.2).1
 generalize t.length = nt1 at *
 generalize y9.length = nc1 at *
 have i1 : (1 : Int) < (nt1 : Int) := by omega
 have i2 : (2 : Int) < (nc1 : Int) := by omega
 clear l7 HKN HB22 bc22 BD HO22 HOe HT
 go_wp2
 go_ret
 exact ⟨rfl, HB23.out⟩
