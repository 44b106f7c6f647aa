import Derived.Test.YtcoloflmigcphaaGreatDoorBayesC
import Derived.Test.YtcoloflmigcphaaGreatDoorHandRows
import Derived.Test.YtcoloflmigcphaaGreatDoorBayesY
namespace Go.Proofs.YtcoloflmigcphaaGreatDoor
set_option maxRecDepth 100000
set_option maxHeartbeats 16000000
open Go.RowKit
set_option linter.all false
theorem Jlf : LenB kn0 := Za Jj0
theorem Jle : LenB kn1 := Za Jjz
theorem Jaj (w : World) (x : Int) : ReadsI (w.alloc (.cells #[.int .i64 x] 3)) (w.alloc (.cells #[.int .i64 x] 3)).heap.size (some ⟨w.heap.size, 0, none⟩) 1 [x] := rkindI.more (Reads.one w (zv x) _) (by show w.heap.size + 1 <= (w.heap.push _).size; rw [Array.size_push]; exact Nat.le_refl _)
theorem Jnm : ∃ (m0 m1 : BM) (a b : Rat), Jdk 2 [2] 1 = (m0, 0) /\ Xg m0 [0] 0 = (m1, 0) /\ Qo m1 [0] = ([a, b], 0) /\ LenB m0 /\ LenB m1 /\ QS 1000 m0.smooth /\ QS 1000 m1.smooth /\ QS 1000 a /\ QS 1000 b /\ a = Rat.divInt 8 11 /\ b = Rat.divInt 3 11 :=
 ⟨kn0, kn1, _, _, Jnl, Jld, Jh6, Jlf, Jle, ⟨Nat.le_of_ble_eq_true (by kernel_rfl), Nat.le_of_ble_eq_true (by kernel_rfl)⟩, ⟨Nat.le_of_ble_eq_true (by kernel_rfl), Nat.le_of_ble_eq_true (by kernel_rfl)⟩, ⟨Nat.le_of_ble_eq_true (by kernel_rfl), Nat.le_of_ble_eq_true (by kernel_rfl)⟩, ⟨Nat.le_of_ble_eq_true (by kernel_rfl), Nat.le_of_ble_eq_true (by kernel_rfl)⟩, by decide +kernel, by decide +kernel⟩
theorem Jgy (w : World) (hT : Tab w) : Calls Tryz.prog 19 #[] w (Ret (.bool true) w) := by
 obtain ⟨m0, m1, a, b, h1, h2, h3, h4, h5, h6, h7, h8, h9, dL, kZ⟩ := Jnm
 have dM := fun w => Vo 1 w (by decide) (by decide)
 obtain ⟨q1, gZ⟩ : ∃ q1 : Rat, ((1 : Int) : Rat) = q1 := ⟨_, rfl⟩
 have fC : (1 : Rat) = q1 := gZ
 rw [fC] at h1
 rw [gZ] at dM
 have bG : QS 1099511627776 q1 := by rw [<- gZ]; exact (QS.cnt (k := 1) (by decide) (by decide) (by decide)).mono (by decide)
 unfold qV at dM
 have HOF := lh dM
 have HNW : Hid (∀ (w : World) (X : Addr), ReadsI w w.heap.size (some X) 1 [2] -> Calls Tryz.prog 15 #[.int .i64 2, .slice (some X) 1 1, .agg #[.bool (decide (q1.num < 0)), .int .u64 (lo q1.num.natAbs : Int), .string (mo q1.num.natAbs), .int .u64 (lo ((qden q1)) : Int), .string (mo ((qden q1)))]] w fun e w' => ∃ u, e = .returned (.tuple #[u, .int .i64 0]) /\ ModB w.heap.size 1 2 2 m0 u w' /\ Below w.heap.size w w') := lh fun w X h => by
  refine (Vp 2 (some X) 1 1 w.heap.size [2] q1 w h zd (by omega) bG).mono ?_
  rintro e w' ⟨v, rfl, hv, hb⟩
  rw [h1] at hv
  rcases hv with ⟨-, u, rfl, hm⟩ | ⟨h0, -⟩
  ·exact ⟨u, rfl, hm, hb⟩
  exact absurd rfl h0
 have HTE : Hid (∀ (w : World) (AW : Option Addr) (cW gS gC : Nat) (X : Addr), RdB w w.heap.size ⟨AW, 1, cW⟩ ⟨some ⟨gS, 0, none⟩, 2, 2⟩ ⟨some ⟨gC, 0, none⟩, 2, 2⟩ m0 -> ReadsI w w.heap.size (some X) 1 [0] -> Calls Tryz.prog 29 #[.agg #[.bool (decide (m0.smooth.num < 0)), .int .u64 (lo m0.smooth.num.natAbs : Int), .string (mo m0.smooth.num.natAbs), .int .u64 (lo ((qden m0.smooth)) : Int), .string (mo ((qden m0.smooth))), .slice AW 1 cW, .slice (some ⟨gS, 0, none⟩) 2 2, .slice (some ⟨gC, 0, none⟩) 2 2], .slice (some X) 1 1, .int .i64 0] w fun e w' => ∃ u, e = .returned (.tuple #[u, .int .i64 0]) /\ ModB w.heap.size 1 2 2 m1 u w' /\ Below w.heap.size w w') := lh fun w AW cW gS gC X h h' => by
  refine (Jb3 AW (some ⟨gS, 0, none⟩) (some ⟨gC, 0, none⟩) 1 cW 2 2 2 2 w.heap.size m0 (some X) 1 1 [0] 0 w h h' zd h4 (by omega) (h6.mono (by omega))).mono ?_
  rintro e w' ⟨v, rfl, hv, hb⟩
  rw [h2] at hv
  rcases hv with ⟨-, u, rfl, hm⟩ | ⟨h0, -⟩
  ·exact ⟨u, rfl, hm, hb⟩
  exact absurd rfl h0
 have HCH : Hid (∀ (w : World) (AW : Option Addr) (cW gS gC : Nat) (X : Addr), RdB w w.heap.size ⟨AW, 1, cW⟩ ⟨some ⟨gS, 0, none⟩, 2, 2⟩ ⟨some ⟨gC, 0, none⟩, 2, 2⟩ m1 -> ReadsI w w.heap.size (some X) 1 [0] -> Tab w -> Calls Tryz.prog 24 #[.agg #[.bool (decide (m1.smooth.num < 0)), .int .u64 (lo m1.smooth.num.natAbs : Int), .string (mo m1.smooth.num.natAbs), .int .u64 (lo ((qden m1.smooth)) : Int), .string (mo ((qden m1.smooth))), .slice AW 1 cW, .slice (some ⟨gS, 0, none⟩) 2 2, .slice (some ⟨gC, 0, none⟩) 2 2], .slice (some X) 1 1] w fun e w' => ∃ g, e = .returned (.tuple #[.slice (some ⟨g, 0, none⟩) 2 2, .int .i64 0]) /\ AtQ w' g 0 a /\ AtQ w' g 5 b /\ g < w'.heap.size /\ Below w.heap.size w w') := lh fun w AW cW gS gC X h h' hT => by
  refine (Vu AW (some ⟨gS, 0, none⟩) (some ⟨gC, 0, none⟩) 1 cW 2 2 2 2 w.heap.size m1 (some X) 1 1 [0] w h h' zd h5 (by omega) h7 hT).mono ?_
  rintro e w' ⟨v, rfl, hv, hb⟩
  rw [h3] at hv
  rcases hv with ⟨-, g, rfl, hg, ho⟩ | ⟨h0, -⟩
  ·have e0 := OwnQ.at_ ho (k := 0) rfl
   have e1 := OwnQ.at_ ho (k := 1) rfl
   exact ⟨g, rfl, e0, e1, Xw e0.c5.1, hb⟩
  exact absurd rfl h0
 have iX := fun w => Ji4 a 8 11 w (by omega) (by omega) (by omega) (by omega) (by omega) dL (h8.mono (by omega))
 have iY := fun w => Ji4 b 3 11 w (by omega) (by omega) (by omega) (by omega) (by omega) kZ (h9.mono (by omega))
 unfold qV at iX iY
 have HI1 := lh iX
 have HI2 := lh iY
 have HT := lh hT
 clear iX iY hT dM h1 h2 h3 h4 h5 h6 h7 h8 h9 dL kZ gZ fC bG
 go_enter Tryz.func19, Tryz.ntmps19
 go_wp2_with fail
 refine (HOF.out _).mono ?_
 rintro e w1 ⟨rfl, bC⟩
 have hr := rkindI.below (Jaj w 2) bC
 have HR := lh (rkindI.more hr bC.size)
 have HB1 := lh (Ja (Jb w (.cells #[.int .i64 2] 3)) bC)
 clear bC hr
 go_wp2_with fail
 refine (HNW.out w1 _ HR.out).mono ?_
 rintro e w2 ⟨u, rfl, ⟨AW, cW, gS, gC, F, G, H, rfl, ho⟩, aF⟩
 have HB2 := lh (Ja HB1.out aF)
 have HO := lh ho
 clear aF ho HR HB1 HNW HOF
 go_upto_region 2 with fail
 have b0 := Blk.new w2 43 #[.bool (decide (m0.smooth.num < 0)), .int .u64 (lo m0.smooth.num.natAbs : Int), .string (mo m0.smooth.num.natAbs), .int .u64 (lo ((qden m0.smooth)) : Int), .string (mo ((qden m0.smooth))), .slice AW 1 cW, .slice (some ⟨gS, 0, none⟩) 2 2, .slice (some ⟨gC, 0, none⟩) 2 2]
 have eM := Jb w2 (.cells #[.bool (decide (m0.smooth.num < 0)), .int .u64 (lo m0.smooth.num.natAbs : Int), .string (mo m0.smooth.num.natAbs), .int .u64 (lo ((qden m0.smooth)) : Int), .string (mo ((qden m0.smooth))), .slice AW 1 cW, .slice (some ⟨gS, 0, none⟩) 2 2, .slice (some ⟨gC, 0, none⟩) 2 2] 43)
 generalize w2.alloc (.cells #[.bool (decide (m0.smooth.num < 0)), .int .u64 (lo m0.smooth.num.natAbs : Int), .string (mo m0.smooth.num.natAbs), .int .u64 (lo ((qden m0.smooth)) : Int), .string (mo ((qden m0.smooth))), .slice AW 1 cW, .slice (some ⟨gS, 0, none⟩) 2 2, .slice (some ⟨gC, 0, none⟩) 2 2] 43) = w3 at *
 have bD : w.heap.size <= w2.heap.size := HB2.out.size
 have lA := HO.out.next eM
 have HB3 := lh (Ja HB2.out eM)
 generalize w2.heap.size = g at *
 have hr := Jaj w3 0
 have bH := Jb w3 (.cells #[.int .i64 0] 3)
 have bQ := (lA.next bH).read
 have b4 := b0.below bH b0.lt
 have HTE2 := lh (HTE.out _ AW cW gS gC _ bQ hr)
 have HB4 := lh (Ja HB3.out bH)
 have hJ := b4.lt
 obtain ⟨x0, x1, x2, x3, x4, x5, x6, x7⟩ := b0.c8
 have B4 := lh (And.intro b4 hJ)
 clear lA eM hr bH bQ HTE HO HB2 HB3 b4 hJ b0
 go_wp2_with fail
 refine HTE2.out.mono ?_
 rintro e w5 ⟨u, rfl, ⟨AW5, cW5, gS5, gC5, F5, G5, H5, rfl, fD⟩, j7⟩
 have HB5 := lh (Ja HB4.out j7)
 have B5 := lh (B4.out.1.below j7 B4.out.2)
 have HN5 := lh (show ¬ F5 g /\ ¬ G5 g /\ ¬ H5 g from ⟨fun e => by have := fD.from1 _ e; have := B4.out.2; omega, fun e => by have := fD.from2 _ e; have := B4.out.2; omega, fun e => by have := fD.from3 _ e; have := B4.out.2; omega⟩)
 have HO5 := lh fD
 clear j7 fD HTE2 HB4 B4 x0 x1 x2 x3 x4 x5 x6 x7
 go_wp2_with (refine Jr rfl _ (.tmp 1) (.tmp 16) rfl g #[.bool (decide (m1.smooth.num < 0)), .int .u64 (lo m1.smooth.num.natAbs : Int), .string (mo m1.smooth.num.natAbs), .int .u64 (lo ((qden m1.smooth)) : Int), .string (mo ((qden m1.smooth))), .slice AW5 1 cW5, .slice (some ⟨gS5, 0, none⟩) 2 2, .slice (some ⟨gC5, 0, none⟩) 2 2] _ rfl rfl _ B5.out (by kernel_rfl) rfl (by simp [Value.oneCell']) ?_; intro w7 aR fE; have HX7 := lh fE; have B7 := lh aR; obtain ⟨x0, x1, x2, x3, x4, x5, x6, x7⟩ := aR.c8; clear aR fE)
 have bR := HO5.out.exc HX7.out HN5.out.1 HN5.out.2.1 HN5.out.2.2
 have HB7 := lh (HB5.out.trans (HX7.out.below HB5.out.size bD))
 have hr := Jaj w7 0
 have cG := Jb w7 (.cells #[.int .i64 0] 3)
 have bQ := (bR.next cG).read
 have HB8 := lh (Ja HB7.out cG)
 have HCH2 := lh (HCH.out _ AW5 cW5 gS5 gC5 _ bQ hr (HT.out.next HB8.out))
 clear bR hr cG bQ HCH HB7 HB5 HN5 HX7 B5 B7 HO5
 refine HCH2.out.mono ?_
 rintro e w9 ⟨g9, rfl, d0, d1, hJ, aS⟩
 have HB9 := lh (Ja HB8.out aS)
 clear HCH2 aS HB8 x0 x1 x2 x3 x4 x5 x6 x7
 obtain ⟨x0, x1, x2, x3, x4⟩ := d0.c5
 obtain ⟨y0, y1, y2, y3, y4⟩ := d1.c5
 go_wp2_with fail
 refine (HI1.out _).mono ?_
 rintro e wa ⟨rfl, iZ⟩
 have d1 := d1.below iZ hJ
 have HBA := lh (Ja HB9.out iZ)
 clear iZ x0 x1 x2 x3 x4 y0 y1 y2 y3 y4 HI1 HB9 d0
 obtain ⟨y0, y1, y2, y3, y4⟩ := d1.c5
 go_wp2_with fail
 refine (HI2.out _).mono ?_
 rintro e wb ⟨rfl, jA⟩
 have HBB := lh (Ja HBA.out jA)
 clear jA y0 y1 y2 y3 y4 HI2 HBA d1
 go_wp2
 go_ret
 exact ⟨rfl, HBB.out⟩
def RdX (g : Nat) (m : BM) (W S C : SW) (w : World) : Prop := ∀ w', Exc g w w' -> RdB w' w'.heap.size W S C m
theorem OwB.rdx {e T T2 : TypeId} {L g : Nat} {w : World} {W S C : SW} {F G H : Nat -> Prop} {m : BM} (h : OwB e T T2 L w W S C F G H m) (hg : g < L) : RdX g m W S C w := fun w' hx =>
 (h.exc hx (fun e => by have := h.from1 _ e; omega) (fun e => by have := h.from2 _ e; omega) (fun e => by have := h.from3 _ e; omega)).read
theorem Jui {w : World} {B n c : Nat} {A : Option Addr} {l : List Int} (h : ReadsI w B A n l) (hn : 1 <= n) (hc : n <= c) : ReadsI w B (Jg4 A c 1 1) (n - 1) (l.drop 1) := by
 have h1 := Reads.cut h hn hc
 show Reads _ _ _ _ _ ((l.drop 1).map zv)
 rw [List.map_drop]
 simpa [Jg4] using h1
theorem Juh {β : Type} {R : World -> Nat -> Option Addr -> Nat -> β -> Prop} {w : World} {B n c : Nat} {A : Option Addr} {l : List β} (h : ReadsS R w B A n l) (hn : 1 <= n) (hc : n <= c) : ReadsS R w B (Jg4 A c 1 1) (n - 1) (l.drop 1) := by
 obtain ⟨rl, h1, h2, h3⟩ := h
 refine ⟨rl.drop 1, ?_, by simp [h2], fun i r b hr hb => ?_⟩
 ·have h4 := Reads.cut h1 hn hc
  rw [List.map_drop]
  simpa [Jg4] using h4
 rw [List.getElem?_drop] at hr hb
 exact h3 _ r b hr hb
theorem RdX.seen1 {g : Nat} {m : BM} {W C : SW} {A : Option Addr} {n c : Nat} {w : World} (h : RdX g m W ⟨A, n, c⟩ C w) (hn : 1 <= n) (hc : n <= c) : RdX g { m with seen := m.seen.drop 1 } W ⟨Jg4 A c 1 1, n - 1, c - 1⟩ C w := fun w' hx =>
 ⟨(h w' hx).words, Jui (h w' hx).seen hn hc, (h w' hx).counts⟩
theorem OwB.rdxTab {e T T2 : TypeId} {L g' : Nat} {w : World} {W S : SW} {F G H : Nat -> Prop} {m : BM} {g n c k : Nat} {t : List (List Int)} (h : OwB e T T2 L w W S ⟨some ⟨g, 0, none⟩, n, c⟩ F G H m) (hg : g' < L) (ht : m.counts[k]? = some t) (h1 : 1 <= t.length) :
  ∃ A c1, w.cell? ⟨g, k, none⟩ = some (.slice A t.length c1) /\ t.length <= c1 /\ w.frozen? ⟨g, k, none⟩ = false /\ L <= g /\ H g /\
   RdX g' { m with counts := m.counts.set k (t.drop 1) } W S ⟨some ⟨g, 0, none⟩, n, c⟩ (w.setCell ⟨g, k, none⟩ (.slice (Jg4 A c1 1 1) (t.length - 1) (c1 - 1))) := by
 have hr := Js e zv
 have jB := Xt hr T
 have hH : H g := h.tabs
 obtain ⟨A, k0, c1, F', q1, q2, q3, q4, -⟩ := h.counts.at_ jB ht
 obtain ⟨A2, c2, hf⟩ := q2.form
 injection hf with e1 e2 e3
 subst e2 e3
 have fF : t.length <= c1 := by
  obtain ⟨rl, F1, r1, r2, -⟩ := q2
  obtain ⟨A0, c0, e0, r3, -⟩ := Own.form r1
  injection e0 with e1 e2 e3
  omega
 refine ⟨A, c1, q1, fF, h.counts.frozen k, h.from3 g hH, hH, fun w' hx => ?_⟩
 have aC : Exc g w (w.setCell ⟨g, k, none⟩ (.slice (Jg4 A c1 1 1) (t.length - 1) (c1 - 1))) := (Exc.refl g w).set_ k _
 obtain ⟨o1, o2, o3⟩ := h.old
 have hs := nt aC.size hx.size
 have far : ∀ x, x < w.heap.size -> L <= x -> x ≠ g -> w'.heap[x]? = w.heap[x]? := fun x o9 hL mX => (hx.block x (Nat.lt_of_lt_of_le o9 aC.size) (by omega)).trans (aC.block x o9 mX)
 have hw := hr.loc h.words hs fun x o9 => far x (o1 x o9) (h.from1 x o9) fun e => h.ap13 x o9 (by rw [e]; exact hH)
 have mY := hr.loc h.seen hs fun x o9 => far x (o2 x o9) (h.from2 x o9) fun e => h.ap23 x o9 (by rw [e]; exact hH)
 refine ⟨hw.readsI, mY.readsI, ?_⟩
 have mZ := jB.loc q2 hs fun x o9 => far x (o3 x (q3 x o9).1) (h.from3 x (q3 x o9).1) (q3 x o9).2
 obtain ⟨rl, F1, r1, r2, r3, r4, r5, r6, r7⟩ := h.counts
 have eN : k < rl.length := by rw [r2]; exact (List.getElem?_eq_some_iff.1 ht).1
 have hn : n = rl.length := by
  obtain ⟨A', c', h4, _, _⟩ := Own.form r1
  injection h4
 subst hn
 have fG := World.ownsRow.stored r1 k (.slice (Jg4 A c1 1 1) (t.length - 1) (c1 - 1))
 have jC : Own (w.setCell ⟨g, k, none⟩ (.slice (Jg4 A c1 1 1) (t.length - 1) (c1 - 1))) T2 SW.v (.slice (some ⟨g, 0, none⟩) rl.length c) (rl.set k ⟨Jg4 A c1 1 1, t.length - 1, c1 - 1⟩) := by
  unfold Own
  rw [List.length_set, List.map_set]
  exact fG.1
 have fH := jC.loc (w' := w') fun x o9 => by
  have e1 : g = x := by simpa [Value.ownBlock] using o9
  subst e1
  exact hx.block g (Nat.lt_of_lt_of_le (o3 g hH) aC.size) (by have := h.from3 g hH; omega)
 have bQ := Own.reads fH
 rw [List.length_set] at bQ
 refine ⟨_, bQ, by simp [r2], fun i r b nA hb => ?_⟩
 rcases getElem?_set_cases nA with ⟨e1, e2⟩ | ⟨hj, fI⟩
 ·subst e1 e2
  have eb : b = t.drop 1 := by
   rw [List.getElem?_set, if_pos rfl] at hb
   split at hb
   ·exact (Option.some.inj hb).symm
   cases hb
  subst eb
  exact Juh (Nest.reads (fun hq => NRow.readsI hq) mZ) h1 fF
 rw [List.getElem?_set, if_neg (fun e => hj e.symm)] at hb
 have jD := (List.getElem?_eq_some_iff.1 fI).1
 have hm := jB.loc (r3 i r b fI hb) hs fun x o9 => far x (o3 x (r4 i jD x o9).1) (h.from3 x (r4 i jD x o9).1) fun e => (r4 i jD x o9).2 (by rw [e]; rfl)
 exact Nest.reads (fun hq => NRow.readsI hq) hm
def DocQ (m : BM) (v : Value) (w : World) : Prop := ∃ (ng : Bool) (A7 A8 : Option Addr) (l7 d7 l8 d8 : Nat) (W S C : SW), v = .agg #[.bool ng, .slice A7 l7 d7, .slice A8 l8 d8, W.v, S.v, C.v] /\ IsQ w w.heap.size (.agg #[.bool ng, .slice A7 l7 d7, .slice A8 l8 d8]) m.smooth /\ RdB w w.heap.size W S C m
def Joq (cols : Int) (k : Nat) : List Int := (List.range k).map fun (c : Nat) => (cols.tdiv 3 + (c : Int)) % 3 + 1
theorem Jpg (cols : Int) (k : Nat) : Joq cols (k + 1) = Joq cols k ++ [(cols.tdiv 3 + (k : Int)) % 3 + 1] := by
 unfold Joq
 rw [List.range_succ, List.map_append]
 rfl
theorem Jow (cols : Int) (k : Nat) : (Joq cols k).length = k := by simp [Joq]
theorem Jph {x : Int} (h : -9223372036854775808 <= x /\ x <= 9223372036854775807) : (-4611686018427387904 <= x.tdiv 3 /\ x.tdiv 3 <= 4611686018427387904) /\ -4611686018427387904 <= x.tdiv 4 /\ x.tdiv 4 <= 4611686018427387904 := by
 rcases Int.le_total 0 x with h0 | h0
 ·rw [Int.tdiv_eq_ediv_of_nonneg h0, Int.tdiv_eq_ediv_of_nonneg h0]
  omega
 have e : x.tdiv 4 = -((-x).tdiv 4) := by rw [Int.neg_tdiv]; omega
 have e' : x.tdiv 3 = -((-x).tdiv 3) := by rw [Int.neg_tdiv]; omega
 rw [e, e', Int.tdiv_eq_ediv_of_nonneg (by omega), Int.tdiv_eq_ediv_of_nonneg (by omega)]
 omega
theorem Jpk {f : Nat} {m : BM} {l : List Int} {i : Nat} (h : ¬ (i + m.words.length < l.length /\ i < 24)) : Jop f m l i = m := by
 cases f with
 | zero => rfl
 | succ f => unfold Jop; rw [if_neg h]
theorem Jpl {f n : Nat} {m : BM} {l : List Int} {i : Nat} (hd : DrawnB m n) (hn : n < 1073741824) (h : i + m.words.length < l.length /\ i < 24) (hf : 24 <= f + i) :
  ∃ (f' : Nat), f = f' + 1 /\ Xg m (Jkx (l.drop (i + 1)) m.words) (l.getD i 0 % (m.seen.length : Int)) = (Jn m (Jkx (l.drop (i + 1)) m.words) (l.getD i 0 % (m.seen.length : Int)).toNat 1, 0) /\ DrawnB (Jn m (Jkx (l.drop (i + 1)) m.words) (l.getD i 0 % (m.seen.length : Int)).toNat 1) (n + 1) /\ Jop f m l i = Jop f' (Jn m (Jkx (l.drop (i + 1)) m.words) (l.getD i 0 % (m.seen.length : Int)).toNat 1) l (i + m.words.length + 1) := by
 obtain ⟨h1, h2⟩ := hd.moved (hd.rowOk (l.drop (i + 1))) (hd.class_ (l.getD i 0)) hn
 obtain ⟨f', rfl⟩ : ∃ f', f = f' + 1 := ⟨f - 1, by omega⟩
 refine ⟨f', rfl, h1, h2, ?_⟩
 rw [Jop, if_pos h, h1, if_pos rfl]
def DrS (L : Nat) (g : Nat) (x0 x1 x2 : Value) (m : BM) (w : World) : Prop := ∃ (W S C : SW) (F G H : Nat -> Prop), Blk w g 31 #[x0, x1, x2, W.v, S.v, C.v] /\ OwB 3 22 65 L w W S C F G H m /\ (¬ F g /\ ¬ G g /\ ¬ H g)
def DrI (ws : List Int) (q : Rat) (l : List Int) (M0 : BM) (L g : Nat) (x0 x1 x2 : Value) (w5 : World) (i : Nat) (w : World) : Prop := ∃ (f nT : Nat) (mm : BM), i <= 40 /\ 24 <= f + i /\ Jop f mm l i = M0 /\ DrawnB mm nT /\ nT <= i /\ mm.words = ws /\ mm.smooth = q /\ DrS L g x0 x1 x2 mm w /\ Below L w5 w
def Jpi (m : BM) (y : Int) (k c : Nat) (b : Int) : BM :=
 if y = 0 then { m with seen := m.seen.set k b }
 else if y = 1 then { m with counts := m.counts.set k ((m.counts.getD k []).set c (((m.counts.getD k []).getD c []).set 0 b)) }
 else if y = 2 then { m with smooth := (b : Rat) }
 else if y = 3 then { m with words := m.words.set c b }
 else if y = 4 then { m with counts := m.counts.set k ((m.counts.getD k []).drop 1) }
 else if y = 5 then { m with seen := m.seen.drop 1 }
 else if y = 6 then { m with seen := m.seen.set k 1073741824 }
 else m
theorem Jpo (m : BM) (way at_ by_ : Int) : Jo6 m way at_ by_ = Jpi m (way % 14) (at_ % (m.seen.length : Int)).toNat ((at_.tdiv 3) % (m.words.length : Int)).toNat (by_ % 9 - 2) := rfl
theorem Jo2 {m : BM} {y : Int} {k c : Nat} {b : Int} (h : ¬ (y = 0 \/ y = 1 \/ y = 2 \/ y = 3 \/ y = 4 \/ y = 5 \/ y = 6)) : Jpi m y k c b = m := by
 unfold Jpi
 rw [if_neg (by omega), if_neg (by omega), if_neg (by omega), if_neg (by omega), if_neg (by omega), if_neg (by omega), if_neg (by omega)]
def DrQ (g g' : Nat) (m : BM) (w : World) : Prop := ∃ (ng : Bool) (A7 A8 : Option Addr) (l7 d7 l8 d8 : Nat) (W S C : SW), Blk w g 31 #[.bool ng, .slice A7 l7 d7, .slice A8 l8 d8, W.v, S.v, C.v] /\ ∀ w', Exc g' w w' -> IsQ w' w'.heap.size (.agg #[.bool ng, .slice A7 l7 d7, .slice A8 l8 d8]) m.smooth /\ RdB w' w'.heap.size W S C m
theorem Jq1 {a : Bool} {A1 A2 A3 A4 A5 : Option Addr} {l1 c1 l2 c2 l3 c3 l4 c4 l5 c5 : Nat} : ∀ i x : Nat, (#[Value.bool a, .slice A1 l1 c1, .slice A2 l2 c2, .slice A3 l3 c3, .slice A4 l4 c4, .slice A5 l5 c5])[i]? ≠ some (Ju x) := by
 intro i x h
 match i with
 | 0 => simp [Ju] at h
 | 1 => simp [Ju] at h
 | 2 => simp [Ju] at h
 | 3 => simp [Ju] at h
 | 4 => simp [Ju] at h
 | 5 => simp [Ju] at h
 | n + 6 => simp at h
def DrF (ws : List Int) (q : Rat) (M0 : BM) (L g : Nat) (x0 x1 x2 : Value) (w5 : World) (w : World) : Prop := ∃ nT : Nat, nT <= 40 /\ DrawnB M0 nT /\ M0.words = ws /\ M0.smooth = q /\ DrS L g x0 x1 x2 M0 w /\ Below L w5 w
def DrM (L : Nat) (x0 x1 x2 xw : Value) (m : BM) (u : Value) (w : World) (X : Nat -> Prop) : Prop := ∃ (S C : SW) (G H : Nat -> Prop), u = .agg #[x0, x1, x2, xw, S.v, C.v] /\ NRow 3 zv w G S.v m.seen /\ Nest 65 (Nest 22 (NRow 3 zv)) w H C.v m.counts /\ (∀ k, G k -> L <= k /\ ¬ H k) /\ (∀ k, H k -> L <= k) /\ ∀ g, X g -> ¬ G g /\ ¬ H g
theorem DrM.next {L : Nat} {x0 x1 x2 xw u : Value} {m : BM} {w w' : World} {X Y : Nat -> Prop} (h : DrM L x0 x1 x2 xw m u w X) (hb : Below w.heap.size w w') (hY : ∀ g, Y g -> X g \/ w.heap.size <= g) : DrM L x0 x1 x2 xw m u w' Y := by
 obtain ⟨S, C, G, H, e, hs, hc, h1, h2, h3⟩ := h
 have hr := Js 3 zv
 refine ⟨S, C, G, H, e, hr.loc hs hb.size fun k hk => hb.block k (hr.lt hs hk), hc.next (Xt hr _) hb, h1, h2, fun g hg => ?_⟩
 rcases hY g hg with h | h
 ·exact h3 g h
 exact ⟨fun e => by have := hr.lt hs e; omega, fun e => by have := hc.lt (Xt hr _) e; omega⟩
theorem DrM.exc {L g : Nat} {x0 x1 x2 xw u : Value} {m : BM} {w w' : World} {X : Nat -> Prop} (h : DrM L x0 x1 x2 xw m u w X) (hx : Exc g w w') (hg : X g) : DrM L x0 x1 x2 xw m u w' X := by
 obtain ⟨S, C, G, H, e, hs, hc, h1, h2, h3⟩ := h
 have hr := Js 3 zv
 exact ⟨S, C, G, H, e, hr.loc hs hx.size fun k hk => hx.block k (hr.lt hs hk) fun e => (h3 g hg).1 (by rw [<- e]; exact hk), hc.loc (Xt hr _) hx.size fun k hk => hx.block k (hc.lt (Xt hr _) hk) fun e => (h3 g hg).2 (by rw [<- e]; exact hk), h1, h2, h3⟩
structure DrR (W : World) (x0 x1 x2 xw : Value) (n1 : Nat) (row : List Int) (m : BM) (FX : Nat -> Option Value) (d : Nat -> Bool) (val : Nat -> Value) (w : World) : Prop where
 bel : Below W.heap.size W w
 fx : Fixed FX d val
 v6 : d 6 = true -> ∃ A c, val 6 = .slice A n1 c /\ (d 15 = false -> ReadsI w w.heap.size A n1 row)
 v15 : d 15 = true -> ∃ c0 c1 c2 c3 c4 c5, val 15 = .tuple #[.agg #[c0, c1, c2, c3, c4, c5], .int .i64 0] /\ (#[c0, c1, c2, c3, c4, c5].all (·.oneCell') = true) /\ DrM W.heap.size x0 x1 x2 xw m (.agg #[c0, c1, c2, c3, c4, c5]) w fun g => d 19 = true /\ val 19 = .pointer (some ⟨g, 0, none⟩)
 v16 : d 16 = true -> d 15 = true /\ val 16 = val 15
 v17 : d 17 = true -> d 15 = true /\ ∀ u y, val 15 = .tuple #[u, y] -> val 17 = u
 v18 : d 18 = true -> d 15 = true /\ ∀ u y, val 15 = .tuple #[u, y] -> val 18 = y
 v19 : d 19 = true -> ∃ g y0 y1 y2 y3 y4 y5, val 19 = .pointer (some ⟨g, 0, none⟩) /\ W.heap.size <= g /\ Blk w g 31 #[y0, y1, y2, y3, y4, y5] /\ (d 20 = true -> d 17 = true /\ val 17 = .agg #[y0, y1, y2, y3, y4, y5])
 v20 : d 20 = true -> d 19 = true
 v21 : d 21 = true -> d 18 = true /\ val 21 = val 18
theorem DrR.next {W w w' : World} {x0 x1 x2 xw : Value} {n1 : Nat} {row : List Int} {m : BM} {FX : Nat -> Option Value} {d : Nat -> Bool} {val : Nat -> Value} (h : DrR W x0 x1 x2 xw n1 row m FX d val w) (hb : Below w.heap.size w w') : DrR W x0 x1 x2 xw n1 row m FX d val w' where
 bel := h.bel.trans (hb.mono h.bel.size)
 fx := h.fx
 v6 := fun h1 => (h.v6 h1).imp fun A h2 => h2.imp fun c h3 => ⟨h3.1, fun h4 => rkindI.more (rkindI.below (h3.2 h4) hb) hb.size⟩
 v15 := fun h1 => by
  obtain ⟨c0, c1, c2, c3, c4, c5, e, ho, hm⟩ := h.v15 h1
  exact ⟨c0, c1, c2, c3, c4, c5, e, ho, hm.next hb fun g hg => .inl hg⟩
 v16 := h.v16
 v17 := h.v17
 v18 := h.v18
 v19 := fun h1 => by
  obtain ⟨g, y0, y1, y2, y3, y4, y5, e, hg, hk, h2⟩ := h.v19 h1
  exact ⟨g, y0, y1, y2, y3, y4, y5, e, hg, hk.below hb hk.lt, h2⟩
 v20 := h.v20
 v21 := h.v21
theorem Jq6 {a b u y : Value} (h : #[a, b] = #[u, y]) : a = u /\ b = y := by simpa using h
theorem Jps {g g' : Nat} (h : Value.pointer (some ⟨g, 0, none⟩) = .pointer (some ⟨g', 0, none⟩)) : g = g' := by
 injection h with h
 injection h with h
 injection h with h
def DrC (L : Nat) (x0 x1 x2 xw : Value) (m : BM) (W : World) (v v20 : Value) (w : World) : Prop := ∃ (g : Nat) (S C : SW) (G H : Nat -> Prop), v = .pointer (some ⟨g, 0, none⟩) /\ v20 = .int .i64 0 /\ Blk w g 31 #[x0, x1, x2, xw, S.v, C.v] /\ NRow 3 zv w G S.v m.seen /\ Nest 65 (Nest 22 (NRow 3 zv)) w H C.v m.counts /\ (∀ k, G k -> L <= k /\ ¬ H k) /\ (∀ k, H k -> L <= k) /\ Below W.heap.size W w
theorem DrR.end_ {W w : World} {x0 x1 x2 xw : Value} {n1 : Nat} {row : List Int} {m : BM} {FX : Nat -> Option Value} {d : Nat -> Bool} {val : Nat -> Value} (hF : DrR W x0 x1 x2 xw n1 row m FX d val w) (hd : ∀ i, i < 22 -> d i = true) : DrC W.heap.size x0 x1 x2 xw m W (val 19) (val 21) w := by
 obtain ⟨c0, c1, c2, c3, c4, c5, e15, -, S, C, G, H, e0, hs, hc, h1, h2, -⟩ := hF.v15 (hd 15 (by decide))
 obtain ⟨g, y0, y1, y2, y3, y4, y5, e19, hg, hk, nB⟩ := hF.v19 (hd 19 (by decide))
 have e8 := ((nB (hd 20 (by decide))).2.symm.trans ((hF.v17 (hd 17 (by decide))).2 _ _ e15)).trans e0
 injection e8 with e8
 rw [e8] at hk
 exact ⟨g, S, C, G, H, e19, (hF.v21 (hd 21 (by decide))).2.trans ((hF.v18 (hd 18 (by decide))).2 _ _ e15), hk, hs, hc, h1, h2, hF.bel⟩
theorem Jqh {L : Nat} {x0 x1 x2 xw : Value} {m : BM} {v : Value} {w : World} (h : Jq7 L x0 x1 x2 xw (m, 0) v w) : ∃ u, v = .tuple #[u, .int .i64 0] /\ Jq3 L x0 x1 x2 xw m u w := by
 rcases h with ⟨-, u, rfl, hm⟩ | ⟨h0, -⟩
 ·exact ⟨u, rfl, hm⟩
 exact absurd rfl h0
theorem DrQ.of {g g' : Nat} {m : BM} {ng : Bool} {A7 A8 : Option Addr} {l7 d7 l8 d8 : Nat} {W S C : SW} {w : World} (bk : Blk w g 31 #[.bool ng, .slice A7 l7 d7, .slice A8 l8 d8, W.v, S.v, C.v]) (hq : ∀ w', Exc g' w w' -> IsQ w' w'.heap.size (.agg #[.bool ng, .slice A7 l7 d7, .slice A8 l8 d8]) m.smooth) (hx : RdX g' m W S C w) : DrQ g g' m w :=
 ⟨ng, A7, A8, l7, d7, l8, d8, W, S, C, bk, fun w' h => ⟨hq w' h, hx w' h⟩⟩
theorem OwB.newWords {e T T2 : TypeId} {L : Nat} {w w' : World} {W W' S C : SW} {F G H : Nat -> Prop} {m : BM} {ws : List Int} (h : OwB e T T2 L w W S C F G H m) (hb : Below w.heap.size w w') (hL : L <= w.heap.size) (ho : Own w' e zv W'.v ws) (hf : ∀ b, W'.v.ownBlock = some b -> w.heap.size <= b) : OwB e T T2 L w' W' S C (fun k => W'.v.ownBlock = some k) G H { m with words := ws } := by
 obtain ⟨o1, o2, o3⟩ := h.old
 have h2 := h.next hb
 exact ⟨NRow.of ho, h2.seen, h2.counts, fun k hk => nt hL (hf k hk), h.from2, h.from3, fun k hk iA => by have := hf k hk; have := o2 k iA; omega, fun k hk iA => by have := hf k hk; have := o3 k iA; omega, h.ap23⟩
theorem OwB.setWordsD {e T T2 : TypeId} {L : Nat} {w : World} {S C : SW} {F G H : Nat -> Prop} {m : BM} {g n c : Nat} (h : OwB e T T2 L w ⟨some ⟨g, 0, none⟩, n, c⟩ S C F G H m) (k : Nat) (y : Int) : OwB e T T2 L (w.setCell ⟨g, k, none⟩ (zv y)) ⟨some ⟨g, 0, none⟩, n, c⟩ S C F G H { m with words := m.words.set k y } := by
 have hF : F g := (h.words.2 g).2 rfl
 have aC : Exc g w (w.setCell ⟨g, k, none⟩ (zv y)) := (Exc.refl g w).set_ k _
 exact ⟨NRow.store h.words k y, (Js e zv).loc h.seen aC.size fun z hz => aC.block z ((Js e zv).lt h.seen hz) fun e => h.ap12 g hF (by rw [<- e]; exact hz),
  h.counts.loc (Xt (Js _ zv) T) aC.size fun z hz => aC.block z (h.counts.lt (Xt (Js _ zv) T) hz) fun e => h.ap13 g hF (by rw [<- e]; exact hz), h.from1, h.from2, h.from3, h.ap12, h.ap13, h.ap23⟩
theorem Jpt (A : Option Addr) (n c : Nat) (l : List Int) (classes cols smooth way at_ by_ : Int) (B : Nat) (w : World) (h : ReadsI w B A n l) (hB : B <= w.heap.size) (iB : n <= c) (hc : c <= 9223372036854775807) (hl : ∀ x ∈ l, -9223372036854775808 <= x /\ x <= 9223372036854775807)
  (i1 : -9223372036854775808 <= classes /\ classes <= 9223372036854775807) (i2 : -9223372036854775808 <= cols /\ cols <= 9223372036854775807) (i3 : -9223372036854775808 <= smooth /\ smooth <= 9223372036854775807) (i4 : -9223372036854775808 <= way /\ way <= 9223372036854775807) (i5 : -9223372036854775808 <= at_ /\ at_ <= 9223372036854775807) (i6 : -9223372036854775808 <= by_ /\ by_ <= 9223372036854775807) :
  Calls Tryz.prog 12 #[.slice A n c, .int .i64 classes, .int .i64 cols, .int .i64 smooth, .int .i64 way, .int .i64 at_, .int .i64 by_] w fun e w' => ∃ v, e = .returned v /\ DocQ (Jo6 (Jov l classes cols smooth) way at_ by_) v w' /\ Below w.heap.size w w' := by
 have fJ : l.length = n := h.len
 have jE : ∀ (M : Nat), 1 <= M -> M <= 1000 -> ∀ (y : Int) (w' : World), -9223372036854775808 <= y -> y <= 9223372036854775807 -> Calls Tryz.prog 13 #[.int .i64 y, .int .i64 (M : Int)] w' fun e w'' => e = .returned (.int .i64 (y % (M : Int))) /\ w' = w'' := fun M h1 h2 y w' h3 h4 => Jpd y M w' h3 h4 h1 (by omega)
 have HPK := lh jE
 obtain ⟨N, hN⟩ : ∃ N : Nat, cols % 3 + 1 = (N : Int) := ⟨(cols % 3 + 1).toNat, by omega⟩
 have pH : 1 <= N /\ N <= 3 := by omega
 obtain ⟨NC, lB⟩ : ∃ NC : Nat, classes % 3 + 1 = (NC : Int) := ⟨(classes % 3 + 1).toNat, by omega⟩
 have nD : 1 <= NC /\ NC <= 3 := by omega
 have lC : Joq cols N = Jon cols := by unfold Joq Jon; rw [show (cols % 3).toNat + 1 = N by omega]
 obtain ⟨M0, jF⟩ : ∃ M0, Jov l classes cols smooth = M0 := ⟨_, rfl⟩
 rw [jF]
 obtain ⟨M1, eO⟩ : ∃ M1, Jo6 M0 way at_ by_ = M1 := ⟨_, rfl⟩
 rw [eO]
 have HM := lh (And.intro jF eO)
 have HN := lh (And.intro hN (And.intro lB lC))
 have H := lh h
 have HL := lh hl
 have HI := lh (And.intro i1 (And.intro i2 (And.intro i3 (And.intro i4 (And.intro i5 i6)))))
 have HBB := lh hB
 have HLN := lh fJ
 have HP1 : Hid (∀ w', Calls Tryz.prog 13 #[.int .i64 cols, .int .i64 3] w' fun e w'' => e = .returned (.int .i64 ((N : Int) - 1)) /\ w' = w'') := lh fun w' => by
  have h1 := jE 3 (by decide) (by decide) cols w' i2.1 i2.2
  rw [show cols % ((3 : Nat) : Int) = (N : Int) - 1 by omega] at h1
  exact h1
 clear h hl i1 i2 i3 i4 i5 i6 hB fJ jF eO hN lB jE lC
 obtain ⟨b0, hB, hZ⟩ := bx1 w 31 #[.bool false, .slice none 0 0, .slice none 0 0, .slice none 0 0, .slice none 0 0, .slice none 0 0]
 go_enter Tryz.func12, Tryz.ntmps12
 go_upto_region 1 with fail
 generalize (w.alloc (.cells #[.bool false, .slice none 0 0, .slice none 0 0, .slice none 0 0, .slice none 0 0, .slice none 0 0] 31)) = W at *
 have HBW := lh hB
 have HZ := lh hZ.out
 have B0 := lh b0
 clear hB hZ b0
 go_wp2_with fail
 go_loopw [15, 16] (fun v p wr => ∃ k : Nat, k <= N /\ p = .int .i64 (k : Int) /\ Own wr 3 zv v (Joq cols k) /\ (∀ b, v.ownBlock = some b -> W.heap.size <= b) /\ Below W.heap.size W wr) (fun _ p _ => N - (intOf p).toNat)
 case atStart => exact ⟨0, by omega, rfl, Own.nil_ _ _ _, (fun b h => by cases h), Below.refl _ _⟩
 case round =>
  obtain ⟨k, hk, rfl, ho, p9, j9⟩ := hrel
  rename World => wr
  have q1 : (N : Int) - 1 + 1 = N := by omega
  by_cases iC : k < N
  ·as_aux_lemma =>
   have k1 : (k : Int) < (N : Int) := by omega
   have eP := (Jph HI.out.2.1).1
   obtain ⟨cq, nE⟩ : ∃ cq, cols.tdiv 3 = cq := ⟨_, rfl⟩
   have dB := Jpg cols k
   rw [nE] at eP dB
   have j8 := Jfv (x := cq) (by omega) (by omega)
   obtain ⟨y, hy⟩ : ∃ y, cq + (k : Int) = y := ⟨_, rfl⟩
   have aV := Jfv (x := y) (by omega) (by omega)
   rw [hy] at dB
   obtain ⟨t, ht⟩ : ∃ t, y % 3 = t := ⟨_, rfl⟩
   have HP2 : Hid (Calls Tryz.prog 13 #[.int .i64 y, .int .i64 3] wr fun e w'' => e = .returned (.int .i64 t) /\ wr = w'') := lh (by
    have h1 := HPK.out 3 (by decide) (by decide) y wr (by omega) (by omega)
    rw [show y % ((3 : Nat) : Int) = t by omega] at h1
    exact h1)
   rw [ht] at dB
   have pI : 0 <= t /\ t < 3 := by omega
   have HO := lh ho
   have HFR := lh (And.intro p9 j9)
   have HSN := lh dB
   clear ho p9 j9 dB ht HPK
   go_wp2_with fail
   refine (HP1.out _).mono ?_
   rintro e w1 ⟨rfl, rfl⟩
   go_wp2_with fail
   refine HP2.out.mono ?_
   rintro e w1 ⟨rfl, rfl⟩
   go_wp2_with (at_builtin; refine Joi (f := zv) Tryz.eltZ1 rfl (.tmp 30) (.tmp 37) rfl wr _ (Joq cols k) (t + 1) (.int .i64 (t + 1)) rfl rfl HO.out (by simp [Act.eval]) rfl (by rw [Jow]; unfold maxLen; omega) (by rw [Jow]; omega) ?_; intro v' w2 iD eQ)
   have fK := HFR.out.2.trans (eQ.below HFR.out.2.size HFR.out.1)
   have jG := eQ.fresh HFR.out.2.size HFR.out.1
   rw [<- HSN.out] at iD
   exact ⟨⟨k + 1, by omega, by go_num, iD, jG, fK⟩, by simp [intOf]; omega⟩
  as_aux_lemma =>
  obtain rfl : k = N := by omega
  have k1 : ¬ (k : Int) < (k : Int) := by omega
  rw [HN.out.2.2] at ho
  have aW : (Jon cols).length = k := by rw [<- HN.out.2.2, Jow]
  have HWL := lh aW
  obtain ⟨AW, cW, hv, -⟩ := ho.form
  rw [aW] at hv
  subst hv
  clear aW
  have HO := lh ho
  have HFR := lh (And.intro p9 j9)
  clear ho p9 j9
  obtain ⟨t4, lD⟩ : ∃ t4, smooth % 4 = t4 := ⟨_, rfl⟩
  obtain ⟨sq, eR⟩ : ∃ sq, smooth.tdiv 4 = sq := ⟨_, rfl⟩
  have lE := (Jph HI.out.2.2.1).2
  rw [eR] at lE
  obtain ⟨t5, dC⟩ : ∃ t5, sq % 3 = t5 := ⟨_, rfl⟩
  have iE := Jfv (x := sq) (by omega) (by omega)
  have pJ : (0 <= t4 /\ t4 < 4) /\ 0 <= t5 /\ t5 < 3 := by omega
  obtain ⟨q, hq⟩ : ∃ q, Rat.divInt (t4 + 1) (t5 + 1) = q := ⟨_, rfl⟩
  have fG : Jo1 classes cols smooth = Uw NC (Jon cols) q := by
   unfold Jo1
   rw [show (classes % 3).toNat + 1 = NC by have := HN.out.2.1; omega, eR, lD, dC, <- Rat.divInt_eq_div, hq]
  have lF : Jp6 (NC : Int) (Jon cols) q = Uw NC (Jon cols) q := Jp5 (by
   have h1 := (Joz classes cols smooth).ok
   rw [fG, Kv, Yf] at h1
   have h2 := h1.1.1
   simpa [Uw] using h2)
  have HPC : Hid (∀ w', Calls Tryz.prog 13 #[.int .i64 classes, .int .i64 3] w' fun e w'' => e = .returned (.int .i64 ((NC : Int) - 1)) /\ w' = w'') := lh fun w' => by
   have h1 := HPK.out 3 (by decide) (by decide) classes w' HI.out.1.1 HI.out.1.2
   rw [show classes % ((3 : Nat) : Int) = (NC : Int) - 1 by have := HN.out.2.1; omega] at h1
   exact h1
  have HPS : Hid (∀ w', Calls Tryz.prog 13 #[.int .i64 smooth, .int .i64 4] w' fun e w'' => e = .returned (.int .i64 t4) /\ w' = w'') := lh fun w' => by
   have h1 := HPK.out 4 (by decide) (by decide) smooth w' HI.out.2.2.1.1 HI.out.2.2.1.2
   rw [show smooth % ((4 : Nat) : Int) = t4 by omega] at h1
   exact h1
  have HPT : Hid (∀ w', Calls Tryz.prog 13 #[.int .i64 sq, .int .i64 3] w' fun e w'' => e = .returned (.int .i64 t5) /\ w' = w'') := lh fun w' => by
   have h1 := HPK.out 3 (by decide) (by decide) sq w' (by omega) (by omega)
   rw [show sq % ((3 : Nat) : Int) = t5 by omega] at h1
   exact h1
  have HOV : Hid (∀ w', Calls Tryz.prog 47 #[.int .i64 (t4 + 1), .int .i64 (t5 + 1)] w' (Jmv q w')) := lh fun w' => by
   have h1 := Jk0 (t4 + 1) (t5 + 1) w' (by omega) (by omega) (by omega) (by omega) (by omega)
   rw [hq] at h1
   exact h1
  have q2 : (NC : Int) - 1 + 1 = NC := by omega
  have HST := lh (And.intro fG lF)
  clear lD dC hq fG lF lE
  go_wp2_with fail
  refine (HP1.out _).mono ?_
  rintro e w1 ⟨rfl, rfl⟩
  go_upto_region 6 with fail
  go_wp2_with fail
  refine (HPC.out _).mono ?_
  rintro e w1 ⟨rfl, rfl⟩
  go_wp2_with fail
  refine (HPS.out _).mono ?_
  rintro e w1 ⟨rfl, rfl⟩
  go_wp2_with fail
  refine (HPT.out _).mono ?_
  rintro e w1 ⟨rfl, rfl⟩
  go_wp2_with fail
  refine (HOV.out _).mono ?_
  rintro e w5 ⟨V, rfl, eS, j7⟩
  obtain ⟨ng, A7, l7, d7, A8, l8, d8, rfl⟩ := eS.shape
  have jH : ReadsI w5 w5.heap.size AW k (Jon cols) := rkindI.more (rkindI.below (NRow.readsI (NRow.of HO.out)) j7) j7.size
  have HNW := lh (Jqu (NC : Int) AW k cW (Jon cols) ng A7 A8 l7 d7 l8 d8 w5.heap.size q w5 jH zd (by omega) (fun x hx => by have := Jou hx; omega))
  have HB5 := lh (HFR.out.2.trans (j7.mono HFR.out.2.size))
  have HIQ := lh eS
  have HRW := lh jH
  clear j7 eS jH HPC HPS HPT HOV HP1
  rw [HST.out.2] at HNW
  go_wp2_with fail
  refine HNW.out.mono ?_
  rintro e w6 ⟨v, rfl, ⟨⟨A1, n1, c1⟩, ⟨A2, n2, c2⟩, ⟨A3, n3, c3⟩, F, G, Hh, rfl, ho⟩, bM⟩
  simp only [SW.v] at *
  go_upto_region 7 with fail
  have b17 := Blk.new w6 31 #[.bool ng, .slice A7 l7 d7, .slice A8 l8 d8, .slice A1 n1 c1, .slice A2 n2 c2, .slice A3 n3 c3]
  have aR := Ja bM (Jb w6 (.cells #[.bool ng, .slice A7 l7 d7, .slice A8 l8 d8, .slice A1 n1 c1, .slice A2 n2 c2, .slice A3 n3 c3] 31))
  have bR := ho.next (Jb w6 (.cells #[.bool ng, .slice A7 l7 d7, .slice A8 l8 d8, .slice A1 n1 c1, .slice A2 n2 c2, .slice A3 n3 c3] 31))
  generalize w6.alloc (.cells #[.bool ng, .slice A7 l7 d7, .slice A8 l8 d8, .slice A1 n1 c1, .slice A2 n2 c2, .slice A3 n3 c3] 31) = w7 at *
  obtain ⟨o1, o2, o3⟩ := ho.old
  have cL : w5.heap.size <= w6.heap.size := bM.size
  generalize w6.heap.size = g at *
  have fL : DrS w5.heap.size g (.bool ng) (.slice A7 l7 d7) (.slice A8 l8 d8) (Uw NC (Jon cols) q) w7 := ⟨⟨A1, n1, c1⟩, ⟨A2, n2, c2⟩, ⟨A3, n3, c3⟩, F, G, Hh, b17, bR, fun e => by have := o1 _ e; omega, fun e => by have := o2 _ e; omega, fun e => by have := o3 _ e; omega⟩
  have HDI : Hid (DrI (Jon cols) q l M0 w5.heap.size g (.bool ng) (.slice A7 l7 d7) (.slice A8 l8 d8) w5 0 w7) := lh ⟨24, 0, _, by omega, by omega, by rw [<- HM.out.1]; unfold Jov; rw [HST.out.1], by rw [<- HST.out.1]; exact Joz classes cols smooth, by omega, rfl, rfl, fL, aR⟩
  clear aR bM ho bR b17 fL o1 o2 o3 HNW HST HO HFR
  go_upto_block 2 with fail
  go_cut [18] (fun v wc => (∃ i : Int, v = .int .i64 i) /\ DrF (Jon cols) q M0 w5.heap.size g (.bool ng) (.slice A7 l7 d7) (.slice A8 l8 d8) w5 wc)
  case first =>
   go_wp2_with fail
   go_loopw [18] (fun p wr => ∃ i : Nat, p = .int .i64 (i : Int) /\ DrI (Jon cols) q l M0 w5.heap.size g (.bool ng) (.slice A7 l7 d7) (.slice A8 l8 d8) w5 i wr) (fun p _ => 1000 - (intOf p).toNat)
   case atStart => exact ⟨0, rfl, HDI.out⟩
   case round =>
    obtain ⟨i, rfl, f, nT, mm, nF, nH, fM, aT, jI, aX, cH, dN, j9⟩ := hrel
    clear HDI
    rename World => wr
    have aD := @Jpk f mm l i
    rw [aX, HWL.out, HLN.out, fM] at aD
    by_cases lG : i + k < n
    case neg =>
     have k2 : ¬ (i : Int) + (k : Int) < (n : Int) := by omega
     have e0 := aD fun h => lG h.1
     subst e0
     have HDF : Hid (DrF (Jon cols) q M0 w5.heap.size g (.bool ng) (.slice A7 l7 d7) (.slice A8 l8 d8) w5 wr) := lh ⟨nT, by omega, aT, aX, cH, dN, j9⟩
     clear aD fM aT aX cH dN j9
     go_wp2_with fail
     go_meet
     exact ⟨⟨_, rfl⟩, HDF.out⟩
    have k2 : (i : Int) + (k : Int) < (n : Int) := by omega
    by_cases lH : i < 24
    case neg =>
     have k3 : ¬ (i : Int) < 24 := by omega
     have e0 := aD fun h => lH h.2
     subst e0
     have HDF : Hid (DrF (Jon cols) q M0 w5.heap.size g (.bool ng) (.slice A7 l7 d7) (.slice A8 l8 d8) w5 wr) := lh ⟨nT, by omega, aT, aX, cH, dN, j9⟩
     clear aD fM aT aX cH dN j9
     go_wp2_with fail
     go_meet
     exact ⟨⟨_, rfl⟩, HDF.out⟩
    have k3 : (i : Int) < 24 := by omega
    clear aD
    obtain ⟨f', rfl, dO, dP, dD⟩ := Jpl (l := l) aT (by omega) (by rw [aX, HWL.out, HLN.out]; exact ⟨lG, lH⟩) nH
    rw [aX] at dO dP dD
    rw [HWL.out] at dD
    obtain ⟨row, dQ⟩ : ∃ row, Jkx (l.drop (i + 1)) (Jon cols) = row := ⟨_, rfl⟩
    obtain ⟨⟨A1, n1, c1⟩, ⟨A2, n2, c2⟩, ⟨A3, n3, c3⟩, F, G, Hh, bk, ho, fN⟩ := dN
    simp only [SW.v] at bk
    obtain ⟨ad, g5, o5, y, rfl, nI, iF, hy, b5⟩ := H.out.spot (k := i) (by omega)
    have lI : l.getD i 0 = y := by rw [List.getD_eq_getElem?_getD, hy]; rfl
    have bI := (ho.read).seen.len
    have dR : mm.seen.length = n2 := ho.read.seen.len
    rw [lI, dR, dQ] at dO dP dD
    have fO : 1 <= n2 /\ n2 <= 3 := by have := aT.classes; omega
    obtain ⟨cn, iG⟩ : ∃ cn : Nat, y % (n2 : Int) = (cn : Int) := ⟨(y % (n2 : Int)).toNat, by have := Int.emod_nonneg y (show (n2 : Int) ≠ 0 by omega); omega⟩
    rw [iG] at dO dP dD
    rw [Int.toNat_natCast] at dO dP dD
    obtain ⟨m', fP⟩ : ∃ m', Jn mm row cn 1 = m' := ⟨_, rfl⟩
    have dS : m'.words = Jon cols := by rw [<- fP]; exact aX
    have fQ : m'.smooth = q := by rw [<- fP]; exact cH
    rw [fP] at dO dP dD
    obtain ⟨A9, jJ⟩ : ∃ A9, Jg4 (some ad) c (i + 1) 1 = A9 := ⟨_, rfl⟩
    obtain ⟨n9, cI⟩ : ∃ n9, n - (i + 1) = n9 := ⟨_, rfl⟩
    obtain ⟨c9, lJ⟩ : ∃ c9, c - (i + 1) = c9 := ⟨_, rfl⟩
    have fR : ∀ w' : World, (Instr.slice 22 (.slice (some ad) n c) (some (.int .i64 ((i : Int) + 1))) none none).run Tryz.prog w' = .ok (.slice A9 n9 c9) w' := fun w' => by
     have := Ji0 (P := Tryz.prog) (Tryz.eltZ1).under (Tryz.eltZ1).info (some ad) n c .i64 ((i : Int) + 1) (by omega) (by omega) w'
     rw [show ((i : Int) + 1).toNat = i + 1 by omega, jJ, cI, lJ] at this
     exact this
    have bN : Below w5.heap.size w5 wr := j9
    have lK : Below w.heap.size w wr := HBW.out.trans ((HB5.out.trans (j9.mono HB5.out.size)).mono HBW.out.size)
    have dE : ReadsI w5 w5.heap.size A9 n9 (l.drop (i + 1)) := by
     have h1 : Reads w B 1 (Jg4 (some ad) c (i + 1) 1) (n - (i + 1)) ((l.map zv).drop ((i + 1) * 1)) := Reads.cut H.out (show i + 1 <= n by omega) iB
     rw [jJ, cI, Nat.mul_one] at h1
     have h2 := rkindI.below (show ReadsI w B A9 n9 (l.drop (i + 1)) by unfold ReadsI; rw [List.map_drop]; exact h1) ((HBW.out.trans (HB5.out.mono HBW.out.size)).mono HBB.out)
     exact rkindI.more h2 (nt HBB.out (HBW.out.trans (HB5.out.mono HBW.out.size)).size)
    have fS : ∀ w', Below wr.heap.size wr w' -> ∀ A6 c6, ReadsI w' w'.heap.size A6 k row -> Calls Tryz.prog 31 #[.agg #[.bool ng, .slice A7 l7 d7, .slice A8 l8 d8, .slice A1 n1 c1, .slice A2 n2 c2, .slice A3 n3 c3], .slice A6 k c6, .int .i64 (cn : Int)] w' fun e w'' => ∃ v, e = .returned v /\ (∃ u, v = .tuple #[u, .int .i64 0] /\ Jq3 w'.heap.size (.bool ng) (.slice A7 l7 d7) (.slice A8 l8 d8) (.slice A1 n1 c1) m' u w'') /\ Below w'.heap.size w' w'' := fun w' hb A6 c6 h6 => by
     refine (Jp3 ng A7 A8 l7 d7 l8 d8 A1 A2 A3 n1 c1 n2 c2 n3 c3 w'.heap.size mm A6 k c6 row cn w' (ho.next hb).read (by rw [cH]; exact (HIQ.out.below (j9.trans (hb.mono j9.size))).more (nt j9.size hb.size)) h6 zd (Za aT.ok) (by omega)).mono ?_
     rintro e w'' ⟨v, rfl, hv, nJ⟩
     rw [dO] at hv
     exact ⟨v, rfl, Jqh hv, nJ⟩
    have nK : n9 <= 9223372036854775807 := by omega
    have pK : IntKind.i64.wrap ((i : Int) + 1) = (i : Int) + 1 := IntWalk.i64_in _ (by omega)
    have HTE := lh fS
    have BK := lh bk
    have HBX := lh bN
    have HBY := lh lK
    have HCUT := lh dE
    have HGO := lh (And.intro fM (And.intro dD (And.intro dP (And.intro dS (And.intro fQ jI)))))
    have HOA := lh (And.intro ho fN)
    have HMW := lh (show mm.words = m'.words by rw [dS, aX])
    have k5 : (i : Int) < (n : Int) := by omega
    have lL : m'.seen.length = n2 /\ True := ⟨by rw [<- fP, Yt]; exact dR, trivial⟩
    clear fS bk bN lK dE fM dD dP dS fQ jI ho fN jJ cI lJ dO aT aX cH j9 bI dR fP lI
    go_upto_region 10 with fail
    go_cut [19, 20] (fun v v20 wc => DrC wr.heap.size (.bool ng) (.slice A7 l7 d7) (.slice A8 l8 d8) (.slice A1 n1 c1) m' wr v v20 wc)
    case first =>
     refine Je0 (DrR wr (.bool ng) (.slice A7 l7 d7) (.slice A8 l8 d8) (.slice A1 n1 c1) k row m' (fun j => ([some (.agg #[.bool ng, .slice A7 l7 d7, .slice A8 l8 d8, .slice A1 n1 c1, .slice A2 n2 c2, .slice A3 n3 c3]), some (.slice (some ad) n c), some (.int .i64 (i : Int)), some (.int .i64 ((i : Int) + 1)), some (.slice A9 n9 c9), some (.slice AW k cW), none, some (.slice (some ad) n c), some (.int .i64 (i : Int)), some (.pointer (some (ad.add i))), some (.int .i64 y), some (.pointer (some ⟨g, 4, none⟩)), some (.slice A2 n2 c2), some (.int .i64 (n2 : Int)), some (.int .i64 (cn : Int)), none, none, none, none, none, none, none] : List (Option Value)).getD j none)) (by kernel_rfl) (by kernel_rfl) (by kernel_rfl) ?_ ?_ [some 69, some 70, some 71, some 72, some 73, some 74, some 75, some 76, some 77, some 78, some 79, some 80, some 81, some 82, some 83, some 84, some 68, some 85, some 86, some 19, none, some 20] rfl ?_
     ·constructor <;> first | exact Jt _ | exact Fixed.start _ _ | (intro h; cases h)
     ·refine ⟨⟨⟨⟨⟨⟨⟨⟨⟨⟨⟨⟨⟨⟨⟨⟨⟨⟨⟨⟨⟨⟨trivial, ?_⟩, ?_⟩, ?_⟩, ?_⟩, ?_⟩, ?_⟩, ?_⟩, ?_⟩, ?_⟩, ?_⟩, ?_⟩, ?_⟩, ?_⟩, ?_⟩, ?_⟩, ?_⟩, ?_⟩, ?_⟩, ?_⟩, ?_⟩, ?_⟩, ?_⟩ <;> intro d val a' w' hS hF hd hp
      ·have e8 : a'.tmps[17]?.getD undef = .pointer (some ⟨g, 0, none⟩) := hS.arg 17
       have b0' := BK.out.below hF.bel BK.out.lt
       obtain ⟨y0, y1, y2, y3, y4, y5⟩ := b0'.c6
       refine Xa (v := .agg #[.bool ng, .slice A7 l7 d7, .slice A8 l8 d8, .slice A1 n1 c1, .slice A2 n2 c2, .slice A3 n3 c3]) _ rfl rfl ?_ (show DrR _ _ _ _ _ _ _ _ _ _ _ _ from { hF with fx := hF.fx.step (.inr rfl) })
       clear hF hS hd hp
       go_simp
      ·have e8 : a'.tmps[0]?.getD undef = .slice (some ad) n c := hS.arg 0
       refine Xa (v := .slice (some ad) n c) _ rfl rfl ?_ (show DrR _ _ _ _ _ _ _ _ _ _ _ _ from { hF with fx := hF.fx.step (.inr rfl) })
       clear hF hS hd hp
       go_simp
      ·have e8 : a'.tmps[18]?.getD undef = .int .i64 (i : Int) := hS.arg 18
       refine Xa (v := .int .i64 (i : Int)) _ rfl rfl ?_ (show DrR _ _ _ _ _ _ _ _ _ _ _ _ from { hF with fx := hF.fx.step (.inr rfl) })
       clear hF hS hd hp
       go_simp
      ·have e1 := hS.fe 2 71 hF.fx (hp 2)
       refine Xa (v := .int .i64 ((i : Int) + 1)) _ rfl rfl ?_ (show DrR _ _ _ _ _ _ _ _ _ _ _ _ from { hF with fx := hF.fx.step (.inr rfl) })
       clear hF hS hd hp
       go_simp
      ·have e1 := hS.fe 1 70 hF.fx (hp 1)
       have e2 := hS.fe 3 72 hF.fx (hp 3)
       refine Xa (v := .slice A9 n9 c9) _ rfl rfl ?_ (show DrR _ _ _ _ _ _ _ _ _ _ _ _ from { hF with fx := hF.fx.step (.inr rfl) })
       clear hF hS hd hp
       go_simp
      ·have e8 : a'.tmps[15]?.getD undef = .slice AW k cW := hS.arg 15
       refine Xa (v := .slice AW k cW) _ rfl rfl ?_ (show DrR _ _ _ _ _ _ _ _ _ _ _ _ from { hF with fx := hF.fx.step (.inr rfl) })
       clear hF hS hd hp
       go_simp
      ·have e1 := hS.fe 4 73 hF.fx (hp 4)
       have e2 := hS.fe 5 74 hF.fx (hp 5)
       have bN := HBX.out.trans (hF.bel.mono HBX.out.size)
       refine Jjm (Ψ := fun v w'' => DrR wr _ _ _ _ _ _ _ _ (upI d 6) (Jf3 val 6 v) w'') _ rfl rfl (args := #[.slice A9 n9 c9, .slice AW k cW]) (w2 := w') (f := 25) ?_ ?_
       ·clear hF hS hd hp
        go_simp
       refine (Jpc A9 n9 c9 (l.drop (i + 1)) AW k cW (Jon cols) w5.heap.size w' (rkindI.below HCUT.out bN) (rkindI.below HRW.out bN) bN.size (by omega) (fun x hx => HL.out x (List.mem_of_mem_drop hx)) (by omega) (fun x hx => by have := Jou hx; omega)).mono ?_
       rintro e w2 ⟨v, rfl, bS, -, aF⟩
       have hG := hF.next aF
       rw [dQ] at bS
       obtain ⟨A6, c6, iH, -⟩ := bS.form
       rw [show row.length = k by rw [<- dQ, Jkw]; exact HWL.out] at iH
       subst iH
       exact ⟨_, rfl, { hG with fx := hG.fx.step (.inl rfl), v6 := fun _ => ⟨A6, c6, rfl, fun _ => NRow.readsI (NRow.of bS)⟩ }⟩
      ·have e8 : a'.tmps[0]?.getD undef = .slice (some ad) n c := hS.arg 0
       refine Xa (v := .slice (some ad) n c) _ rfl rfl ?_ (show DrR _ _ _ _ _ _ _ _ _ _ _ _ from { hF with fx := hF.fx.step (.inr rfl) })
       clear hF hS hd hp
       go_simp
      ·have e8 : a'.tmps[18]?.getD undef = .int .i64 (i : Int) := hS.arg 18
       refine Xa (v := .int .i64 (i : Int)) _ rfl rfl ?_ (show DrR _ _ _ _ _ _ _ _ _ _ _ _ from { hF with fx := hF.fx.step (.inr rfl) })
       clear hF hS hd hp
       go_simp
      ·have e1 := hS.fe 7 76 hF.fx (hp 7)
       have e2 := hS.fe 8 77 hF.fx (hp 8)
       refine Xa (v := .pointer (some (ad.add i))) _ rfl rfl ?_ (show DrR _ _ _ _ _ _ _ _ _ _ _ _ from { hF with fx := hF.fx.step (.inr rfl) })
       clear hF hS hd hp
       go_simp
      ·have e1 := hS.fe 9 78 hF.fx (hp 9)
       rw [nI] at e1
       have j7 := b5.below (HBY.out.trans (hF.bel.mono HBY.out.size)) (Nat.lt_of_lt_of_le iF HBB.out)
       have bM := j7.1
       refine Xa (v := .int .i64 y) _ rfl rfl ?_ (show DrR _ _ _ _ _ _ _ _ _ _ _ _ from { hF with fx := hF.fx.step (.inr rfl) })
       clear hF hS hd hp
       go_simp
      ·have e8 : a'.tmps[17]?.getD undef = .pointer (some ⟨g, 0, none⟩) := hS.arg 17
       refine Xa (v := .pointer (some ⟨g, 4, none⟩)) _ rfl rfl ?_ (show DrR _ _ _ _ _ _ _ _ _ _ _ _ from { hF with fx := hF.fx.step (.inr rfl) })
       clear hF hS hd hp
       go_simp
      ·have e1 := hS.fe 11 80 hF.fx (hp 11)
       have b0' := BK.out.below hF.bel BK.out.lt
       obtain ⟨y0, y1, y2, y3, y4, y5⟩ := b0'.c6
       refine Xa (v := .slice A2 n2 c2) _ rfl rfl ?_ (show DrR _ _ _ _ _ _ _ _ _ _ _ _ from { hF with fx := hF.fx.step (.inr rfl) })
       clear hF hS hd hp
       go_simp
      ·have e1 := hS.fe 12 81 hF.fx (hp 12)
       refine Xa (v := .int .i64 (n2 : Int)) _ rfl rfl ?_ (show DrR _ _ _ _ _ _ _ _ _ _ _ _ from { hF with fx := hF.fx.step (.inr rfl) })
       clear hF hS hd hp
       go_simp
      ·have e1 := hS.fe 10 79 hF.fx (hp 10)
       have e2 := hS.fe 13 82 hF.fx (hp 13)
       refine Jjm (Ψ := fun v w'' => DrR wr _ _ _ _ _ _ _ _ (upI d 14) (Jf3 val 14 v) w'') _ rfl rfl (args := #[.int .i64 y, .int .i64 (n2 : Int)]) (w2 := w') (f := 13) ?_ ?_
       ·clear hF hS hd hp
        go_simp
       refine (HPK.out n2 fO.1 (by omega) y w' (HL.out y (List.mem_of_getElem? hy)).1 (HL.out y (List.mem_of_getElem? hy)).2).mono ?_
       rintro e w2 ⟨rfl, rfl⟩
       rw [iG]
       exact ⟨_, rfl, { hF with fx := hF.fx.step (.inr rfl) }⟩
      ·have e1 := hS.fe 0 69 hF.fx (hp 0)
       have e3 := hS.fe 14 83 hF.fx (hp 14)
       have e2 := hS.res 6 75 (hp 6)
       obtain ⟨A6, c6, e6, h6⟩ := hF.v6 (hp 6)
       rw [e6] at e2
       have h6 := h6 hd
       refine Jjm (Ψ := fun v w'' => DrR wr _ _ _ _ _ _ _ _ (upI d 15) (Jf3 val 15 v) w'') _ rfl rfl (args := #[.agg #[.bool ng, .slice A7 l7 d7, .slice A8 l8 d8, .slice A1 n1 c1, .slice A2 n2 c2, .slice A3 n3 c3], .slice A6 k c6, .int .i64 (cn : Int)]) (w2 := w') (f := 31) ?_ ?_
       ·clear hF hS hd hp
        go_simp
       refine (HTE.out w' hF.bel A6 c6 h6).mono ?_
       rintro e w2 ⟨v, rfl, ⟨u, rfl, S, C, G', H', rfl, hs, iI, s9, dT⟩, aF⟩
       have hG := hF.next aF
       have bO := hF.bel.size
       refine ⟨_, rfl, { hG with fx := hG.fx.step (.inl rfl), v6 := fun h => (hG.v6 h).imp fun A h => h.imp fun c h => ⟨h.1, fun h' => Bool.noConfusion (show true = false from h')⟩, v15 := fun _ => ⟨_, _, _, _, _, _, rfl, by simp [Value.oneCell', SW.v], S, C, G', H', rfl, hs, iI, fun x hx => ⟨nt bO (s9 x hx).1, (s9 x hx).2⟩, fun x hx => nt bO (dT x hx), fun x hx => ?_⟩, v16 := fun h => absurd ((hF.v16 h).1) (by rw [hd]; decide), v17 := fun h => absurd ((hF.v17 h).1) (by rw [hd]; decide), v18 := fun h => absurd ((hF.v18 h).1) (by rw [hd]; decide) }⟩
       obtain ⟨g', z0, z1, z2, z3, z4, z5, e11, nL, bD, -⟩ := hF.v19 hx.1
       have e12 := Jps (e11.symm.trans hx.2)
       subst e12
       have lM := bD.lt
       exact ⟨fun e => by have := (s9 _ e).1; omega, fun e => by have := dT _ e; omega⟩
      ·have e1 := hS.res 15 84 (hp 15)
       have h6 := hp 15
       refine Xa (v := val 15) _ rfl rfl ?_ (show DrR _ _ _ _ _ _ _ _ _ _ _ _ from { hF with fx := hF.fx.step (.inl rfl), v16 := fun _ => ⟨h6, rfl⟩ })
       clear hF hS hd hp
       go_simp
      ·have e1 := hS.res 16 68 (hp 16)
       obtain ⟨h6, h7⟩ := hF.v16 (hp 16)
       obtain ⟨q0, q1', q2', q3, q4, q5, e6, -⟩ := hF.v15 h6
       rw [h7, e6] at e1
       refine Xa (v := .agg #[q0, q1', q2', q3, q4, q5]) _ rfl rfl ?_ (show DrR _ _ _ _ _ _ _ _ _ _ _ _ from { hF with fx := hF.fx.step (.inl rfl), v17 := fun _ => ⟨h6, fun u y (e : val 15 = _) => by rw [e6] at e; injection e with e; exact (Jq6 e).1⟩, v19 := fun h => (hF.v19 h).imp fun g h => h.imp fun y0 h => h.imp fun y1 h => h.imp fun y2 h => h.imp fun y3 h => h.imp fun y4 h => h.imp fun y5 h => ⟨h.1, h.2.1, h.2.2.1, fun h' => absurd (h.2.2.2 h').1 (by rw [hd]; decide)⟩ })
       clear hF hS hd hp
       go_simp
      ·have e1 := hS.res 16 68 (hp 16)
       obtain ⟨h6, h7⟩ := hF.v16 (hp 16)
       obtain ⟨q0, q1', q2', q3, q4, q5, e6, -⟩ := hF.v15 h6
       rw [h7, e6] at e1
       refine Xa (v := .int .i64 0) _ rfl rfl ?_ (show DrR _ _ _ _ _ _ _ _ _ _ _ _ from { hF with fx := hF.fx.step (.inl rfl), v18 := fun _ => ⟨h6, fun u y (e : val 15 = _) => by rw [e6] at e; injection e with e; exact (Jq6 e).2⟩, v21 := fun h => absurd ((hF.v21 h).1) (by rw [hd]; decide) })
       clear hF hS hd hp
       go_simp
      ·have hG := hF.next (Jb w' (.cells #[.bool false, .slice none 0 0, .slice none 0 0, .slice none 0 0, .slice none 0 0, .slice none 0 0] 31))
       have bO := hF.bel.size
       refine Xa (v := .pointer (some ⟨w'.heap.size, 0, none⟩)) (w2 := w'.alloc (.cells #[.bool false, .slice none 0 0, .slice none 0 0, .slice none 0 0, .slice none 0 0, .slice none 0 0] 31)) _ rfl rfl ?_ (show DrR _ _ _ _ _ _ _ _ _ _ _ _ from { hG with fx := hG.fx.step (.inl rfl), v15 := fun h => ?_, v19 := fun _ => ⟨_, _, _, _, _, _, _, rfl, bO, Blk.new _ _ _, fun h => absurd (hF.v20 h) (by rw [hd]; decide)⟩, v20 := fun _ => rfl })
       ·clear hG hF hS hd hp
        go_simp
       obtain ⟨q0, q1', q2', q3, q4, q5, e6, cN, jK⟩ := hF.v15 h
       exact ⟨q0, q1', q2', q3, q4, q5, e6, cN, jK.next (Jb _ _) fun g hg => .inr (by rw [<- Jps (show Value.pointer (some ⟨w'.heap.size, 0, none⟩) = .pointer (some ⟨g, 0, none⟩) from hg.2)]; exact Nat.le_refl _)⟩
      ·obtain ⟨h6, h8⟩ := hF.v17 (hp 17)
       have dL := hp 19
       obtain ⟨g', z0, z1, z2, z3, z4, z5, e11, s9, bD, -⟩ := hF.v19 dL
       obtain ⟨q0, q1', q2', q3, q4, q5, e6, cN, jK⟩ := hF.v15 h6
       have e8 := h8 _ _ e6
       exact Jde _ rfl rfl _ _ _ rfl rfl g' #[q0, q1', q2', q3, q4, q5] _ ((hS.got 19 19 dL rfl (Nat.le_of_ble_eq_true (by kernel_rfl))).trans e11) ((hS.got 17 85 (hp 17) rfl (Nat.le_of_ble_eq_true (by kernel_rfl))).trans e8) _ bD (by kernel_rfl) rfl cN fun w2 aF lN => show DrR _ _ _ _ _ _ _ _ _ _ _ _ from { hF with bel := hF.bel.trans (lN.below hF.bel.size s9), fx := hF.fx.step (.inl rfl), v6 := fun h => (hF.v6 h).imp fun A h => h.imp fun c h => ⟨h.1, fun h' => absurd (show d 15 = false from h') (by rw [h6]; decide)⟩, v15 := fun h => ⟨q0, q1', q2', q3, q4, q5, e6, cN, jK.exc lN ⟨dL, e11⟩⟩, v19 := fun _ => ⟨g', _, _, _, _, _, _, e11, s9, aF, fun _ => ⟨hp 17, e8⟩⟩, v20 := fun _ => dL }
      ·have e1 := hS.res 18 86 (hp 18)
       have h9 := hp 18
       refine Xa (v := val 18) _ rfl rfl ?_ (show DrR _ _ _ _ _ _ _ _ _ _ _ _ from { hF with fx := hF.fx.step (.inl rfl), v21 := fun _ => ⟨h9, rfl⟩ })
       clear hF hS hd hp
       go_simp
     intro d val w' hF hd
     simp only [Exit.then, Jd7, Act.put, List.setIfInBounds_toArray, List.set_cons_succ, List.set_cons_zero]
     refine ‹∀ a' w', Met _ a' w' -> _› _ _ ?_
     go_meet
     exact hF.end_ hd
    case rest =>
     obtain ⟨g', S, C, G', H', rfl, rfl, bk', hs, iI, s9, dT, hb⟩ := hcut
     rename World => wc
     have nM := BK.out.lt
     have bkc := BK.out.below hb nM
     have hr := Js 3 zv
     have jL := hr.loc HOA.out.1.words hb.size fun x hx => hb.block x (hr.lt HOA.out.1.words hx)
     rw [HMW.out] at jL
     have jM := fun x (hx : F x) => hr.lt HOA.out.1.words hx
     have HX := lh (And.intro (show ∀ x, F x -> x ≠ g from fun x hx e => HOA.out.2.1 (by rw [<- e]; exact hx)) (And.intro (show ∀ x, G' x -> x ≠ g from fun x hx e => by have := (s9 x hx).1; omega) (show ∀ x, H' x -> x ≠ g from fun x hx e => by have := dT x hx; omega)))
     have lO : OwB 3 22 65 w5.heap.size wc ⟨A1, n1, c1⟩ S C F G' H' m' := ⟨jL, hs, iI, HOA.out.1.from1, fun x hx => nt HBX.out.size (s9 x hx).1, fun x hx => nt HBX.out.size (dT x hx), fun x hx e => by have := jM x hx; have := (s9 x e).1; omega, fun x hx e => by have := jM x hx; have := dT x e; omega, fun x hx => (s9 x hx).2⟩
     have HO' := lh lO
     have HBC := lh (HBX.out.trans (hb.mono HBX.out.size))
     have BKC := lh bkc
     obtain ⟨x0, x1, x2, x3, x4, x5⟩ := bk'.c6
     clear lO jL jM hs iI s9 dT hb bkc bk' hr HTE HPK fR
     go_wp2_with (refine Jr rfl _ (.tmp 17) (.tmp 89) rfl g #[.bool ng, .slice A7 l7 d7, .slice A8 l8 d8, .slice A1 n1 c1, .slice S.A S.n S.c, .slice C.A C.n C.c] _ rfl rfl _ BKC.out (by kernel_rfl) rfl (by simp [Value.oneCell']) ?_; intro w8 cG lP; have HX8 := lh lP; have HB8 := lh cG; clear lP cG x0 x1 x2 x3 x4 x5)
     have pL : (i : Int) + (k : Int) + 1 = ((i + k + 1 : Nat) : Int) := by omega
     have fT : DrI (Jon cols) q l M0 w5.heap.size g (.bool ng) (.slice A7 l7 d7) (.slice A8 l8 d8) w5 (i + k + 1) w8 := ⟨f', nT + 1, m', by omega, by omega, HGO.out.2.1.symm.trans HGO.out.1, HGO.out.2.2.1, by have := HGO.out.2.2.2.2.2; omega, HGO.out.2.2.2.1, HGO.out.2.2.2.2.1, ⟨⟨A1, n1, c1⟩, S, C, F, G', H', HB8.out, HO'.out.exc HX8.out (fun e => HX.out.1 g e rfl) (fun e => HX.out.2.1 g e rfl) (fun e => HX.out.2.2 g e rfl), fun e => HX.out.1 g e rfl, fun e => HX.out.2.1 g e rfl, fun e => HX.out.2.2 g e rfl⟩, HBC.out.trans (HX8.out.below HBC.out.size cL)⟩
     have HFIN := lh fT
     clear fT
     go_roundw
     case rel => exact ⟨i + k + 1, by go_num, HFIN.out⟩
     case measure => simp [intOf]; omega
  case rest =>
   obtain ⟨⟨iv, rfl⟩, nT, jI, aT, aX, cH, dN, j7⟩ := hcut
   rename World => wc
   obtain ⟨⟨A1, n1, c1⟩, ⟨A2, n2, c2⟩, ⟨A3, n3, c3⟩, F, G, Hh, bk, ho, fN⟩ := dN
   simp only [SW.v] at bk
   have nN : n1 = k := by have h1 : M0.words.length = n1 := ho.read.words.len; rw [<- h1, aX]; exact HWL.out
   subst nN
   have dR : M0.seen.length = n2 := ho.read.seen.len
   have fO : 1 <= n2 /\ n2 <= 3 := by have := aT.classes; omega
   obtain ⟨kk, lQ⟩ : ∃ kk : Nat, at_ % (n2 : Int) = (kk : Int) := ⟨(at_ % (n2 : Int)).toNat, by have := Int.emod_nonneg at_ (show (n2 : Int) ≠ 0 by omega); omega⟩
   have fU : kk < n2 := by have := Int.emod_lt_of_pos at_ (show (0 : Int) < n2 by omega); omega
   obtain ⟨aq, lR⟩ : ∃ aq, at_.tdiv 3 = aq := ⟨_, rfl⟩
   have fV := (Jph HI.out.2.2.2.2.1).1
   rw [lR] at fV
   have fW := Jfv (x := aq) (by omega) (by omega)
   obtain ⟨cc, lS⟩ : ∃ cc : Nat, aq % (n1 : Int) = (cc : Int) := ⟨(aq % (n1 : Int)).toNat, by have := Int.emod_nonneg aq (show (n1 : Int) ≠ 0 by omega); omega⟩
   have nO : cc < n1 := by have := Int.emod_lt_of_pos aq (show (0 : Int) < n1 by omega); omega
   obtain ⟨tb, iJ⟩ : ∃ tb, by_ % 9 = tb := ⟨_, rfl⟩
   have nP : 0 <= tb /\ tb < 9 := by omega
   obtain ⟨wy, lT⟩ : ∃ wy, way % 14 = wy := ⟨_, rfl⟩
   have lU : 0 <= wy /\ wy < 14 := by omega
   have HP3 : Hid (∀ w', Calls Tryz.prog 13 #[.int .i64 at_, .int .i64 (n2 : Int)] w' fun e w'' => e = .returned (.int .i64 (kk : Int)) /\ w' = w'') := lh fun w' => by
    have h1 := HPK.out n2 (by omega) (by omega) at_ w' HI.out.2.2.2.2.1.1 HI.out.2.2.2.2.1.2
    rw [lQ] at h1
    exact h1
   have HP4 : Hid (∀ w', Calls Tryz.prog 13 #[.int .i64 aq, .int .i64 (n1 : Int)] w' fun e w'' => e = .returned (.int .i64 (cc : Int)) /\ w' = w'') := lh fun w' => by
    have h1 := HPK.out n1 (by omega) (by omega) aq w' (by omega) (by omega)
    rw [lS] at h1
    exact h1
   have HP5 : Hid (∀ w', Calls Tryz.prog 13 #[.int .i64 by_, .int .i64 9] w' fun e w'' => e = .returned (.int .i64 tb) /\ w' = w'') := lh fun w' => by
    have h1 := HPK.out 9 (by decide) (by decide) by_ w' HI.out.2.2.2.2.2.1 HI.out.2.2.2.2.2.2
    rw [show by_ % ((9 : Nat) : Int) = tb by omega] at h1
    exact h1
   have HP6 : Hid (∀ w', Calls Tryz.prog 13 #[.int .i64 way, .int .i64 14] w' fun e w'' => e = .returned (.int .i64 wy) /\ w' = w'') := lh fun w' => by
    have h1 := HPK.out 14 (by decide) (by decide) way w' HI.out.2.2.2.1.1 HI.out.2.2.2.1.2
    rw [show way % ((14 : Nat) : Int) = wy by omega] at h1
    exact h1
   obtain ⟨bb, jA⟩ : ∃ bb, tb - 2 = bb := ⟨_, rfl⟩
   have nR : -2 <= bb /\ bb <= 6 := by omega
   have pM := Jfv (x := bb) (by omega) (by omega)
   have bE : Hid (Jo6 M0 way at_ by_ = M1 /\ (at_ % (M0.seen.length : Int)).toNat = kk /\ ((at_.tdiv 3) % (M0.words.length : Int)).toNat = cc /\ by_ % 9 - 2 = bb /\ way % 14 = wy) := lh ⟨HM.out.2, by rw [dR]; omega, by rw [aX, HWL.out, lR]; omega, by omega, lT⟩
   have BK := lh bk
   have HO := lh (And.intro ho fN)
   have HDR := lh (And.intro aT (And.intro aX (And.intro cH dR)))
   have HB6 := lh j7
   obtain ⟨x0, x1, x2, x3, x4, x5⟩ := bk.c6
   clear lQ lS iJ lT aT aX cH dR ho fN j7 bk HPK fV
   go_wp2_with fail
   refine (HP3.out _).mono ?_
   rintro e w1 ⟨rfl, rfl⟩
   go_wp2_with fail
   refine (HP4.out _).mono ?_
   rintro e w1 ⟨rfl, rfl⟩
   go_wp2_with fail
   refine (HP5.out _).mono ?_
   rintro e w1 ⟨rfl, rfl⟩
   go_wp2_with fail
   refine (HP6.out _).mono ?_
   rintro e w1 ⟨rfl, rfl⟩
   go_upto_block 4 with fail
   go_cut [17] (fun v wd => v = .pointer (some ⟨g, 0, none⟩) /\ DrQ g w.heap.size M1 wd /\ Below W.heap.size W wd)
   case first =>
    have eO : Jpi M0 wy kk cc bb = M1 := by rw [<- bE.out.1, Jpo, bE.out.2.1, bE.out.2.2.1, bE.out.2.2.2.1, bE.out.2.2.2.2]
    have HM1 := lh eO
    have fX : Below W.heap.size W wc := HB5.out.trans (HB6.out.mono HB5.out.size)
    have HBV := lh fX
    clear eO fX
    have dU : w.heap.size < w5.heap.size := Nat.lt_of_lt_of_le B0.out.lt HB5.out.size
    have HZQ : Hid (∀ wd, Below w5.heap.size w5 wd -> ∀ w', Exc w.heap.size wd w' -> IsQ w' w'.heap.size (.agg #[.bool ng, .slice A7 l7 d7, .slice A8 l8 d8]) M0.smooth) := lh fun wd hd w' hx => by
     rw [HDR.out.2.2.1]
     exact ((HIQ.out.below hd).more hd.size).excB (B0.out.below (HB5.out.trans (hd.mono HB5.out.size)) B0.out.lt) Jq1 hx
    have HWS := lh (show ∀ x, w5.heap.size <= x -> W.heap.size <= x from fun x hx => nt HB5.out.size hx)
    by_cases fY : wy = 0
    ·subst fY
     have e0 := HM1.out
     unfold Jpi at e0
     rw [if_pos rfl] at e0
     have HE := lh e0
     clear e0 bE HM1
     obtain ⟨gS, rfl⟩ := HO.out.1.seen.blk (by rw [HDR.out.2.2.2]; omega)
     obtain ⟨x, hx⟩ : ∃ x, M0.seen[kk]? = some x := ⟨_, List.getElem?_eq_getElem (by rw [HDR.out.2.2.2]; omega)⟩
     have dF := HO.out.1.seen.cell hx
     unfold zv at dF
     have jN := HO.out.1.seen.frozen kk
     have fZ : w5.heap.size <= gS := HO.out.1.from2 gS ((HO.out.1.seen.2 gS).2 rfl)
     have gA : g ≠ gS := fun e => HO.out.2.2.1 (by rw [e]; exact (HO.out.1.seen.2 gS).2 rfl)
     have k1 : (kk : Int) < (n2 : Int) := by omega
     have HS := lh (And.intro fZ gA)
     clear hx fZ gA
     go_wp2_with fail
     go_meet
     rw [<- HE.out]
     exact ⟨rfl, DrQ.of (W := ⟨A1, n1, c1⟩) (S := ⟨some ⟨gS, 0, none⟩, n2, c2⟩) (C := ⟨A3, n3, c3⟩) (BK.out.far HS.out.2 _) (HZQ.out _ (HB6.out.setCell HS.out.1 _)) ((HO.out.1.setSeen kk bb).rdx dU), HBV.out.setCell (HWS.out _ HS.out.1) _⟩
    by_cases lV : wy = 6
    ·subst lV
     have e0 := HM1.out
     unfold Jpi at e0
     rw [if_neg (by decide), if_neg (by decide), if_neg (by decide), if_neg (by decide), if_neg (by decide), if_neg (by decide), if_pos rfl] at e0
     have HE := lh e0
     clear e0 bE HM1
     obtain ⟨gS, rfl⟩ := HO.out.1.seen.blk (by rw [HDR.out.2.2.2]; omega)
     obtain ⟨x, hx⟩ : ∃ x, M0.seen[kk]? = some x := ⟨_, List.getElem?_eq_getElem (by rw [HDR.out.2.2.2]; omega)⟩
     have dF := HO.out.1.seen.cell hx
     unfold zv at dF
     have jN := HO.out.1.seen.frozen kk
     have fZ : w5.heap.size <= gS := HO.out.1.from2 gS ((HO.out.1.seen.2 gS).2 rfl)
     have gA : g ≠ gS := fun e => HO.out.2.2.1 (by rw [e]; exact (HO.out.1.seen.2 gS).2 rfl)
     have k1 : (kk : Int) < (n2 : Int) := by omega
     have HS := lh (And.intro fZ gA)
     clear hx fZ gA
     go_wp2_with fail
     go_meet
     rw [<- HE.out]
     exact ⟨rfl, DrQ.of (W := ⟨A1, n1, c1⟩) (S := ⟨some ⟨gS, 0, none⟩, n2, c2⟩) (C := ⟨A3, n3, c3⟩) (BK.out.far HS.out.2 _) (HZQ.out _ (HB6.out.setCell HS.out.1 _)) ((HO.out.1.setSeen kk 1073741824).rdx dU), HBV.out.setCell (HWS.out _ HS.out.1) _⟩
    by_cases j8 : wy = 1
    ·subst j8
     have e0 := HM1.out
     unfold Jpi at e0
     rw [if_neg (by decide), if_pos rfl] at e0
     have HE := lh e0
     clear e0 bE HM1
     have dG := Qy HDR.out.1.ok
     have eN : kk < M0.counts.length := by rw [dG.tabs, HDR.out.2.2.2]; exact fU
     have jO : M0.counts.length = n3 := ReadsS.len HO.out.1.read.counts
     obtain ⟨gT, rfl⟩ := HO.out.1.counts.addr (by omega)
     obtain ⟨t, ht⟩ : ∃ t, M0.counts[kk]? = some t := ⟨_, List.getElem?_eq_getElem eN⟩
     have aW : M0.words.length = n1 := HO.out.1.read.words.len
     have eP : t.length = n1 := by rw [(dG.fits t (List.mem_of_getElem? ht)).1, aW]
     obtain ⟨b, hb⟩ : ∃ b, t[cc]? = some b := ⟨_, List.getElem?_eq_getElem (by omega)⟩
     have nU := (dG.nums t (List.mem_of_getElem? ht) b (List.mem_of_getElem? hb)).2.2.2.1
     obtain ⟨y, hy⟩ : ∃ y, b[0]? = some y := ⟨_, List.getElem?_eq_getElem (by omega)⟩
     obtain ⟨u, q1, x, q2, d1, d2, d3, d4⟩ := HO.out.1.deep ht hb hy
     obtain ⟨H', r1, r2, r3⟩ := HO.out.1.setCount ht hb d1 d2 0 bb
     unfold zv at d3
     rw [eP] at d1
     have lW := HO.out.1.from3 x r3
     have bT : g ≠ x := fun e => HO.out.2.2.2 (by rw [e]; exact r3)
     have k1 : (kk : Int) < (n3 : Int) := by omega
     have k2 : (cc : Int) < (n1 : Int) := by omega
     have k3 : (0 : Int) < (b.length : Int) := by omega
     have e9 : ({ M0 with counts := M0.counts.set kk (t.set cc (b.set 0 bb)) } : BM) = M1 := by rw [<- HE.out, List.getD_eq_getElem?_getD, ht, Option.getD_some, List.getD_eq_getElem?_getD, hb, Option.getD_some]
     have HS := lh (And.intro lW (And.intro bT (And.intro r1 e9)))
     clear lW bT r1 r2 r3 e9 dG ht hb hy jO aW eP nU eN
     go_wp2_with fail
     go_meet
     rw [<- HS.out.2.2.2]
     exact ⟨rfl, DrQ.of (W := ⟨A1, n1, c1⟩) (S := ⟨A2, n2, c2⟩) (C := ⟨some ⟨gT, 0, none⟩, n3, c3⟩) (BK.out.far HS.out.2.1 _) (HZQ.out _ (HB6.out.setCell HS.out.1 _)) (HS.out.2.2.1.rdx dU), HBV.out.setCell (HWS.out _ HS.out.1) _⟩
    by_cases lZ : wy = 5
    ·subst lZ
     have e0 := HM1.out
     unfold Jpi at e0
     rw [if_neg (by decide), if_neg (by decide), if_neg (by decide), if_neg (by decide), if_neg (by decide), if_pos rfl] at e0
     have HE := lh e0
     clear e0 bE HM1
     have nV := HDR.out.2.2.2
     have eT : n2 <= c2 := by
      obtain ⟨A0, c0, e, h1, -⟩ := Own.form HO.out.1.seen.1
      injection (show Value.slice A2 n2 c2 = _ from e) with e1 e2 e3
      omega
     obtain ⟨Ad, dV⟩ : ∃ Ad, Jg4 A2 c2 1 1 = Ad := ⟨_, rfl⟩
     have hcut : ∀ w' : World, (Instr.slice 22 (.slice A2 n2 c2) (some (.int .i64 1)) none none).run Tryz.prog w' = .ok (.slice Ad (n2 - 1) (c2 - 1)) w' := fun w' => by
      have := Ji0 (P := Tryz.prog) (Tryz.eltZ1).under (Tryz.eltZ1).info A2 n2 c2 .i64 1 (by omega) (by omega) w'
      rw [show (1 : Int).toNat = 1 from rfl, dV] at this
      exact this
     have jN := BK.out.frozen 4
     have aC := (Exc.refl g wc).set_ 4 (.slice Ad (n2 - 1) (c2 - 1))
     have mA : W.heap.size <= g := nt HB5.out.size cL
     have HS := lh (And.intro eT (And.intro dV (And.intro aC mA)))
     clear nV eT dV aC mA
     go_wp2_with fail
     go_meet
     rw [<- HE.out]
     have iD := HO.out.1.exc HS.out.2.2.1 HO.out.2.1 HO.out.2.2.1 HO.out.2.2.2
     have bk2 : Blk (wc.setCell ⟨g, 4, none⟩ (.slice Ad (n2 - 1) (c2 - 1))) g 31 #[.bool ng, .slice A7 l7 d7, .slice A8 l8 d8, .slice A1 n1 c1, .slice Ad (n2 - 1) (c2 - 1), .slice A3 n3 c3] := by simpa using BK.out.set_ 4 (.slice Ad (n2 - 1) (c2 - 1))
     have fI := RdX.seen1 (iD.rdx dU) fO.1 HS.out.1
     rw [HS.out.2.1] at fI
     exact ⟨rfl, DrQ.of (W := ⟨A1, n1, c1⟩) (S := ⟨Ad, n2 - 1, c2 - 1⟩) (C := ⟨A3, n3, c3⟩) bk2 (HZQ.out _ (HB6.out.setCell cL _)) fI, HBV.out.setCell HS.out.2.2.2 _⟩
    by_cases aV : wy = 2
    ·subst aV
     have e0 := HM1.out
     unfold Jpi at e0
     rw [if_neg (by decide), if_neg (by decide), if_pos rfl] at e0
     have HE := lh e0
     clear e0 bE HM1
     have dM := fun w' => Jus bb w' (by omega) (by omega)
     have HOF := lh dM
     clear dM
     go_wp2_with fail
     refine (HOF.out _).mono ?_
     rintro e w9 ⟨v, rfl, dW, aS⟩
     obtain ⟨ng9, B7, m7, f7, B8, m8, f8, rfl⟩ := dW.shape
     have bk9 := BK.out.below aS BK.out.lt
     clear x0 x1 x2 x3 x4 x5
     obtain ⟨x0, x1, x2, x3, x4, x5⟩ := bk9.c6
     have z0 := bk9.frozen 0
     have z1 := bk9.frozen 1
     have z2 := bk9.frozen 2
     have H9 := lh (And.intro bk9 (And.intro dW aS))
     clear bk9 dW aS HOF
     go_wp2_with fail
     go_meet
     rw [<- HE.out]
     have aC : Exc g w9 (((w9.setCell ⟨g, 0, none⟩ (.bool ng9)).setCell ⟨g, 1, none⟩ (.slice B7 m7 f7)).setCell ⟨g, 2, none⟩ (.slice B8 m8 f8)) := (((Exc.refl g w9).set_ 0 _).set_ 1 _).set_ 2 _
     have bk2 : Blk (((w9.setCell ⟨g, 0, none⟩ (.bool ng9)).setCell ⟨g, 1, none⟩ (.slice B7 m7 f7)).setCell ⟨g, 2, none⟩ (.slice B8 m8 f8)) g 31 #[.bool ng9, .slice B7 m7 f7, .slice B8 m8 f8, .slice A1 n1 c1, .slice A2 n2 c2, .slice A3 n3 c3] := by simpa using ((H9.out.1.set_ 0 (.bool ng9)).set_ 1 (.slice B7 m7 f7)).set_ 2 (.slice B8 m8 f8)
     have bF := (HBV.out.trans (H9.out.2.2.mono HBV.out.size)).trans (aC.below (HBV.out.trans (H9.out.2.2.mono HBV.out.size)).size (nt HB5.out.size cL))
     have jP := ((HO.out.1.next H9.out.2.2).exc aC HO.out.2.1 HO.out.2.2.1 HO.out.2.2.2).rdx dU
     exact ⟨rfl, DrQ.of (W := ⟨A1, n1, c1⟩) (S := ⟨A2, n2, c2⟩) (C := ⟨A3, n3, c3⟩) bk2 (fun w' hx => (H9.out.2.1.excB H9.out.1 Jq1 aC).excB (B0.out.below bF B0.out.lt) Jq1 hx) (fun w' hx => ⟨(jP w' hx).words, (jP w' hx).seen, (jP w' hx).counts⟩), bF⟩
    by_cases aU : wy = 3
    ·subst aU
     have e0 := HM1.out
     unfold Jpi at e0
     rw [if_neg (by decide), if_neg (by decide), if_neg (by decide), if_pos rfl] at e0
     have HE := lh e0
     clear e0 bE HM1
     have aW : M0.words.length = n1 := HO.out.1.read.words.len
     have HRC := lh (Reads.alloc HO.out.1.read.words zd (.cells #[] 3))
     have HE0 := lh (Jpb wc)
     have HWN := lh aW
     have bkA := BK.out.alloc (.cells #[] 3)
     clear x0 x1 x2 x3 x4 x5
     obtain ⟨x0, x1, x2, x3, x4, x5⟩ := bkA.c6
     clear bkA aW
     go_upto_region 25 with (at_builtin; refine Jnx Tryz.eltZ1 rfl (.tmp 131) (.tmp 133) rfl (wc.alloc (.cells #[] 3)) _ [] wc.heap.size A1 n1 c1 M0.words rfl HE0.out rfl HRC.out (fun _ => rfl) (by unfold maxLen; simp; omega) (by simp; omega) ?_; intro v' w9 mB s9; obtain ⟨A6, c6, rfl, jQ, p9, aS⟩ := Jpf mB s9; rw [HWN.out] at jQ p9 ⊢; have bk9 := BK.out.below aS BK.out.lt; have nX := bk9.frozen 3; have nY := bk9.cell 3; have H9 := lh (And.intro bk9 (And.intro jQ (And.intro p9 aS))); clear mB s9 jQ p9 aS bk9 x0 x1 x2 x3 x4 x5)
     obtain ⟨g9, rfl⟩ := Own.addr H9.out.2.1 (by rw [HWN.out]; omega)
     have gB : wc.heap.size <= g9 := H9.out.2.2.1 g9 rfl
     have cI : g ≠ g9 := by have := BK.out.lt; omega
     have aC := (Exc.refl g w9).set_ 3 (.slice (some ⟨g9, 0, none⟩) n1 c6)
     have cO := (HO.out.1.newWords (W' := ⟨some ⟨g9, 0, none⟩, n1, c6⟩) H9.out.2.2.2 HB6.out.size H9.out.2.1 H9.out.2.2.1).exc aC (fun e => cI (Option.some.inj e).symm) HO.out.2.2.1 HO.out.2.2.2
     have bk10 : Blk (w9.setCell ⟨g, 3, none⟩ (.slice (some ⟨g9, 0, none⟩) n1 c6)) g 31 #[.bool ng, .slice A7 l7 d7, .slice A8 l8 d8, .slice (some ⟨g9, 0, none⟩) n1 c6, .slice A2 n2 c2, .slice A3 n3 c3] := by simpa using H9.out.1.set_ 3 (.slice (some ⟨g9, 0, none⟩) n1 c6)
     have gD := (HB6.out.trans (H9.out.2.2.2.mono HB6.out.size)).trans (aC.below (HB6.out.trans (H9.out.2.2.2.mono HB6.out.size)).size cL)
     have iF : w5.heap.size <= g9 := nt HB6.out.size gB
     clear nX nY aC H9
     generalize w9.setCell ⟨g, 3, none⟩ (.slice (some ⟨g9, 0, none⟩) n1 c6) = w10 at *
     obtain ⟨x, hx⟩ : ∃ x, M0.words[cc]? = some x := ⟨_, List.getElem?_eq_getElem (by rw [HWN.out]; omega)⟩
     have dF := cO.words.cell hx
     unfold zv at dF
     have jN := cO.words.frozen cc
     obtain ⟨x0, x1, x2, x3, x4, x5⟩ := bk10.c6
     have k1 : (cc : Int) < (n1 : Int) := by omega
     have H10 := lh (And.intro bk10 (And.intro cO (And.intro gD (And.intro cI iF))))
     clear bk10 cO gD cI iF gB hx HRC HE0
     go_wp2_with fail
     go_meet
     rw [<- HE.out]
     have bF := (HB5.out.trans (H10.out.2.2.1.mono HB5.out.size))
     exact ⟨rfl, DrQ.of (W := ⟨some ⟨g9, 0, none⟩, n1, c6⟩) (S := ⟨A2, n2, c2⟩) (C := ⟨A3, n3, c3⟩) (H10.out.1.far H10.out.2.2.2.1 _) (HZQ.out _ (H10.out.2.2.1.setCell H10.out.2.2.2.2 _)) ((H10.out.2.1.setWordsD cc bb).rdx dU), bF.setCell (HWS.out _ H10.out.2.2.2.2) _⟩
    by_cases gE : wy = 4
    ·subst gE
     have e0 := HM1.out
     unfold Jpi at e0
     rw [if_neg (by decide), if_neg (by decide), if_neg (by decide), if_neg (by decide), if_pos rfl] at e0
     have HE := lh e0
     clear e0 bE HM1
     have dG := Qy HDR.out.1.ok
     have eN : kk < M0.counts.length := by rw [dG.tabs, HDR.out.2.2.2]; exact fU
     have jO : M0.counts.length = n3 := ReadsS.len HO.out.1.read.counts
     obtain ⟨gT, rfl⟩ := HO.out.1.counts.addr (by omega)
     obtain ⟨t, ht⟩ : ∃ t, M0.counts[kk]? = some t := ⟨_, List.getElem?_eq_getElem eN⟩
     have aW : M0.words.length = n1 := HO.out.1.read.words.len
     have eP : 1 <= t.length := by rw [(dG.fits t (List.mem_of_getElem? ht)).1, aW]; omega
     obtain ⟨At, ct, d1, d2, d3, d4, d5, d6⟩ := (HO.out.1.next (Jt wc)).rdxTab dU ht eP
     obtain ⟨Ad, dV⟩ : ∃ Ad, Jg4 At ct 1 1 = Ad := ⟨_, rfl⟩
     rw [dV] at d6
     have hcut : ∀ w' : World, (Instr.slice 65 (.slice At t.length ct) (some (.int .i64 1)) none none).run Tryz.prog w' = .ok (.slice Ad (t.length - 1) (ct - 1)) w' := fun w' => by
      have := Ji0 (P := Tryz.prog) (Tryz.eltZ2).under (Tryz.eltZ2).info At t.length ct .i64 1 (by omega) (by omega) w'
      rw [show (1 : Int).toNat = 1 from rfl, dV] at this
      exact this
     have k1 : (kk : Int) < (n3 : Int) := by omega
     have bT : g ≠ gT := fun e => HO.out.2.2.2 (by rw [e]; exact d5)
     have e9 : ({ M0 with counts := M0.counts.set kk (t.drop 1) } : BM) = M1 := by rw [<- HE.out, List.getD_eq_getElem?_getD, ht, Option.getD_some]
     have HS := lh (And.intro d4 (And.intro bT (And.intro d6 e9)))
     clear d4 d5 d6 d2 bT e9 dG ht jO aW eN dV
     go_wp2_with fail
     refine Jo4 10 (fun i => ([.pointer (some ⟨g, 5, none⟩), .slice (some ⟨gT, 0, none⟩) n3 c3, .int .i64 (kk : Int), .pointer (some ⟨g, 5, none⟩), .slice (some ⟨gT, 0, none⟩) n3 c3, .int .i64 (kk : Int), .pointer (some ⟨gT, kk, none⟩), .slice At t.length ct, .slice Ad (t.length - 1) (ct - 1), .pointer (some ⟨gT, kk, none⟩)] : List Value).getD i undef) (wc.drew.setCell ⟨gT, kk, none⟩ (.slice Ad (t.length - 1) (ct - 1))) (by kernel_rfl) (by kernel_rfl) (by kernel_rfl) (by kernel_rfl) ?_ ?_ [some 143, some 144, some 145, some 146, some 147, some 148, some 149, some 150, some 151, some 152, none] rfl ?_
     ·refine ⟨⟨⟨⟨⟨⟨⟨⟨⟨⟨trivial, ?_⟩, ?_⟩, ?_⟩, ?_⟩, ?_⟩, ?_⟩, ?_⟩, ?_⟩, ?_⟩, ?_⟩ <;> intro d a' hS hp
      ·have e1 : a'.tmps[17]?.getD undef = .pointer (some ⟨g, 0, none⟩) := hS.arg 17
       refine ⟨_, rfl, .inl ⟨rfl, (show _ = Result.ok (Next.value (.pointer (some ⟨g, 5, none⟩))) _ from ?_)⟩⟩
       clear hS hp
       go_simp
      ·have e1 : a'.tmps[143]?.getD undef = .pointer (some ⟨g, 5, none⟩) := hS.res 0 143 (hp 0)
       refine ⟨_, rfl, .inl ⟨rfl, (show _ = Result.ok (Next.value (.slice (some ⟨gT, 0, none⟩) n3 c3)) _ from ?_)⟩⟩
       clear hS hp
       go_simp
      ·have e1 : a'.tmps[21]?.getD undef = .int .i64 (kk : Int) := hS.arg 21
       refine ⟨_, rfl, .inl ⟨rfl, (show _ = Result.ok (Next.value (.int .i64 (kk : Int))) _ from ?_)⟩⟩
       clear hS hp
       go_simp
      ·have e1 : a'.tmps[17]?.getD undef = .pointer (some ⟨g, 0, none⟩) := hS.arg 17
       refine ⟨_, rfl, .inl ⟨rfl, (show _ = Result.ok (Next.value (.pointer (some ⟨g, 5, none⟩))) _ from ?_)⟩⟩
       clear hS hp
       go_simp
      ·have e1 : a'.tmps[146]?.getD undef = .pointer (some ⟨g, 5, none⟩) := hS.res 3 146 (hp 3)
       refine ⟨_, rfl, .inl ⟨rfl, (show _ = Result.ok (Next.value (.slice (some ⟨gT, 0, none⟩) n3 c3)) _ from ?_)⟩⟩
       clear hS hp
       go_simp
      ·have e1 : a'.tmps[21]?.getD undef = .int .i64 (kk : Int) := hS.arg 21
       refine ⟨_, rfl, .inl ⟨rfl, (show _ = Result.ok (Next.value (.int .i64 (kk : Int))) _ from ?_)⟩⟩
       clear hS hp
       go_simp
      ·have e1 : a'.tmps[147]?.getD undef = .slice (some ⟨gT, 0, none⟩) n3 c3 := hS.res 4 147 (hp 4)
       have e2 : a'.tmps[148]?.getD undef = .int .i64 (kk : Int) := hS.res 5 148 (hp 5)
       refine ⟨_, rfl, .inl ⟨rfl, (show _ = Result.ok (Next.value (.pointer (some ⟨gT, kk, none⟩))) _ from ?_)⟩⟩
       clear hS hp
       go_simp
      ·have e1 : a'.tmps[149]?.getD undef = .pointer (some ⟨gT, kk, none⟩) := hS.res 6 149 (hp 6)
       refine ⟨_, rfl, .inl ⟨rfl, (show _ = Result.ok (Next.value (.slice At t.length ct)) _ from ?_)⟩⟩
       clear hS hp
       go_simp
      ·have e1 : a'.tmps[150]?.getD undef = .slice At t.length ct := hS.res 7 150 (hp 7)
       refine ⟨_, rfl, .inl ⟨rfl, (show _ = Result.ok (Next.value (.slice Ad (t.length - 1) (ct - 1))) _ from ?_)⟩⟩
       clear hS hp
       go_simp
      ·have e1 : a'.tmps[144]?.getD undef = .slice (some ⟨gT, 0, none⟩) n3 c3 := hS.res 1 144 (hp 1)
       have e2 : a'.tmps[145]?.getD undef = .int .i64 (kk : Int) := hS.res 2 145 (hp 2)
       refine ⟨_, rfl, .inl ⟨rfl, (show _ = Result.ok (Next.value (.pointer (some ⟨gT, kk, none⟩))) _ from ?_)⟩⟩
       clear hS hp
       go_simp
     ·intro d a' hS hd
      have e1 : a'.tmps[152]?.getD undef = .pointer (some ⟨gT, kk, none⟩) := hS.res 9 152 (hd 9 (by decide)) rfl (by kernel_rfl)
      have e2 : a'.tmps[151]?.getD undef = .slice Ad (t.length - 1) (ct - 1) := hS.res 8 151 (hd 8 (by decide)) rfl (by kernel_rfl)
      refine ⟨_, rfl, rfl, .inl ⟨?_, rfl⟩⟩
      clear hS hd
      go_simp
     simp only [Exit.inBlock, Exit.then, Jd7, Act.put, List.setIfInBounds_toArray, List.set_cons_succ, List.set_cons_zero]
     refine ‹∀ (a' : Act) (w' : World), _ -> _› _ _ ?_
     go_wp2_with fail
     go_meet
     rw [<- HS.out.2.2.2]
     exact ⟨rfl, DrQ.of (W := ⟨A1, n1, c1⟩) (S := ⟨A2, n2, c2⟩) (C := ⟨some ⟨gT, 0, none⟩, n3, c3⟩) (BK.out.drew.far HS.out.2.1 _) (HZQ.out _ ((HB6.out.trans ((Jt wc).mono HB6.out.size)).setCell HS.out.1 _)) HS.out.2.2.1, (HBV.out.trans ((Jt wc).mono HBV.out.size)).setCell (HWS.out _ HS.out.1) _⟩
    have bU : ¬ (wy = 0 \/ wy = 1 \/ wy = 2 \/ wy = 3 \/ wy = 4 \/ wy = 5 \/ wy = 6) := by omega
    have nZ : 7 <= wy := by omega
    clear fY j8 aV aU gE lZ lV
    have e0 := HM1.out
    rw [Jo2 bU] at e0
    have HE := lh e0
    have p0 : (wy == 0) = false := by simp; omega
    have p1 : (wy == 1) = false := by simp; omega
    have p2 : (wy == 2) = false := by simp; omega
    have p3 : (wy == 3) = false := by simp; omega
    have p4 : (wy == 4) = false := by simp; omega
    have p5 : (wy == 5) = false := by simp; omega
    have p6 : (wy == 6) = false := by simp; omega
    have r0 : ¬ wy = 0 := by omega
    have r1 : ¬ wy = 1 := by omega
    have r2 : ¬ wy = 2 := by omega
    have r3 : ¬ wy = 3 := by omega
    have r4 : ¬ wy = 4 := by omega
    have r5 : ¬ wy = 5 := by omega
    have r6 : ¬ wy = 6 := by omega
    clear e0 bU bE HM1
    go_wp2_with fail
    go_meet
    rw [<- HE.out]
    have b0c := B0.out.below HBV.out B0.out.lt
    exact ⟨rfl, ⟨ng, A7, A8, l7, d7, l8, d8, ⟨A1, n1, c1⟩, ⟨A2, n2, c2⟩, ⟨A3, n3, c3⟩, BK.out, fun w' hx => ⟨by rw [HDR.out.2.2.1]; exact ((HIQ.out.below HB6.out).more HB6.out.size).excB b0c Jq1 hx, (HO.out.1.exc hx (fun e => by have := HO.out.1.from1 _ e; omega) (fun e => by have := HO.out.1.from2 _ e; omega) (fun e => by have := HO.out.1.from3 _ e; omega)).read⟩⟩, HBV.out⟩
   case rest =>
    obtain ⟨rfl, ⟨ng', A7', A8', l7', d7', l8', d8', W', S', C', bk, hq⟩, bF⟩ := hcut
    rename World => wd
    obtain ⟨y0, y1, y2, y3, y4, y5⟩ := bk.c6
    have BR := lh (B0.out.below bF B0.out.lt)
    have HQ := lh hq
    have HBD := lh (HBW.out.trans (bF.mono HBW.out.size))
    clear bk hq bF HP3 HP4 HP5 HP6 x0 x1 x2 x3 x4 x5 HDR HO BK HB6 HRW HIQ HB5 bE HI HL H HWL HN HM
    simp only [SW.v] at y3 y4 y5
    generalize hgR : w.heap.size = gR at BR HQ ⊢
    go_wp2_with (refine Jr rfl _ (.tmp 14) (.tmp 165) rfl gR #[.bool ng', .slice A7' l7' d7', .slice A8' l8' d8', .slice W'.A W'.n W'.c, .slice S'.A S'.n S'.c, .slice C'.A C'.n C'.c] _ rfl rfl _ BR.out (by kernel_rfl) rfl (by simp [Value.oneCell']) ?_; intro w7 aR fE; have HX7 := lh fE; have HB7 := lh aR; clear fE aR y0 y1 y2 y3 y4 y5)
    obtain ⟨p0, p1, p2, p3, p4, p5⟩ := HB7.out.c6
    refine bodyPost_ret (v := .agg #[.bool ng', .slice A7' l7' d7', .slice A8' l8' d8', .slice W'.A W'.n W'.c, .slice S'.A S'.n S'.c, .slice C'.A C'.n C'.c]) (by simp [results, Tryz.results12, go_sem, p0, p1, p2, p3, p4, p5]) rfl ?_
    exact ⟨_, rfl, ⟨ng', A7', A8', l7', d7', l8', d8', W', S', C', rfl, (HQ.out w7 HX7.out).1, (HQ.out w7 HX7.out).2⟩, HBD.out.trans (HX7.out.below HBD.out.size (Nat.le_of_eq hgR))⟩
theorem Juk {m : BM} (h : LenB m) (way a b : Int) : LenB (Jo6 m way a b) := by
 have cP : ∀ {l : List (List (List Int))} {k : Nat} {t : List (List Int)}, (∀ x ∈ l, x.length <= 1000 /\ ∀ o0 ∈ x, o0.length <= 1000) -> (t.length <= 1000 /\ ∀ o0 ∈ t, o0.length <= 1000) -> ∀ x ∈ l.set k t, x.length <= 1000 /\ ∀ o0 ∈ x, o0.length <= 1000 := fun h1 h2 x hx => (List.mem_or_eq_of_mem_set hx).elim (h1 x) fun e => e ▸ h2
 have bV : ∀ k, ((m.counts.getD k []).length <= 1000 /\ ∀ o0 ∈ m.counts.getD k [], o0.length <= 1000) := fun k => by
  rw [List.getD_eq_getElem?_getD]
  cases e : m.counts[k]? with
  | none => exact ⟨Nat.zero_le _, fun o0 hc => by cases hc⟩
  | some t => exact h.rows t (List.mem_of_getElem? e)
 unfold Jo6
 simp only
 split
 ·exact ⟨h.words, by rw [List.length_set]; exact h.seen, h.counts, h.rows⟩
 split
 ·refine ⟨h.words, h.seen, by rw [List.length_set]; exact h.counts, cP h.rows ⟨by rw [List.length_set]; exact (bV _).1, fun o0 hc => ?_⟩⟩
  rcases List.mem_or_eq_of_mem_set hc with h1 | rfl
  ·exact (bV _).2 o0 h1
  rw [List.length_set, List.getD_eq_getElem?_getD]
  cases e : (m.counts.getD (a % (m.seen.length : Int)).toNat [])[((a.tdiv 3) % (m.words.length : Int)).toNat]? with
  | none => exact Nat.zero_le _
  | some o0 => exact (bV _).2 o0 (List.mem_of_getElem? e)
 split
 ·exact ⟨h.words, h.seen, h.counts, h.rows⟩
 split
 ·exact ⟨by rw [List.length_set]; exact h.words, h.seen, h.counts, h.rows⟩
 split
 ·exact ⟨h.words, h.seen, by rw [List.length_set]; exact h.counts, cP h.rows ⟨by rw [List.length_drop]; have := (bV (a % (m.seen.length : Int)).toNat).1; omega, fun o0 hc => (bV _).2 o0 (List.mem_of_mem_drop hc)⟩⟩
 split
 ·exact ⟨h.words, by rw [List.length_drop]; have := h.seen; omega, h.counts, h.rows⟩
 split
 ·exact ⟨h.words, by rw [List.length_set]; exact h.seen, h.counts, h.rows⟩
 exact h
theorem Jum {m : BM} (h : QS 1000 m.smooth) (way a b : Int) : QS 1000 (Jo6 m way a b).smooth := by
 have hb : QS 1000 (((b % 9 - 2 : Int)) : Rat) := by
  have h0 : 0 <= b % 9 /\ b % 9 < 9 := by omega
  rcases Int.le_total 0 (b % 9 - 2) with h1 | h1
  ·exact (QS.cnt (k := 4) h1 (by omega) (by omega)).mono (by omega)
  have h2 := (QS.cnt (k := 4) (n := -(b % 9 - 2)) (by omega) (by omega) (by omega)).neg
  rw [show ((-(b % 9 - 2) : Int) : Rat) = -(((b % 9 - 2 : Int)) : Rat) from Rat.intCast_neg _, Rat.neg_neg] at h2
  exact h2.mono (by omega)
 unfold Jo6
 simp only
 split
 ·exact h
 split
 ·exact h
 split
 ·exact hb
 split
 ·exact h
 split
 ·exact h
 split
 ·exact h
 split
 ·exact h
 exact h
theorem Ju3 {l : List Int} {k : Nat} {x : Int} (h : l[k]? = some x) : Jux l (k + 1) = Jux l k ++ [x % 6 - 2] := by
 have hk := (List.getElem?_eq_some_iff.1 h).1
 unfold Jux
 rw [<- List.take_append_getElem hk, List.map_append]
 rw [List.getElem?_eq_getElem hk] at h
 rw [Option.some.inj h]
 rfl
theorem Ju0 (l : List Int) (k : Nat) : (Jux l k).length = min k l.length := by simp [Jux]
theorem Ju4 (A : Option Addr) (n c : Nat) (l : List Int) (m B : Nat) (w : World) (h : ReadsI w B A n l) (hB : B <= w.heap.size) (hn : n <= 9223372036854775807) (hl : ∀ x ∈ l, -9223372036854775808 <= x /\ x <= 9223372036854775807) (hm : m <= 1000) :
  Calls Tryz.prog 30 #[.slice A n c, .int .i64 (m : Int)] w fun e w' => ∃ v, e = .returned v /\ Own w' 3 zv v (Jux l m) /\ (∀ b, v.ownBlock = some b -> w.heap.size <= b) /\ Below w.heap.size w w' := by
 have fJ : l.length = n := h.len
 have H := lh (And.intro h (And.intro hl fJ))
 have HBB := lh hB
 clear h hl fJ hB
 go_enter Tryz.func30, Tryz.ntmps30
 go_wp2_with fail
 go_loopw [5, 6] (fun v p wr => ∃ k : Nat, k <= n /\ k <= m /\ p = .int .i64 (k : Int) /\ Own wr 3 zv v (Jux l k) /\ (∀ b, v.ownBlock = some b -> w.heap.size <= b) /\ Below w.heap.size w wr) (fun _ p _ => n - (intOf p).toNat)
 case atStart => exact ⟨0, by omega, by omega, rfl, Own.nil_ _ _ _, (fun b h => by cases h), Below.refl _ _⟩
 case round =>
  obtain ⟨k, hk, iA, rfl, ho, p9, j9⟩ := hrel
  rename World => wr
  have HO := lh (And.intro ho (And.intro p9 j9))
  obtain ⟨AV, cV, hv, -⟩ := ho.form
  have jR : (Jux l k).length = k := by rw [Ju0, H.out.2.2]; omega
  rw [jR] at hv
  have HOL := lh jR
  subst hv
  clear jR
  by_cases iC : k < n
  ·by_cases pN : k < m
   ·have k1 : (k : Int) < (n : Int) := by omega
    have k2 : (k : Int) < (m : Int) := by omega
    obtain ⟨ad, x, rfl, lM, hx, dF⟩ := H.out.1.at_ iC
    have oA := Qg (j9.mono HBB.out) dF lM
    have jS := H.out.2.1 x (List.mem_of_getElem? hx)
    have iK := fun w' => Jpd x 6 w' jS.1 jS.2 (by decide) (by decide)
    rw [show ((6 : Nat) : Int) = 6 from rfl] at iK
    have j0 := Ju3 hx
    obtain ⟨y, hy⟩ : ∃ y, x % 6 = y := ⟨_, rfl⟩
    rw [hy] at iK j0
    have pO : 0 <= y /\ y < 6 := by omega
    obtain ⟨u, hu⟩ : ∃ u, y - 2 = u := ⟨_, rfl⟩
    have pP : IntKind.i64.wrap (y - 2) = u := by rw [hu]; exact IntWalk.i64_in _ (by omega)
    rw [hu] at j0
    have HPX := lh iK
    have HWN := lh j0
    clear iK j0 hy hu hx dF jS ho p9 j9
    go_wp2_with fail
    refine (HPX.out _).mono ?_
    rintro e w5 ⟨rfl, rfl⟩
    go_wp2_with (at_builtin; refine Joi (f := zv) Tryz.eltZ1 rfl (.tmp 18) (.tmp 25) rfl wr _ (Jux l k) u (.int .i64 u) rfl rfl HO.out.1 (by simp [Act.eval]) rfl (by rw [HOL.out]; unfold maxLen; omega) (by rw [HOL.out]; omega) ?_; intro v' w6 jT eQ; have bM := HO.out.2.2.trans (eQ.below HO.out.2.2.size HO.out.2.1); have mC := eQ.fresh HO.out.2.2.size HO.out.2.1; rw [<- HWN.out] at jT; have H6 := lh (And.intro jT (And.intro mC bM)); clear bM mC jT eQ)
    exact ⟨⟨k + 1, by omega, by omega, by go_num, H6.out.1, H6.out.2.1, H6.out.2.2⟩, by simp [intOf]; omega⟩
   obtain rfl : m = k := by omega
   have k1 : (m : Int) < (n : Int) := by omega
   have k2 : ¬ (m : Int) < (m : Int) := by omega
   clear ho p9 j9
   go_wp2
   go_ret
   exact ⟨_, rfl, HO.out.1, HO.out.2.1, HO.out.2.2⟩
  obtain rfl : n = k := by omega
  have k1 : ¬ (n : Int) < (n : Int) := by omega
  have he : Jux l n = Jux l m := by
   unfold Jux
   rw [List.take_of_length_le (by rw [H.out.2.2]; omega), List.take_of_length_le (by rw [H.out.2.2]; omega)]
  have HE := lh he
  clear ho p9 j9 he
  go_wp2
  go_ret
  exact ⟨_, rfl, by rw [<- HE.out]; exact HO.out.1, HO.out.2.1, HO.out.2.2⟩
theorem Jva (n al wy : Int) (s : Rat) (m B : Nat) (V : Value) (w : World) (h : IsQ w B V s) (aN : B <= w.heap.size) (hn : 0 <= n /\ n < 1099511627776) (ha : 0 <= al /\ al < 1099511627776) (hw : 1 <= wy /\ wy < 1099511627776) (hs : QS m s) (hm : 1 <= m) (pQ : m <= 1000000) (hp : 0 < s) :
  Calls Tryz.prog 72 #[.int .i64 n, .int .i64 al, .int .i64 wy, V] w (Jmv (Zu n al wy s) w) := by
 have q1 : QS 40 (n : Rat) := QS.cnt hn.1 (by simpa using hn.2) (by omega)
 have q2 : QS 40 (al : Rat) := QS.cnt ha.1 (by simpa using ha.2) (by omega)
 have q3 : QS 40 (wy : Rat) := QS.cnt (by omega) (by simpa using hw.2) (by omega)
 have mD : (al : Rat) + s * (wy : Rat) ≠ 0 := fun e => by
  have h1 : (0 : Rat) < s * (wy : Rat) := Rat.mul_pos hp (Jem hw.1)
  have h2 := Ja0 h1 (Ul ha.1)
  rw [Rat.add_comm, e] at h2
  exact absurd h2 (Rat.lt_irrefl)
 have HO1 := lh (fun w => Jus n w (by omega) (by omega))
 have HO2 := lh (fun w => Jus al w (by omega) (by omega))
 have HO3 := lh (fun w => Jus wy w (by omega) (by omega))
 obtain ⟨n0, A0, l0, c0c, A0', l0', c0c', rfl⟩ := h.shape
 unfold Zu
 generalize (n : Rat) = r1 at *
 generalize (al : Rat) = r2 at *
 generalize (wy : Rat) = r3 at *
 have q4 := (q1.add hs).mono (show _ <= 2000000 by omega)
 have q5 := (hs.mul q3).mono (show _ <= 2000000 by omega)
 have q6 := (q2.add q5).mono (show _ <= 5000000 by omega)
 have HQ1 := lh (q1.mono (show _ <= 68719476736 by omega))
 have HQ2 := lh (q2.mono (show _ <= 68719476736 by omega))
 have HQ3 := lh (q3.mono (show _ <= 68719476736 by omega))
 have HQ4 := lh (q4.mono (show _ <= 68719476736 by omega))
 have HQ5 := lh (q5.mono (show _ <= 68719476736 by omega))
 have HQ6 := lh (q6.mono (show _ <= 68719476736 by omega))
 have HQS := lh (hs.mono (show _ <= 68719476736 by omega))
 have HD0 := lh mD
 have H1 := lh h
 clear h q1 q2 q3 q4 q5 q6 hs mD hp hn ha hw
 obtain ⟨b0, b1, hB, hZ⟩ := bx2 w 28 #[.bool n0, .slice A0 l0 c0c, .slice A0' l0' c0c'] 28 #[.bool false, .slice none 0 0, .slice none 0 0]
 have ne1 := neE w.heap.size
 have ne2 := neF w.heap.size
 go_enter Tryz.func72, Tryz.ntmps72
 go_upto_region 1 with fail
 generalize ((w.alloc (.cells #[.bool n0, .slice A0 l0 c0c, .slice A0' l0' c0c'] 28)).alloc (.cells #[.bool false, .slice none 0 0, .slice none 0 0] 28)) = W at *
 have fX : B <= W.heap.size := nt aN hB.size
 have G1 : Hid (∀ w', Below W.heap.size W w' -> IsQ w' w'.heap.size (.agg #[.bool n0, .slice A0 l0 c0c, .slice A0' l0' c0c']) s) := lh fun w' hb => ((H1.out.next aN hB).next fX hb).more (nt fX hb.size)
 clear H1
 obtain ⟨dX, dY, dZ⟩ := b0.c3
 obtain ⟨dX, dY, dZ⟩ := b0.c3; have c0 := b0.drew; have aY := c0.lt; have c1 := b1.drew; have aO := c1.lt; have hc := Jt W; go_region_held3 (fun w' => w'.cell? ⟨w.heap.size, 0, none⟩ = some (.bool n0) /\ w'.cell? ⟨w.heap.size, 1, none⟩ = some (.slice A0 l0 c0c) /\ w'.cell? ⟨w.heap.size, 2, none⟩ = some (.slice A0' l0' c0c')) (go_keep) (first | ((first | (go_at_call 48; (with_reducible refine (HO1.out _).mono ?_); rintro e w1 ⟨v1, rfl, aP, j0⟩; obtain ⟨g1, A1, l1, c1c, A1', l1', c1c', jU⟩ := aP.shape; subst jU) | (go_at_call 113; (with_reducible refine (Jve r1 s _ _ _ _ aP (G1.out _ hc) zd HQ1.out HQS.out).mono ?_); rintro e w2 ⟨v2, rfl, y9, j0⟩; obtain ⟨g2, A2, l2, c2c, A2', l2', c2c', gF⟩ := y9.shape; subst gF; have aP := (aP.next zd j0).more j0.size) | (go_at_call 48; (with_reducible refine (HO2.out _).mono ?_); rintro e w3 ⟨v3, rfl, bJ, j0⟩; obtain ⟨g3, A3, l3, c3c, A3', l3', c3c', jV⟩ := bJ.shape; subst jV; have aP := (aP.next zd j0).more j0.size; have y9 := (y9.next zd j0).more j0.size) | (go_at_call 48; (with_reducible refine (HO3.out _).mono ?_); rintro e w4 ⟨v4, rfl, dH, j0⟩; obtain ⟨g4, A4, l4, c4c, A4', l4', c4c', oB⟩ := dH.shape; subst oB; have aP := (aP.next zd j0).more j0.size; have y9 := (y9.next zd j0).more j0.size; have bJ := (bJ.next zd j0).more j0.size) | (go_at_call 73; (with_reducible refine (Jvk s r3 _ _ _ _ (G1.out _ hc) dH zd HQS.out HQ3.out).mono ?_); rintro e w5 ⟨v5, rfl, eU, j0⟩; obtain ⟨g5, A5, l5, c5c, A5', l5', c5c', oC⟩ := eU.shape; subst oC; have aP := (aP.next zd j0).more j0.size; have y9 := (y9.next zd j0).more j0.size; have bJ := (bJ.next zd j0).more j0.size; have dH := (dH.next zd j0).more j0.size) | (go_at_call 113; (with_reducible refine (Jve r2 (s * r3) _ _ _ _ bJ eU zd HQ2.out HQ5.out).mono ?_); rintro e w6 ⟨v6, rfl, iL, j0⟩; obtain ⟨g6, A6, l6, c6c, A6', l6', c6c', iH⟩ := iL.shape; subst iH; have aP := (aP.next zd j0).more j0.size; have y9 := (y9.next zd j0).more j0.size; have bJ := (bJ.next zd j0).more j0.size; have dH := (dH.next zd j0).more j0.size; have eU := (eU.next zd j0).more j0.size) | (go_at_call 75; (with_reducible refine (Jvg (r1 + s) (r2 + s * r3) _ _ _ _ y9 iL zd HQ4.out HQ6.out HD0.out).mono ?_); rintro e w7 ⟨v7, rfl, mE, j0⟩; obtain ⟨g7, A7, l7, c7c, A7', l7', c7c', oD⟩ := mE.shape; subst oD; have aP := (aP.next zd j0).more j0.size; have y9 := (y9.next zd j0).more j0.size; have bJ := (bJ.next zd j0).more j0.size; have dH := (dH.next zd j0).more j0.size; have eU := (eU.next zd j0).more j0.size; have iL := (iL.next zd j0).more j0.size; have lst := True.intro)); (try clear aG aH aI); obtain ⟨c0, aG, aH, aI⟩ := c0.zc3 j0; (try clear aY); have aY := c0.lt; have c1 := c1.below j0 c1.lt; (try clear aO); have aO := c1.lt; have hc := Ja hc j0; (try (clear lst; obtain ⟨aA, aB, aQ, oE, oF, oG, jW, jX, jY⟩ := c1.f3))))
 all_goals
  go_wp2
  refine bodyPost_ret (v := .agg #[.bool g7, .slice A7 l7 c7c, .slice A7' l7' c7c']) (by simp [results, Tryz.results72, go_sem, jW, jX, jY]) rfl ?_
  exact Jd4 hB hc mE c1 (by omega)
def Jvm (W : World) (q : Rat) (v : Value) (wc : World) : Prop :=
 ∃ g ng A l c A' l' c', v = .pointer (some ⟨g, 0, none⟩) /\ W.heap.size <= g /\ Blk wc g 28 #[.bool ng, .slice A l c, .slice A' l' c'] /\ IsQ wc wc.heap.size (.agg #[.bool ng, .slice A l c, .slice A' l' c']) q /\ Below W.heap.size W wc
theorem Jvo {W wn : World} {q : Rat} {l c l' c' : Nat} {ng : Bool} {A A' : Option Addr} (hc : Below W.heap.size W wn) (hQ : IsQ wn wn.heap.size (.agg #[.bool ng, .slice A l c, .slice A' l' c']) q) :
  Jvm W q (.pointer (some ⟨wn.heap.size, 0, none⟩)) (wn.alloc (.cells #[.bool ng, .slice A l c, .slice A' l' c'] 28)) :=
 ⟨_, _, _, _, _, _, _, _, rfl, hc.size, Blk.new _ _ _, (hQ.next zd (Jb _ _)).more (Jb _ _).size, Ja hc (Jb _ _)⟩
theorem Jvc {W wn : World} {q : Rat} {g l c l' c' : Nat} {ng : Bool} {A A' : Option Addr} (hc : Below W.heap.size W wn) (hQ : IsQ wn wn.heap.size (.agg #[.bool ng, .slice A l c, .slice A' l' c']) q)
  (ca : Blk wn g 28 #[.bool false, .slice none 0 0, .slice none 0 0]) (hg : W.heap.size <= g) :
  Jvm W q (.pointer (some ⟨g, 0, none⟩)) (((wn.setCell ⟨g, 0, none⟩ (.bool ng)).setCell ⟨g, 1, none⟩ (.slice A l c)).setCell ⟨g, 2, none⟩ (.slice A' l' c')) := by
 refine ⟨_, _, _, _, _, _, _, _, rfl, hg, by simpa using ((ca.set_ 0 (.bool ng)).set_ 1 (.slice A l c)).set_ 2 (.slice A' l' c'), ?_, Kw hc hg _ _ _⟩
 rw [World.size_setCell, World.size_setCell, World.size_setCell]
 exact hQ.set3 ca _ _ _ _ _ _ _
theorem Jvj {W wn : World} {q : Rat} {l c l' c' : Nat} {ng : Bool} {A A' : Option Addr} (hc : Below W.heap.size W wn) (hQ : IsQ wn wn.heap.size (.agg #[.bool ng, .slice A l c, .slice A' l' c']) q) :
  Jvm W q (.pointer (some ⟨wn.heap.size, 0, none⟩)) ((((wn.alloc (.cells #[.bool false, .slice none 0 0, .slice none 0 0] 28)).setCell ⟨wn.heap.size, 0, none⟩ (.bool ng)).setCell ⟨wn.heap.size, 1, none⟩ (.slice A l c)).setCell ⟨wn.heap.size, 2, none⟩ (.slice A' l' c')) :=
 Jvc (Ja hc (Jb _ _)) ((hQ.next zd (Jb _ _)).more (Jb _ _).size) (Blk.new _ _ _) hc.size
def WgR (W : World) (gx : Nat) (x : Rat) (wi : World) : Prop := ∃ g A l c A' l' c', Blk wi gx 28 #[.bool g, .slice A l c, .slice A' l' c'] /\ IsQ wi wi.heap.size (.agg #[.bool g, .slice A l c, .slice A' l' c']) x /\ Below W.heap.size W wi
theorem Ju6 (ng : Bool) (A7 A8 : Option Addr) (l7 d7 l8 d8 : Nat) (X1 X2 X3 : Option Addr) (n1 s1 n2 s2 n3 s3 B : Nat) (m : BM) (A4 : Option Addr) (n4 s4 : Nat) (row : List Int) (w : World) (h : RdB w B ⟨X1, n1, s1⟩ ⟨X2, n2, s2⟩ ⟨X3, n3, s3⟩ m) (hq : IsQ w B (.agg #[.bool ng, .slice A7 l7 d7, .slice A8 l8 d8]) m.smooth) (h4 : ReadsI w B A4 n4 row) (hB : B <= w.heap.size) (hL : LenB m) (jZ : n4 <= 1000) (hs : QS 1000 m.smooth) :
  Calls Tryz.prog 37 #[.agg #[.bool ng, .slice A7 l7 d7, .slice A8 l8 d8, .slice X1 n1 s1, .slice X2 n2 s2, .slice X3 n3 s3], .slice A4 n4 s4] w fun e w' => ∃ v, e = .returned (.tuple #[v, .int .i64 (Qo m row).2]) /\ OwnR w' v (Qo m row).1 /\ (∀ b, v.ownBlock = some b -> w.heap.size <= b) /\ Below w.heap.size w w' := by
 have j8 : m.words.length = n1 := h.words.len
 have aV : m.seen.length = n2 := h.seen.len
 have aU : m.counts.length = n3 := ReadsS.len h.counts
 have gE : row.length = n4 := h4.len
 obtain ⟨R, hR⟩ : ∃ R, Qo m row = R := ⟨_, rfl⟩
 rw [hR]
 have HR := lh hR
 clear hR
 obtain ⟨b0, hB, hZ⟩ := bx1 w 31 #[.bool ng, .slice A7 l7 d7, .slice A8 l8 d8, .slice X1 n1 s1, .slice X2 n2 s2, .slice X3 n3 s3]
 go_enter Tryz.func37, Tryz.ntmps37
 go_upto_region 1 with fail
 generalize (w.alloc (.cells #[.bool ng, .slice A7 l7 d7, .slice A8 l8 d8, .slice X1 n1 s1, .slice X2 n2 s2, .slice X3 n3 s3] 31)) = W at *
 rename B <= w.heap.size => aN
 have HCK := lh (Jp2 ng A7 A8 l7 d7 l8 d8 X1 X2 X3 n1 s1 n2 s2 n3 s3 B m W (h.below (hB.mono aN)) (hq.below (hB.mono aN)) (nt aN hB.size) hL)
 have HRE := lh (fun w' (hb : Below w.heap.size w w') => Jo9 ng A7 A8 l7 d7 l8 d8 X1 X2 X3 n1 s1 n2 s2 n3 s3 B m A4 n4 s4 row w' (rkindI.below h.words (hb.mono aN)) (rkindI.below h4 (hb.mono aN)) (nt aN hb.size) jZ)
 have H := lh h
 have HQ := lh hq
 have H4 := lh h4
 have HS := lh hs
 have HW := lh (And.intro j8 (And.intro aV (And.intro aU gE)))
 have HBW := lh hB
 have HBB := lh aN
 obtain ⟨r, hr⟩ : ∃ r, Jk m = r := ⟨_, rfl⟩
 rw [hr] at HCK
 have HRC := lh hr
 obtain ⟨x0, x1, x2, x3, x4, x5⟩ := b0.c6
 clear h hq h4 hL hs j8 aV aU gE hB hZ aN hr
 go_wp2_with fail
 refine HCK.out.mono ?_
 rintro e w1 ⟨rfl, bC⟩
 have b0 := b0.below bC b0.lt
 have HB1 := lh (HBW.out.trans (bC.mono HBW.out.size))
 clear x0 x1 x2 x3 x4 x5 bC HBW HCK
 by_cases kA : r = 0
 case neg =>
  obtain rfl : R = ([], 1) := by rw [<- HR.out]; unfold Qo; rw [if_pos (by unfold Xq; rw [if_pos (.inl (by rw [HRC.out]; exact kA))]; decide)]; unfold Xq; rw [if_pos (.inl (by rw [HRC.out]; exact kA))]
  have q1 : (r != 0) = true := by simp; omega
  have q2 : (r == 0) = false := by simp; omega
  clear b0
  go_wp2
  go_returns
  exact ⟨_, rfl, OwnR.nil _, (fun b h => by cases h), HB1.out⟩
 subst kA
 have hN := Qy HRC.out
 have mF : Xq m row 0 = Zz m row := by unfold Xq; rw [if_neg (by rw [HRC.out]; have := hN.classes; omega)]
 have HSU := lh mF
 obtain ⟨e, he⟩ : ∃ e, Zz m row = e := ⟨_, rfl⟩
 rw [he] at HRE HSU
 obtain ⟨x0, x1, x2, x3, x4, x5⟩ := b0.c6
 have BK := lh b0
 have HN := lh hN
 clear mF he b0 hN
 go_wp2_with fail
 refine (HRE.out _ HB1.out).mono ?_
 rintro e' w2 ⟨rfl, aF⟩
 have BK2 := lh (BK.out.below aF BK.out.lt)
 have HB2 := lh (HB1.out.trans (aF.mono HB1.out.size))
 clear x0 x1 x2 x3 x4 x5 aF HB1 BK HRE
 by_cases mG : e = 0
 case neg =>
  obtain rfl : R = ([], e) := by rw [<- HR.out]; unfold Qo; rw [if_pos (by rw [HSU.out]; exact mG), HSU.out]
  have q1 : (e != 0) = true := by simp; omega
  have q2 : (e == 0) = false := by simp; omega
  go_wp2
  go_returns
  exact ⟨_, rfl, OwnR.nil _, (fun b h => by cases h), HB2.out⟩
 subst mG
 obtain ⟨kB, -, -, kC⟩ := Ye HSU.out
 have fO : n2 <= 12 := by have := HN.out.classes; have := HW.out; omega
 obtain rfl : n3 = n2 := by have := HN.out.tabs; have := HW.out; omega
 obtain rfl : n4 = n1 := by have := kC.1; have := HW.out; omega
 obtain ⟨WL, iM⟩ : ∃ WL, Qr m row = WL := ⟨_, rfl⟩
 obtain ⟨eA, aW, kD⟩ := Jag kB row
 have iE := Jbm (row := row) kB HS.out (by omega)
 rw [iM] at eA aW kD iE
 obtain ⟨al, iN⟩ : ∃ al, Jjk WL = al := ⟨_, rfl⟩
 have oH : R = (WL.map fun x => x / al, 0) := by
  rw [<- HR.out]
  unfold Qo
  rw [if_neg (by rw [HSU.out]; simp), iM, <- iN]
  rfl
 subst oH
 have gG : al ≠ 0 := fun e => by
  have := Jku eA kD
  rw [iN, e] at this
  exact absurd this Rat.lt_irrefl
 have bI : WL.length = n3 := by have := HW.out; omega
 have HWA : Hid (∀ (c : Nat) (s : Int) (t : List (List Int)), m.seen[c]? = some s -> m.counts[c]? = some t -> WL[c]? = some (Xb m.smooth (t.zip row) (Zu s m.seen.sum m.seen.length m.smooth))) := lh fun c s t h1 h2 => by
  rw [<- iM]
  unfold Qr
  rw [List.getElem?_map, show (m.seen.zip m.counts)[c]? = some (s, t) from by rw [List.getElem?_zip_eq_some]; exact ⟨h1, h2⟩]
  rfl
 have HRO := lh kC
 have HWQ := lh iE
 have HAL := lh (And.intro iN gG)
 have HSUM := lh HN.out.all
 clear kC kB iE iN gG eA kD iM aW HR
 go_wp2_with fail
 go_loopw [7, 8] (fun v p wr => ∃ c : Nat, c <= n3 /\ p = .int .i64 (c : Int) /\ OwnR wr v (WL.take c) /\ (∀ b, v.ownBlock = some b -> w2.heap.size <= b) /\ Below w2.heap.size w2 wr) (fun _ p _ => n3 - (intOf p).toNat)
 case atStart => exact ⟨0, by omega, rfl, OwnR.nil _, (fun b h => by cases h), Below.refl _ _⟩
 case round =>
  obtain ⟨c, hc, rfl, ho, p9, j9⟩ := hrel
  rename World => wr
  have HO := lh ho
  have HFR := lh p9
  have HBR := lh j9
  have b0 := BK2.out.below j9 BK2.out.lt
  obtain ⟨z0, z1, z2, z3, z4, z5⟩ := b0.c6
  have HBW := lh (HB2.out.trans (j9.mono HB2.out.size))
  clear ho p9 j9
  by_cases iG : c < n3
  ·as_aux_lemma =>
   have k1 : (c : Int) < (n3 : Int) := by omega
   obtain ⟨ad, ga, oa, sc, rfl, mH, s9, eT, b1w⟩ := H.out.seen.spot (k := c) iG
   obtain ⟨t, ht⟩ : ∃ t, m.counts[c]? = some t := ⟨_, List.getElem?_eq_getElem (by have := HW.out.2.2.1; omega)⟩
   obtain ⟨ad2, gb, ob, A5, n5, v5, rfl, oI, bD, b2w, eB⟩ := H.out.counts.spotB ht
   have dC : t.length = n5 := ReadsS.len eB
   have eC := HN.out.fits t (List.mem_of_getElem? ht)
   obtain rfl : n5 = n4 := by have := eC.1; have := HW.out.1; omega
   have fW := HWA.out c sc t eT ht
   have oJ := HN.out.seen sc (List.mem_of_getElem? eT)
   have hm := HBW.out.mono HBB.out
   have b1 := b1w.below hm s9
   have gH := nt HBB.out HBW.out.size
   have eV := fun w' (hb : Below wr.heap.size wr w') => (Jp1 (some ad) n3 s2 B m.seen w' (rkindI.below H.out.seen ((HBW.out.trans (hb.mono HBW.out.size)).mono HBB.out)) (by omega) (fun x hx => by have := HN.out.seen x hx; omega)).mono (R' := Ret (.int .i64 m.seen.sum) w') (by rintro e w3 ⟨rfl, rfl⟩; exact ⟨rfl, Below.refl _ _⟩)
   have lL := HSUM.out
   rw [HW.out.2.1] at fW
   generalize m.seen.sum = sa at *
   have eD := fun w' (hb : Below wr.heap.size wr w') => Jva sc sa n3 m.smooth 1000 B (.agg #[.bool ng, .slice A7 l7 d7, .slice A8 l8 d8]) w' (HQ.out.below ((HBW.out.trans (hb.mono HBW.out.size)).mono HBB.out)) (nt gH hb.size) ⟨by omega, by omega⟩ ⟨by omega, by omega⟩ ⟨by omega, by omega⟩ HS.out (by omega) (by omega) HN.out.pos
   have kE := Vj (n := sc) (all := sa) (ways := (n3 : Int)) HS.out (by omega) ⟨by omega, by omega⟩ ⟨by omega, by omega⟩ ⟨by omega, by omega⟩
   obtain ⟨x0, gI⟩ : ∃ x0, Zu sc sa (n3 : Int) m.smooth = x0 := ⟨_, rfl⟩
   rw [gI] at fW eD kE
   have HTO := lh eV
   have HPA := lh eD
   have HWC := lh fW
   have HQ0 := lh kE
   have HD := lh (And.intro ht (And.intro dC (And.intro eC.2 (And.intro eB (And.intro b2w bD)))))
   clear eV eD fW kE ht dC eC eB b2w bD oJ hm b1w eT gI gH lL
   go_upto_region 10 with fail
   clear z0 z1 z2 z3 z4 z5
   go_cut [9] (fun v wc => Jvm wr x0 v wc)
   case first =>
    obtain ⟨dX, dY, dZ, kF, kG, kH⟩ := b0.c6; have c0 := b0.drew; have aY := c0.lt; obtain ⟨eE, eF⟩ := b1.c2; have c1 := b1.drew; have aO := c1.lt; have hc := Jt wr; go_region_held3 (fun w' => w'.cell? ⟨w.heap.size, 0, none⟩ = some (.bool ng) /\ w'.cell? ⟨w.heap.size, 1, none⟩ = some (.slice A7 l7 d7) /\ w'.cell? ⟨w.heap.size, 2, none⟩ = some (.slice A8 l8 d8) /\ w'.cell? ⟨w.heap.size, 3, none⟩ = some (.slice X1 n5 s1) /\ w'.cell? ⟨w.heap.size, 4, none⟩ = some (.slice (some ad) n3 s2) /\ w'.cell? ⟨w.heap.size, 5, none⟩ = some (.slice (some ad2) n3 s3) /\ w'.cell? ⟨ga, oa, none⟩ = some (.int .i64 sc)) (go_keep) (first | ((first | (go_at_call 57; (first | with_reducible refine (HTO.out _ hc).mono ?_ | (have kI : wr.heap.size <= wr.heap.size := hc.size; have ca : Blk _ wr.heap.size _ _ := Blk.new wr.drew 28 #[.bool false, .slice none 0 0, .slice none 0 0]; have gJ := Jq (show _ < wr.heap.size from aY) zd; have c0 := c0.alloc (.cells #[.bool false, .slice none 0 0, .slice none 0 0] 28); have gK := Jq (show _ < wr.heap.size from aO) zd; have c1 := c1.alloc (.cells #[.bool false, .slice none 0 0, .slice none 0 0] 28); have hc := Ja hc (Jb _ (.cells #[.bool false, .slice none 0 0, .slice none 0 0] 28)); with_reducible refine (HTO.out _ hc).mono ?_) | (have kI : wr.heap.size <= wr.heap.size := hc.size; have ca : Blk (wr.alloc (.cells #[.bool false, .slice none 0 0, .slice none 0 0] 28)).drew wr.heap.size _ _ := Blk.new wr.drew 28 #[.bool false, .slice none 0 0, .slice none 0 0]; have gJ := Jq (show _ < wr.heap.size from aY) zd; have c0 : Blk (wr.alloc (.cells #[.bool false, .slice none 0 0, .slice none 0 0] 28)).drew _ _ _ := c0.alloc (.cells #[.bool false, .slice none 0 0, .slice none 0 0] 28); have gK := Jq (show _ < wr.heap.size from aO) zd; have c1 : At1 (wr.alloc (.cells #[.bool false, .slice none 0 0, .slice none 0 0] 28)).drew _ _ _ := c1.alloc (.cells #[.bool false, .slice none 0 0, .slice none 0 0] 28); have hc : Below wr.heap.size wr (wr.alloc (.cells #[.bool false, .slice none 0 0, .slice none 0 0] 28)).drew := Ja hc (Jb _ (.cells #[.bool false, .slice none 0 0, .slice none 0 0] 28)); with_reducible refine (HTO.out _ hc).mono ?_)); rintro e w1 ⟨rfl, j0⟩) | (go_at_call 72; (first | with_reducible refine (HPA.out _ hc).mono ?_ | (have kI : wr.heap.size <= w1.heap.size := hc.size; have ca : Blk _ w1.heap.size _ _ := Blk.new w1 28 #[.bool false, .slice none 0 0, .slice none 0 0]; have gJ := Jq (show _ < w1.heap.size from aY) zd; have c0 := c0.alloc (.cells #[.bool false, .slice none 0 0, .slice none 0 0] 28); have gK := Jq (show _ < w1.heap.size from aO) zd; have c1 := c1.alloc (.cells #[.bool false, .slice none 0 0, .slice none 0 0] 28); have hc := Ja hc (Jb _ (.cells #[.bool false, .slice none 0 0, .slice none 0 0] 28)); with_reducible refine (HPA.out _ hc).mono ?_)); rintro e w2 ⟨v2, rfl, y9, j0⟩; obtain ⟨g2, A2, l2, c2c, A2', l2', c2c', gF⟩ := y9.shape; subst gF; have lst := True.intro)); (try have ca := ca.below j0 ca.lt); (try clear aG aH aI aZ bA bB); obtain ⟨c0, aG, aH, aI, aZ, bA, bB⟩ := c0.zc6 j0; (try clear aY); have aY := c0.lt; (try clear aA aB); obtain ⟨c1, aA, aB⟩ := c1.zc2 j0; (try clear aO); have aO := c1.lt; have hc := Ja hc j0; (try (clear lst; (try (have pR := ca.lt; obtain ⟨oK, oL, oM, oN, oO, oP, oQ, oR, oS⟩ := ca.f3))))))
    all_goals
     go_wp2
     go_meet
     first | with_reducible exact Jvo hc y9 | with_reducible exact Jvc hc y9 ca kI | with_reducible exact Jvj hc y9
   case rest =>
    obtain ⟨gx, gn, Z7, u7, e7, Z8, u8, e8, rfl, iO, bx, cJ, bN⟩ := hcut
    rename World => wa
    have HI := lh (show WgR wr gx x0 wa from ⟨gn, Z7, u7, e7, Z8, u8, e8, bx, cJ, bN⟩)
    have HO1 := lh (HO.out.next bN)
    have HBW1 := lh (HBW.out.trans (bN.mono HBW.out.size))
    have HBR1 := lh (HBR.out.trans (bN.mono HBR.out.size))
    have BK3 := lh (BK2.out.below HBR1.out BK2.out.lt)
    have pS := bx.lt
    clear bx cJ bN b0 b1 HTO HPA
    go_upto_block 2 with fail
    go_cut [] (fun wc => ∃ x : Rat, WL[c]? = some x /\ WgR wr gx x wc)
    case first =>
     go_wp2_with fail
     go_loopw [10] (fun p wi => ∃ (i : Nat) (x : Rat), i <= n5 /\ p = .int .i64 (i : Int) /\ Hid (Xb m.smooth ((t.zip row).take i) x0 = x) /\ WgR wr gx x wi) (fun p _ => n5 - (intOf p).toNat)
     case atStart => exact ⟨0, x0, by omega, rfl, lh rfl, HI.out⟩
     case round =>
      obtain ⟨i, x, hi, rfl, eW, kJ⟩ := hrel
      rename World => wi
      clear HI
      by_cases mI : i < n5
      ·as_aux_lemma =>
       have k2 : (i : Int) < (n5 : Int) := by omega
       obtain ⟨xn, Y7, y7, f7, Y8, y8, f8, bx, cJ, cK⟩ := kJ
       have eG := HBW.out.trans (cK.mono HBW.out.size)
       have mJ := HBR.out.trans (cK.mono HBR.out.size)
       obtain ⟨ad4, gd, od, wv, rfl, pT, kK, iP, b4w⟩ := H4.out.spot (k := i) mI
       obtain ⟨ht, dC, eC, eB, b2w, bD⟩ := HD.out
       obtain ⟨o0, bK⟩ : ∃ o0, t[i]? = some o0 := ⟨_, List.getElem?_eq_getElem (by omega)⟩
       obtain ⟨ad9, gw, ow, nw, rfl, pU, gB, iQ, b9w⟩ := H.out.words.spot (k := i) mI
       obtain ⟨ad6, ge, oe, Z7, z7, v7, rfl, pV, cL, b6w, gL⟩ := eB.spotB bK
       have kL : o0.length = z7 := gL.len
       have cR := HN.out.nums t (List.mem_of_getElem? ht) o0 (List.mem_of_getElem? bK)
       have mK := HRO.out.2 i wv nw iP iQ
       have gM := eC i o0 nw bK iQ
       have hm := eG.mono HBB.out
       have gH := nt HBB.out eG.size
       have b4 := b4w.below hm kK
       have b2 := b2w.below hm bD
       have b6 := b6w.below hm cL
       have b9 := b9w.below hm gB
       have b0 := BK2.out.below mJ BK2.out.lt
       have eH : (t.zip row)[i]? = some (o0, wv) := by rw [List.getElem?_zip_eq_some]; exact ⟨bK, iP⟩
       have j6 := Jew m.smooth eH x0
       rw [eW.out] at j6
       have kM : B <= gx := nt HBB.out (nt HBW.out.size iO)
       have n1 : ¬ gx = w.heap.size := by have := BK2.out.lt; have := HBR.out.size; omega
       have n2 : ¬ w.heap.size = gx := by omega
       have n3' : ¬ gd = gx := by omega
       have n4' : ¬ gx = gd := by omega
       have n5' : ¬ gb = gx := by omega
       have n6' : ¬ gx = gb := by omega
       have n7' : ¬ ge = gx := by omega
       have n8' : ¬ gx = ge := by omega
       have n9' : ¬ gw = gx := by omega
       have n0' : ¬ gx = gw := by omega
       by_cases fY : 0 <= wv
       ·obtain ⟨wn, rfl⟩ := Int.eq_ofNat_of_zero_le fY
        rw [Jb4 _ _ _ fY] at j6
        obtain ⟨ad8, gc, oc, cv, rfl, pW, mL, dI, b8w⟩ := gL.spot (k := wn) (by omega)
        have mM : o0.getD ((wn : Int)).toNat 0 = cv := by
         rw [Int.toNat_natCast, List.getD_eq_getElem?_getD, dI]
         rfl
        have kN := cR.1 cv (List.mem_of_getElem? dI)
        have eV := fun w' (hb : Below wi.heap.size wi w') => (Jp1 (some ad8) z7 v7 B o0 w' (rkindI.below gL ((eG.trans (hb.mono eG.size)).mono HBB.out)) (by omega) (fun x hx => by have := cR.1 x hx; omega)).mono (R' := Ret (.int .i64 o0.sum) w') (by rintro e w3 ⟨rfl, rfl⟩; exact ⟨rfl, Below.refl _ _⟩)
        have gO : QS (3200 + 20 * 3200) x := by
         have hq := Ub (s := m.smooth) (m := 1000) HS.out (by omega) ((t.zip row).take i) x0 3200 (fun p hp => by
          obtain ⟨j, hj⟩ := List.getElem?_of_mem (List.mem_of_mem_take hp)
          rw [List.getElem?_zip_eq_some] at hj
          have := HN.out.nums t (List.mem_of_getElem? ht) p.1 (List.mem_of_getElem? hj.1)
          exact ⟨fun n hn => by have := this.1 n hn; omega, by omega, by omega⟩) HQ0.out
         rw [eW.out] at hq
         refine hq.mono ?_
         have h1 : ((t.zip row).take i).length <= 20 := by rw [List.length_take]; have := HN.out.cols.2; have := HW.out.1; omega
         have := Nat.mul_le_mul_right 3200 h1
         omega
        simp only at j6
        rw [mM, kL] at j6
        obtain ⟨sc2, gP⟩ : ∃ sc2, o0.sum = sc2 := ⟨_, rfl⟩
        rw [gP] at eV j6
        have eD := fun w' (hb : Below wi.heap.size wi w') => Jva cv sc2 z7 m.smooth 1000 B (.agg #[.bool ng, .slice A7 l7 d7, .slice A8 l8 d8]) w' (HQ.out.below ((eG.trans (hb.mono eG.size)).mono HBB.out)) (nt gH hb.size) ⟨by omega, by omega⟩ ⟨by omega, by omega⟩ ⟨by omega, by omega⟩ HS.out (by omega) (by omega) HN.out.pos
        have bG := Vj (n := cv) (all := sc2) (ways := (z7 : Int)) HS.out (by omega) ⟨by omega, by omega⟩ ⟨by omega, by omega⟩ ⟨by omega, by omega⟩
        obtain ⟨sh, gQ⟩ : ∃ sh, Zu cv sc2 (z7 : Int) m.smooth = sh := ⟨_, rfl⟩
        rw [gQ] at eD bG j6
        have kO := fun w' V' (hb : Below wi.heap.size wi w') (hv : IsQ w' w'.heap.size V' sh) => Jvk x sh w'.heap.size (.agg #[.bool xn, .slice Y7 y7 f7, .slice Y8 y8 f8]) V' w' ((cJ.next zd hb).more hb.size) hv zd (gO.mono (by omega)) (bG.mono (by omega))
        obtain ⟨x', mO⟩ : ∃ x', x * sh = x' := ⟨_, rfl⟩
        rw [mO] at kO j6
        obtain rfl : nw = (z7 : Int) := by omega
        have b8 := b8w.below hm mL
        have HTO := lh eV
        have HPA := lh eD
        have HMU := lh kO
        have HNX := lh j6
        have HBI := lh cK
        have p1 : (wn : Int) < (z7 : Int) := by omega
        have m3' : ¬ gc = gx := by omega
        have m4' : ¬ gx = gc := by omega
        obtain ⟨y4, -⟩ := b4.c2
        clear eV eD kO j6 cJ cK eW ht dC eC eB b2w bD bK iQ kL cR mK gM hm eH mM kN gO bG gQ mO b8w dI gP iP b4w b6w gL kK cL mL kM b9w gB eG mJ gH
        go_upto_region 15 with fail
        clear y4
        obtain ⟨dX, dY, dZ, kF, kG, kH⟩ := b0.c6; have c0 := b0.drew; have aY := c0.lt; obtain ⟨oT, oU, oV⟩ := bx.c3; have cx := bx.drew; have eX := cx.lt; obtain ⟨gU, gV⟩ := b2.c2; have c2 := b2.drew; have bP := c2.lt; obtain ⟨oW, oX⟩ := b6.c2; have c6 := b6.drew; have eY := c6.lt; obtain ⟨oY, oZ⟩ := b4.c2; have c4 := b4.drew; have eZ := c4.lt; obtain ⟨pA, pB⟩ := b8.c2; have c8 := b8.drew; have fA := c8.lt; obtain ⟨kP, kQ⟩ := b9.c2; have c9 := b9.drew; have cT := c9.lt; have hc := Jt wi; refine Jh7 (S := (fun w' => w'.cell? ⟨w.heap.size, 0, none⟩ = some (.bool ng) /\ w'.cell? ⟨w.heap.size, 1, none⟩ = some (.slice A7 l7 d7) /\ w'.cell? ⟨w.heap.size, 2, none⟩ = some (.slice A8 l8 d8) /\ w'.cell? ⟨w.heap.size, 3, none⟩ = some (.slice (some ad9) n5 s1) /\ w'.cell? ⟨w.heap.size, 4, none⟩ = some (.slice (some ad) n3 s2) /\ w'.cell? ⟨w.heap.size, 5, none⟩ = some (.slice (some ad2) n3 s3) /\ w'.cell? ⟨gx, 0, none⟩ = some (.bool xn) /\ w'.cell? ⟨gx, 1, none⟩ = some (.slice Y7 y7 f7) /\ w'.cell? ⟨gx, 2, none⟩ = some (.slice Y8 y8 f8) /\ w'.cell? ⟨gb, ob, none⟩ = some (.slice (some ad6) n5 v5) /\ w'.cell? ⟨ge, oe, none⟩ = some (.slice (some ad8) z7 v7) /\ w'.cell? ⟨gd, od, none⟩ = some (.int .i64 (wn : Int)) /\ w'.cell? ⟨gc, oc, none⟩ = some (.int .i64 cv) /\ w'.cell? ⟨gw, ow, none⟩ = some (.int .i64 (z7 : Int)))) 33 [0, 1, 2, 3, 4, 5, 6, 7, 8, 9, 10, 11, 12, 13, 14, 15, 16, 17, 18, 19, 20, 21, 22, 24, 25, 26, 27, 28, 29, 30, 23, 31, 32] (by kernel_rfl) (by simp) (by first | (dsimp only; go_keep) | go_keep) (fun aE => ?_); (iterate 30 ((first | (refine Jj (v := ?_) (by simp only [List.getElem?_toArray, List.getElem?_cons_succ, List.getElem?_cons_zero]; first | done | rfl) (by kernel_rfl) (by exact fun _ _ _ h => h) (Or.inl ⟨by rfl, ?_⟩) (by assumption) ?_; rotate_left; (focus (intro w pC; (try dsimp only at pC); go_simp; try with_reducible rfl))) | (refine Jj (v := undef) (by simp only [List.getElem?_toArray, List.getElem?_cons_succ, List.getElem?_cons_zero]; first | done | rfl) (by kernel_rfl) (by exact fun _ _ _ h => h) (Or.inr ⟨by rfl, rfl⟩) (by assumption) ?_)); (try simp only [Act.put, List.setIfInBounds_toArray, List.set_cons_zero, List.set_cons_succ, Nat.reduceAdd]))); refine Jbg (by simp only [List.getElem?_toArray, List.getElem?_cons_succ, List.getElem?_cons_zero]; first | done | rfl) (by kernel_rfl) (by kernel_rfl) (fun K hK => ?_); go_simp; (go_at_call 57; (with_reducible refine (HTO.out _ hc).mono ?_); rintro e w1 ⟨rfl, j8⟩; (try clear aG aH aI aZ bA bB); obtain ⟨c0, aG, aH, aI, aZ, bA, bB⟩ := c0.zc6 j8; (try clear aY); have aY := c0.lt; (try clear bW bX bY); obtain ⟨cx, bW, bX, bY⟩ := cx.zc3 j8; (try clear eX); have eX := cx.lt; (try clear aJ aK); obtain ⟨c2, aJ, aK⟩ := c2.zc2 j8; (try clear bP); have bP := c2.lt; (try clear bZ cA); obtain ⟨c6, bZ, cA⟩ := c6.zc2 j8; (try clear eY); have eY := c6.lt; (try clear cB cD); obtain ⟨c4, cB, cD⟩ := c4.zc2 j8; (try clear eZ); have eZ := c4.lt; (try clear cE cF); obtain ⟨c8, cE, cF⟩ := c8.zc2 j8; (try clear fA); have fA := c8.lt; (try clear aL aM); obtain ⟨c9, aL, aM⟩ := c9.zc2 j8; (try clear cT); have cT := c9.lt; have hc := Ja hc j8); (try go_wp2_with fail); clear aE; refine hK.out _ _ (by first | (dsimp only; go_keep) | go_keep) (fun aE => ?_); clear hK K; (try simp only [Act.put, List.setIfInBounds_toArray, List.set_cons_zero, List.set_cons_succ, Nat.reduceAdd]); refine Jbg (by simp only [List.getElem?_toArray, List.getElem?_cons_succ, List.getElem?_cons_zero]; first | done | rfl) (by kernel_rfl) (by kernel_rfl) (fun K hK => ?_); go_simp; (go_at_call 72; (with_reducible refine (HPA.out _ hc).mono ?_); rintro e w2 ⟨v2, rfl, y9, aV⟩; obtain ⟨g2, A2, l2, c2c, A2', l2', c2c', gF⟩ := y9.shape; subst gF; (try clear aG aH aI aZ bA bB); obtain ⟨c0, aG, aH, aI, aZ, bA, bB⟩ := c0.zc6 aV; (try clear aY); have aY := c0.lt; (try clear bW bX bY); obtain ⟨cx, bW, bX, bY⟩ := cx.zc3 aV; (try clear eX); have eX := cx.lt; (try clear aJ aK); obtain ⟨c2, aJ, aK⟩ := c2.zc2 aV; (try clear bP); have bP := c2.lt; (try clear bZ cA); obtain ⟨c6, bZ, cA⟩ := c6.zc2 aV; (try clear eY); have eY := c6.lt; (try clear cB cD); obtain ⟨c4, cB, cD⟩ := c4.zc2 aV; (try clear eZ); have eZ := c4.lt; (try clear cE cF); obtain ⟨c8, cE, cF⟩ := c8.zc2 aV; (try clear fA); have fA := c8.lt; (try clear aL aM); obtain ⟨c9, aL, aM⟩ := c9.zc2 aV; (try clear cT); have cT := c9.lt; have hc := Ja hc aV); (try go_wp2_with fail); clear aE; refine hK.out _ _ (by first | (dsimp only; go_keep) | go_keep) (fun aE => ?_); clear hK K; (try simp only [Act.put, List.setIfInBounds_toArray, List.set_cons_zero, List.set_cons_succ, Nat.reduceAdd]); refine Jbg (by simp only [List.getElem?_toArray, List.getElem?_cons_succ, List.getElem?_cons_zero]; first | done | rfl) (by kernel_rfl) (by kernel_rfl) (fun K hK => ?_); go_simp; (go_at_call 73; (with_reducible refine (HMU.out _ _ hc y9).mono ?_); rintro e w3 ⟨v3, rfl, bJ, aU⟩; obtain ⟨g3, A3, l3, c3c, A3', l3', c3c', jV⟩ := bJ.shape; subst jV; (try clear aG aH aI aZ bA bB); obtain ⟨c0, aG, aH, aI, aZ, bA, bB⟩ := c0.zc6 aU; (try clear aY); have aY := c0.lt; (try clear bW bX bY); obtain ⟨cx, bW, bX, bY⟩ := cx.zc3 aU; (try clear eX); have eX := cx.lt; (try clear aJ aK); obtain ⟨c2, aJ, aK⟩ := c2.zc2 aU; (try clear bP); have bP := c2.lt; (try clear bZ cA); obtain ⟨c6, bZ, cA⟩ := c6.zc2 aU; (try clear eY); have eY := c6.lt; (try clear cB cD); obtain ⟨c4, cB, cD⟩ := c4.zc2 aU; (try clear eZ); have eZ := c4.lt; (try clear cE cF); obtain ⟨c8, cE, cF⟩ := c8.zc2 aU; (try clear fA); have fA := c8.lt; (try clear aL aM); obtain ⟨c9, aL, aM⟩ := c9.zc2 aU; (try clear cT); have cT := c9.lt; have y9 := (y9.next zd aU).more aU.size; have hc := Ja hc aU; obtain ⟨_, _, _, f0, f1, f2, z0, z1, z2⟩ := cx.f3); (try go_wp2_with fail); clear aE; refine hK.out _ _ (by first | (dsimp only; go_keep) | go_keep) (fun aE => ?_); clear hK K; (try simp only [Act.put, List.setIfInBounds_toArray, List.set_cons_zero, List.set_cons_succ, Nat.reduceAdd]); refine Jj6 (by kernel_rfl) ?_; simp only [List.drop_succ_cons, List.drop_zero]
        all_goals
         go_wp2
         have cP := ((cx.set_ 0 (.bool g3)).set_ 1 (.slice A3 l3 c3c)).set_ 2 (.slice A3' l3' c3c')
         exact ⟨⟨i + 1, x', by omega, by go_num, HNX, g3, A3, l3, c3c, A3', l3', c3c', by simpa using cP, by rw [World.size_setCell, World.size_setCell, World.size_setCell]; exact bJ.set3 cx _ _ _ _ _ _ _, (((HBI.out.trans (hc.mono HBI.out.size)).setCell iO _).setCell iO _).setCell iO _⟩, by simp [intOf]; omega⟩
       rw [Jcf _ _ _ (by show wv < 0; omega)] at j6
       have HNX := lh j6
       have HZ : Hid (WgR wr gx x wi) := lh ⟨xn, Y7, y7, f7, Y8, y8, f8, bx, cJ, cK⟩
       obtain ⟨y4, -⟩ := b4.c2
       clear j6 eW ht dC eC eB b2w bD bK iQ kL cR mK gM hm eH iP b4w b6w gL kK cL bx cJ cK b0 b2 b4 b6 b9 b9w
       go_wp2
       exact ⟨⟨i + 1, x, by omega, by go_num, HNX, HZ.out⟩, by simp [intOf]; omega⟩
      obtain rfl : i = n5 := by omega
      have k2 : ¬ (i : Int) < (i : Int) := by omega
      have o9 := eW.out
      rw [List.take_of_length_le (by have := HD.out.2.1; simp; omega)] at o9
      have HE := lh (show WL[c]? = some x from by rw [HWC.out, o9])
      have HZ := lh kJ
      clear eW o9 kJ
      go_wp2
      go_meet
      exact ⟨x, HE.out, HZ.out⟩
    case rest =>
     obtain ⟨x, hx, xn, Y7, y7, f7, Y8, y8, f8, bx, cJ, cK⟩ := hcut
     rename World => wi
     have HSN := lh (Ud hx)
     have HO2 := lh (HO.out.next cK)
     have HQX := lh cJ
     have HB5 := lh (HBR.out.trans (cK.mono HBR.out.size))
     have HLK := lh (show (WL.take c).length <= 1000000 by rw [List.length_take]; omega)
     obtain ⟨q0, q1, q2⟩ := bx.c3
     clear bx cJ cK hx HI HO1 HBW1 HBR1 BK3 HD HWC HQ0
     go_wp2_with (at_builtin; refine appR rfl (.tmp 88) (.tmp 90) rfl wi _ (WL.take c) x xn Y7 y7 f7 Y8 y8 f8 rfl HO2.out HQX.out rfl HLK.out ?_; intro v7 w7 bR eI; have HO7 := lh bR; have HF7 := lh (eI.fresh HB5.out.size HFR.out); have H7 := lh (HB5.out.trans (eI.below HB5.out.size HFR.out)); clear bR eI q0 q1 q2)
     exact ⟨⟨c + 1, by omega, by go_num, by rw [HSN.out]; exact HO7.out, HF7.out, H7.out⟩, by simp [intOf]; omega⟩
  as_aux_lemma =>
  obtain rfl : c = n3 := by omega
  have k1 : ¬ (c : Int) < (c : Int) := by omega
  have HRW := lh (show OwnR wr u7 WL from by have h := HO.out; rw [List.take_of_length_le (by omega)] at h; exact h)
  obtain ⟨AW, cW, hv, -⟩ := HRW.out.form
  rw [bI] at hv
  subst hv
  have kR := Jvn AW c cW wr.heap.size 67200 WL wr (by have h := HRW.out.reads; rw [bI] at h; exact h) zd (by omega) (by omega) HWQ.out
  have eR : Jck WL = al := HAL.out.1
  rw [eR] at kR
  have HTT := lh kR
  have HAQ : Hid (QS 1000000 al) := lh (by
   rw [<- eR]
   have e := QS.sum WL HWQ.out WL.length
   rw [List.take_length] at e
   refine e.mono ?_
   rw [bI]
   exact nt (Nat.succ_le_succ (Nat.mul_le_mul_right _ fO)) (by decide))
  clear kR eR b0
  go_wp2_with fail
  clear z0 z1 z2 z3 z4 z5
  refine HTT.out.mono ?_
  rintro e w3 ⟨V, rfl, hR, bH⟩
  obtain ⟨tn, T7, t7, e7, T8, t8, e8, rfl⟩ := hR.shape
  go_upto_region 18 with fail
  have bt := Blk.new w3 28 #[.bool tn, .slice T7 t7 e7, .slice T8 t8 e8]
  have j7 := Jb w3 (.cells #[.bool tn, .slice T7 t7 e7, .slice T8 t8 e8] 28)
  generalize w3.alloc (.cells #[.bool tn, .slice T7 t7 e7, .slice T8 t8 e8] 28) = w4 at *
  have BT := lh bt
  have HQT := lh ((hR.next zd j7).more j7.size)
  have HRW4 := lh ((HRW.out.next bH).next j7)
  have HB4 := lh ((HBW.out.trans (bH.mono HBW.out.size)).trans (j7.mono (nt HBW.out.size bH.size)))
  have pD := bH.size
  clear bt hR bH j7 HTT
  generalize w3.heap.size = gt at *
  go_wp2_with fail
  go_loopw [12, 13] (fun v p wr => ∃ k : Nat, k <= c /\ p = .int .i64 (k : Int) /\ OwnR wr v ((WL.map fun x => x / al).take k) /\ (∀ b, v.ownBlock = some b -> w4.heap.size <= b) /\ Below w4.heap.size w4 wr) (fun _ p _ => c - (intOf p).toNat)
  case atStart => exact ⟨0, by omega, rfl, OwnR.nil _, (fun b h => by cases h), Below.refl _ _⟩
  case round =>
   obtain ⟨k, hk, rfl, ho, p9, cU⟩ := hrel
   rename World => wq
   by_cases pE : k < c
   ·as_aux_lemma =>
    have k2 : (k : Int) < (c : Int) := by omega
    obtain ⟨x, hx⟩ : ∃ x, WL[k]? = some x := ⟨_, List.getElem?_eq_getElem (by omega)⟩
    obtain ⟨ad5, gy, oy, r, rfl, mH, s9, b1w, iq1w⟩ := (show ReadsR w4 w4.heap.size AW c WL from by have h := HRW4.out.reads; rw [bI] at h; exact h).at_ hx pE
    have b1 := b1w.below cU s9
    have iq1 := iq1w.below cU
    have bO := cU.size
    have mP := (HQT.out.below cU)
    have iR := fun w' (hb : Below wq.heap.size wq w') => Jvg x al w'.heap.size _ _ w' (((iq1.more bO).next zd hb).more hb.size) (((mP.more bO).next zd hb).more hb.size) zd ((HWQ.out x (List.mem_of_getElem? hx)).mono (by omega)) (HAQ.out.mono (by omega)) HAL.out.2
    have dB : (WL.map fun x => x / al).take (k + 1) = (WL.map fun x => x / al).take k ++ [x / al] := by
     rw [List.take_add_one, List.getElem?_map, hx]
     rfl
    generalize x / al = q at *
    obtain ⟨rg, rA, rl, rc, rA', rl', rc'⟩ := r
    unfold RC.v at iR
    simp only [] at b1 iR
    have HDI := lh iR
    have HSN := lh dB
    have HO5 := lh ho
    have HFR5 := lh p9
    have HBQ := lh cU
    have HLK := lh (show ((WL.map fun x => x / al).take k).length <= 1000000 by rw [List.length_take, List.length_map]; omega)
    have D1 := lh (And.intro b1w s9)
    have b9 := BT.out.below cU BT.out.lt
    clear iR dB ho p9 cU hx iq1 mP s9 iq1w b1w bO
    go_upto_region 22 with fail
    obtain ⟨kP, kQ, pF⟩ := b9.c3; have c9 := b9.drew; have cT := c9.lt; obtain ⟨eE, eF, gW⟩ := b1.c3; have c1 := b1.drew; have aO := c1.lt; have hc := Jt wq; go_region_held3 (fun w' => w'.cell? ⟨gt, 0, none⟩ = some (.bool tn) /\ w'.cell? ⟨gt, 1, none⟩ = some (.slice T7 t7 e7) /\ w'.cell? ⟨gt, 2, none⟩ = some (.slice T8 t8 e8) /\ w'.cell? ⟨gy, oy, none⟩ = some (.bool rg) /\ w'.cell? ⟨gy, oy + 1, none⟩ = some (.slice rA rl rc) /\ w'.cell? ⟨gy, oy + 2, none⟩ = some (.slice rA' rl' rc')) (go_keep) (first | (go_at_call 75; (with_reducible refine (HDI.out _ hc).mono ?_); rintro e w1 ⟨v1, rfl, aP, j8⟩; obtain ⟨g1, A1, l1, c1c, A1', l1', c1c', jU⟩ := aP.shape; subst jU; (try clear aL aM eJ); obtain ⟨c9, aL, aM, eJ⟩ := c9.zc3 j8; (try clear cT); have cT := c9.lt; (try clear aA aB aQ); obtain ⟨c1, aA, aB, aQ⟩ := c1.zc3 j8; (try clear aO); have aO := c1.lt; have hc := Ja hc j8) | (refine Jvw rfl (.tmp 100) (.tmp 107) rfl w1 _ ((WL.map fun x => x / al).take k) q g1 A1 l1 c1c A1' l1' c1c' (by simp [Act.eval, Act.put]) (HO5.out.next hc) aP (by simp [Act.eval, Act.put]) HLK.out ?_; intro v7 w7 bR eI; have h0 := HBQ.out.trans (hc.mono HBQ.out.size); have h7 := h0.trans (eI.below h0.size HFR5.out); have HO7 := lh bR; have HF7 := lh (eI.fresh h0.size HFR5.out); have H7 := lh h7; clear aL aM eJ aA aB aQ; have c9 := BT.out.below h7 BT.out.lt; have c1 := D1.out.1.below h7 D1.out.2; obtain ⟨aL, aM, eJ⟩ := c9.c3; obtain ⟨aA, aB, aQ⟩ := c1.c3; clear bR eI h7 h0))
    all_goals
     go_wp2
     exact ⟨⟨k + 1, by omega, by go_num, by rw [HSN.out]; exact HO7.out, HF7.out, H7.out⟩, by simp [intOf]; omega⟩
   obtain rfl : k = c := by omega
   have k2 : ¬ (k : Int) < (k : Int) := by omega
   rw [List.take_of_length_le (by rw [List.length_map]; omega)] at ho
   have HZ := lh (And.intro ho (And.intro (show ∀ b, u12.ownBlock = some b -> w.heap.size <= b from fun b hb => nt HB4.out.size (p9 b hb)) (HB4.out.trans (cU.mono HB4.out.size))))
   clear ho p9 cU
   go_wp2
   go_returns
   exact ⟨_, rfl, HZ.out.1, HZ.out.2.1, HZ.out.2.2⟩
theorem Jvf (ng : Bool) (A7 A8 : Option Addr) (l7 d7 l8 d8 : Nat) (X1 X2 X3 : Option Addr) (n1 s1 n2 s2 n3 s3 B : Nat) (m : BM) (A4 : Option Addr) (n4 s4 : Nat) (row : List Int) (w : World) (h : RdB w B ⟨X1, n1, s1⟩ ⟨X2, n2, s2⟩ ⟨X3, n3, s3⟩ m) (hq : IsQ w B (.agg #[.bool ng, .slice A7 l7 d7, .slice A8 l8 d8]) m.smooth) (h4 : ReadsI w B A4 n4 row) (hB : B <= w.heap.size) (hL : LenB m) (jZ : n4 <= 1000) (hs : QS 1000 m.smooth) :
  Calls Tryz.prog 38 #[.agg #[.bool ng, .slice A7 l7 d7, .slice A8 l8 d8, .slice X1 n1 s1, .slice X2 n2 s2, .slice X3 n3 s3], .slice A4 n4 s4] w fun e w' => e = .returned (.tuple #[.int .i64 (Vq m row).1, .int .i64 (Vq m row).2]) /\ Below w.heap.size w w' := by
 have dJ := @Jg7 m row
 obtain ⟨R, hR⟩ : ∃ R, Vq m row = R := ⟨_, rfl⟩
 rw [hR]
 unfold Vq at hR
 obtain ⟨b0, hB, hZ⟩ := bx1 w 31 #[.bool ng, .slice A7 l7 d7, .slice A8 l8 d8, .slice X1 n1 s1, .slice X2 n2 s2, .slice X3 n3 s3]
 go_enter Tryz.func38, Tryz.ntmps38
 go_upto_region 1 with fail
 generalize (w.alloc (.cells #[.bool ng, .slice A7 l7 d7, .slice A8 l8 d8, .slice X1 n1 s1, .slice X2 n2 s2, .slice X3 n3 s3] 31)) = W at *
 rename B <= w.heap.size => aN
 have HCH := lh (Ju6 ng A7 A8 l7 d7 l8 d8 X1 X2 X3 n1 s1 n2 s2 n3 s3 B m A4 n4 s4 row W (h.below (hB.mono aN)) (hq.below (hB.mono aN)) (rkindI.below h4 (hB.mono aN)) (nt aN hB.size) hL jZ hs)
 obtain ⟨ch, fB⟩ : ∃ ch, Qo m row = ch := ⟨_, rfl⟩
 rw [fB] at dJ hR HCH
 obtain ⟨l, er⟩ := ch
 simp only at dJ hR
 have HOK := lh (And.intro (fun h => dJ h hs) (show er ≠ 0 -> l = [] from fun h => by
  unfold Qo at fB
  split at fB
  ·injection fB with e1 e2
   exact e1.symm
  injection fB with e1 e2
  exact absurd e2.symm h))
 have HR := lh hR
 have HBW := lh hB
 obtain ⟨x0, x1, x2, x3, x4, x5⟩ := b0.c6
 clear h hq h4 hL hs hB hZ aN hR dJ fB b0
 go_wp2_with fail
 refine HCH.out.mono ?_
 rintro e w1 ⟨v, rfl, ho, p9, bC⟩
 obtain ⟨A9, c9, rfl, -, -⟩ := OwnR.form ho
 have HB1 := lh (HBW.out.trans (bC.mono HBW.out.size))
 have HO := lh ho.reads
 clear x0 x1 x2 x3 x4 x5 bC HBW HCH ho p9
 by_cases h0 : er = 0
 case neg =>
  have hl := HOK.out.2 h0
  subst hl
  have hr := HR.out
  rw [if_pos h0] at hr
  subst hr
  clear HOK HR HO
  go_wp2_with fail
  go_loopw [8, 9] (fun t p wr => t = .int .i64 0 /\ p = .int .i64 1 /\ w1 = wr) (fun _ _ _ => 0)
  case atStart => exact ⟨rfl, rfl, rfl⟩
  case round =>
   obtain ⟨rfl, rfl, rfl⟩ := hrel
   go_wp2_with fail
   go_returns
   exact ⟨rfl, HB1.out⟩
 subst h0
 obtain ⟨-, pX, pY, bG⟩ := HOK.out.1 rfl
 have hr := HR.out
 rw [if_neg (by simp)] at hr
 subst hr
 generalize hn : l.length = n at *
 have HN := lh hn
 have HQ := lh bG
 clear hn bG HR HOK
 go_wp2_with fail
 go_loopw [8, 9] (fun bv p wr => ∃ k : Nat, 1 <= k /\ k <= n /\ p = .int .i64 (k : Int) /\ bv = .int .i64 (Vc l k : Nat) /\ Below w1.heap.size w1 wr) (fun _ p _ => n - (intOf p).toNat)
 case atStart => exact ⟨1, by omega, by omega, rfl, by rw [Jvq]; rfl, Below.refl _ _⟩
 case round =>
  obtain ⟨k, pZ, hk, rfl, rfl, mQ⟩ := hrel
  rename World => wr
  have HBR := lh mQ
  clear mQ
  by_cases iC : k < n
  ·as_aux_lemma =>
   have k1 : (k : Int) < (n : Int) := by omega
   have hb := Jhh l (show 0 < n by omega) k hk
   have bT : Vc l (k + 1) = if l.getD (Vc l k) 0 < l.getD k 0 then k else Vc l k := rfl
   obtain ⟨t, ht⟩ : ∃ t, Vc l (k + 1) = t := ⟨_, rfl⟩
   rw [ht] at bT
   have HTT := lh ht
   clear ht
   generalize Vc l k = b at *
   have k2 : (b : Int) < (n : Int) := by omega
   obtain ⟨x, hx⟩ : ∃ x, l[k]? = some x := ⟨_, List.getElem?_eq_getElem (by have := HN.out; omega)⟩
   obtain ⟨y, hy⟩ : ∃ y, l[b]? = some y := ⟨_, List.getElem?_eq_getElem (by have := HN.out; omega)⟩
   rw [List.getD_eq_getElem?_getD, List.getD_eq_getElem?_getD, hx, hy] at bT
   simp only [Option.getD_some] at bT
   obtain ⟨ad, ga, oa, r1, rfl, mH, s9, b1w, iq1⟩ := HO.out.at_ hx iC
   obtain ⟨ad', gb, ob, r2, e2, oI, bD, b2w, iq2⟩ := HO.out.at_ hy hb
   obtain rfl := Option.some.inj e2
   have b1 := b1w.below HBR.out s9
   have b2 := b2w.below HBR.out bD
   have bO := HBR.out.size
   have iS := fun w' (hb : Below wr.heap.size wr w') => Jrx x y w1.heap.size _ _ w' ((iq1.below HBR.out).below (hb.mono bO)) ((iq2.below HBR.out).below (hb.mono bO)) (nt bO hb.size) ((HQ.out x (List.mem_of_getElem? hx)).mono (by omega)) ((HQ.out y (List.mem_of_getElem? hy)).mono (by omega))
   have mR := Jnw y x
   generalize Jc2 x y = cv at *
   obtain ⟨rg, rA, rl, rc, rA', rl', rc'⟩ := r1
   obtain ⟨sg, sA, sl, sc, sA', sl', sc'⟩ := r2
   unfold RC.v at iS
   simp only [] at b1 b2 iS
   have HCM := lh iS
   have HGT := lh mR
   have HNX := lh bT
   clear iS mR bT hx hy iq1 iq2 b1w b2w e2
   by_cases dI : 0 < cv
   ·have q9 : decide (0 < cv) = true := decide_eq_true dI
    have hE : Hid (t = k) := lh (by rw [HNX.out, if_pos (HGT.out.1 dI)])
    go_upto_region 6 with fail
    go_cut [31] (fun v wc => v = .bool true /\ Below wr.heap.size wr wc)
    case first =>
     obtain ⟨eE, eF, gW⟩ := b1.c3; have c1 := b1.drew; have aO := c1.lt; obtain ⟨gU, gV, kS⟩ := b2.c3; have c2 := b2.drew; have bP := c2.lt; have hc := Jt wr; go_region_held3 (fun w' => w'.cell? ⟨ga, oa, none⟩ = some (.bool rg) /\ w'.cell? ⟨ga, oa + 1, none⟩ = some (.slice rA rl rc) /\ w'.cell? ⟨ga, oa + 2, none⟩ = some (.slice rA' rl' rc') /\ w'.cell? ⟨gb, ob, none⟩ = some (.bool sg) /\ w'.cell? ⟨gb, ob + 1, none⟩ = some (.slice sA sl sc) /\ w'.cell? ⟨gb, ob + 2, none⟩ = some (.slice sA' sl' sc')) (go_keep) (first | (go_at_call 76; (with_reducible refine (HCM.out _ hc).mono ?_); rintro e w1 ⟨rfl, j8⟩; (try clear aA aB aQ); obtain ⟨c1, aA, aB, aQ⟩ := c1.zc3 j8; (try clear aO); have aO := c1.lt; (try clear aJ aK eK); obtain ⟨c2, aJ, aK, eK⟩ := c2.zc3 j8; (try clear bP); have bP := c2.lt; have hc := Ja hc j8))
     all_goals
      go_wp2
      go_meet
      exact ⟨rfl, hc⟩
    case rest =>
     obtain ⟨rfl, bF⟩ := hcut
     have HBD := lh (HBR.out.trans (bF.mono HBR.out.size))
     clear bF b1 b2
     go_wp2
     exact ⟨⟨k + 1, by omega, by omega, by go_num, by rw [HTT.out, hE.out], HBD.out⟩, by simp [intOf]; omega⟩
   have q9 : decide (0 < cv) = false := decide_eq_false dI
   have hE : Hid (t = b) := lh (by rw [HNX.out, if_neg (fun h => dI (HGT.out.2 h))])
   go_upto_region 6 with fail
   go_cut [31] (fun v wc => v = .bool false /\ Below wr.heap.size wr wc)
   case first =>
    obtain ⟨eE, eF, gW⟩ := b1.c3; have c1 := b1.drew; have aO := c1.lt; obtain ⟨gU, gV, kS⟩ := b2.c3; have c2 := b2.drew; have bP := c2.lt; have hc := Jt wr; go_region_held3 (fun w' => w'.cell? ⟨ga, oa, none⟩ = some (.bool rg) /\ w'.cell? ⟨ga, oa + 1, none⟩ = some (.slice rA rl rc) /\ w'.cell? ⟨ga, oa + 2, none⟩ = some (.slice rA' rl' rc') /\ w'.cell? ⟨gb, ob, none⟩ = some (.bool sg) /\ w'.cell? ⟨gb, ob + 1, none⟩ = some (.slice sA sl sc) /\ w'.cell? ⟨gb, ob + 2, none⟩ = some (.slice sA' sl' sc')) (go_keep) (first | (go_at_call 76; (with_reducible refine (HCM.out _ hc).mono ?_); rintro e w1 ⟨rfl, j8⟩; (try clear aA aB aQ); obtain ⟨c1, aA, aB, aQ⟩ := c1.zc3 j8; (try clear aO); have aO := c1.lt; (try clear aJ aK eK); obtain ⟨c2, aJ, aK, eK⟩ := c2.zc3 j8; (try clear bP); have bP := c2.lt; have hc := Ja hc j8))
    all_goals
     go_wp2
     go_meet
     exact ⟨rfl, hc⟩
   case rest =>
    obtain ⟨rfl, bF⟩ := hcut
    have HBD := lh (HBR.out.trans (bF.mono HBR.out.size))
    clear bF b1 b2
    go_wp2
    exact ⟨⟨k + 1, by omega, by omega, by go_num, by rw [HTT.out, hE.out], HBD.out⟩, by simp [intOf]; omega⟩
  as_aux_lemma =>
  obtain rfl : k = n := by omega
  have k1 : ¬ (k : Int) < (k : Int) := by omega
  go_wp2
  go_returns
  obtain rfl := HN.out
  exact ⟨rfl, HB1.out.trans (HBR.out.mono HB1.out.size)⟩
theorem Jvi {L n2 : Nat} {r : List Rat × Int} {v : Value} {w : World} (h : Jvx L n2 r v w) (he : r.2 ≠ 0 -> r.1 = []) : ∃ (A : Option Addr) (n c : Nat), v = .tuple #[.slice A n c, .int .i64 r.2] /\ r.1.length = n /\ ReadsQ w w.heap.size A n r.1 := by
 rcases h with ⟨h0, g, rfl, -, ho⟩ | ⟨h0, rfl⟩
 ·have hl := OwnQ.len ho
  refine ⟨_, _, _, by rw [h0], hl.symm, ?_⟩
  have := OwnW.reads ho
  rw [<- hl] at this
  exact this
 refine ⟨none, 0, 0, rfl, by rw [he h0]; rfl, ?_⟩
 rw [he h0]
 exact OwnW.reads (OwnW.nil_ w 41 5 qC)
theorem Ju9 {m : BM} {row : List Int} (h : (Qo m row).2 ≠ 0) : (Qo m row).1 = [] := by
 unfold Qo at h ⊢
 split at h
 ·rename_i h1
  rw [if_pos h1]
 exact absurd rfl h
theorem Jvh (m : BM) (row : List Int) : (Vq m row).2 = (Qo m row).2 := by
 unfold Vq
 by_cases h : (Qo m row).2 = 0
 ·rw [if_neg (by rw [h]; simp), h]
 rw [if_pos h]
theorem Jox (l : List Int) : ∀ (f : Nat) (m : BM) (i : Nat), (∃ n, DrawnB m n /\ n + f <= 1073741824) -> (Jop f m l i).smooth = m.smooth /\ (Jop f m l i).words = m.words
 | 0, m, i, _ => ⟨rfl, rfl⟩
 | f + 1, m, i, ⟨n, h, hn⟩ => by
  unfold Jop
  split
  ·obtain ⟨h1, h2⟩ := h.moved (h.rowOk (l.drop (i + 1))) (h.class_ (l.getD i 0)) (by omega)
   rw [h1, if_pos rfl]
   exact Jox l f _ _ ⟨n + 1, h2, by omega⟩
  exact ⟨rfl, rfl⟩
theorem Jqp (l : List Int) (classes cols smooth : Int) : QS 1000 (Jov l classes cols smooth).smooth := by
 have h := (Jox l 24 (Jo1 classes cols smooth) 0 ⟨0, Joz classes cols smooth, by omega⟩).1
 unfold Jov
 rw [h]
 show QS 1000 (((smooth % 4 + 1 : Int) : Rat) / (((smooth.tdiv 4) % 3 + 1 : Int) : Rat))
 rw [Rat.div_def]
 exact ((QS.cnt (k := 3) (by omega) (by omega) (by omega)).mul ((QS.cnt (k := 3) (by omega) (by omega) (by omega)).inv (by omega))).mono (by omega)
theorem Jpv (l : List Int) (classes cols smooth : Int) : LenB (Jov l classes cols smooth) := Za (Jpe l classes cols smooth).ok
theorem Ju7 (A : Option Addr) (n c : Nat) (l : List Int) (A' : Option Addr) (n' c' : Nat) (r : List Int) (classes cols smooth way at_ by_ wild : Int) (w : World) (h : ReadsI w w.heap.size A n l) (iB : n <= c) (hc : c <= 9223372036854775807) (hl : ∀ x ∈ l, -9223372036854775808 <= x /\ x <= 9223372036854775807)
  (h' : ReadsI w w.heap.size A' n' r) (mS : n' <= 9223372036854775807) (mT : ∀ x ∈ r, -9223372036854775808 <= x /\ x <= 9223372036854775807) (i1 : -9223372036854775808 <= classes /\ classes <= 9223372036854775807) (i2 : -9223372036854775808 <= cols /\ cols <= 9223372036854775807) (i3 : -9223372036854775808 <= smooth /\ smooth <= 9223372036854775807) (i4 : -9223372036854775808 <= way /\ way <= 9223372036854775807) (i5 : -9223372036854775808 <= at_ /\ at_ <= 9223372036854775807) (i6 : -9223372036854775808 <= by_ /\ by_ <= 9223372036854775807) (i7 : -9223372036854775808 <= wild /\ wild <= 9223372036854775807) (hT : Tab w) :
  Calls Tryz.prog 8 #[.slice A n c, .slice A' n' c', .int .i64 classes, .int .i64 cols, .int .i64 smooth, .int .i64 way, .int .i64 at_, .int .i64 by_, .int .i64 wild] w (Ret (.bool true) w) := by
 have aT := Jpt A n c l classes cols smooth way at_ by_ w.heap.size w h zd iB hc hl i1 i2 i3 i4 i5 i6
 have bG := Jum (Jqp l classes cols smooth) way at_ by_
 have kT := Juk (Jpv l classes cols smooth) way at_ by_
 have iT := Jvd (Jpe l classes cols smooth) way at_ by_
 obtain ⟨M, hm⟩ : ∃ M, Jo6 (Jov l classes cols smooth) way at_ by_ = M := ⟨_, rfl⟩
 rw [hm] at aT bG kT iT
 have iU := fun w' => Jpd wild 4 w' i7.1 i7.2 (by decide) (by decide)
 rw [show ((4 : Nat) : Int) = 4 from rfl] at iU
 obtain ⟨tb, iJ⟩ : ∃ tb, wild % 4 = tb := ⟨_, rfl⟩
 rw [iJ] at iU
 obtain ⟨Q, hQ⟩ : ∃ Q, (if tb = 3 then Jux r 4 else Jkx r M.words) = Q := ⟨_, rfl⟩
 have mU : Q.length <= 1000 := by
  rw [<- hQ]
  split
  ·rw [Ju0]; omega
  rw [Jkw]; have := iT.cols; omega
 have HDR := lh aT
 have HQ := lh (And.intro bG (And.intro kT iT))
 have HP4 := lh iU
 have HQQ := lh (And.intro hQ mU)
 have H' := lh (And.intro h' mT)
 have HT := lh hT
 have HKN := lh (fun w hT => Jgy w hT)
 clear aT bG kT iT hm iU iJ hQ mU h hl h' mT hT i1 i2 i3 i4 i5 i6 i7 iB hc
 go_enter Tryz.func8, Tryz.ntmps8
 go_wp2_with fail
 refine HDR.out.mono ?_
 rintro e w1 ⟨v, rfl, ⟨ng, A7, A8, l7, d7, l8, d8, ⟨X1, n1, c1⟩, ⟨X2, n2, c2⟩, ⟨X3, n3, c3⟩, rfl, eS, bQ⟩, bC⟩
 simp only [SW.v]
 have HRD := lh (And.intro eS bQ)
 have HB1 := lh bC
 clear eS bQ bC HDR
 go_upto_region 2 with fail
 have b19 := Blk.new w1 31 #[.bool ng, .slice A7 l7 d7, .slice A8 l8 d8, .slice X1 n1 c1, .slice X2 n2 c2, .slice X3 n3 c3]
 have aF := Jb w1 (.cells #[.bool ng, .slice A7 l7 d7, .slice A8 l8 d8, .slice X1 n1 c1, .slice X2 n2 c2, .slice X3 n3 c3] 31)
 generalize w1.alloc (.cells #[.bool ng, .slice A7 l7 d7, .slice A8 l8 d8, .slice X1 n1 c1, .slice X2 n2 c2, .slice X3 n3 c3] 31) = w2 at *
 have HM2 := lh (And.intro ((HRD.out.1.below aF).more aF.size) ((HRD.out.2.below aF).more aF.size))
 have HB2 := lh (Ja HB1.out aF)
 have BK := lh b19
 have cZ := b19.lt
 obtain ⟨x0, x1, x2, x3, x4, x5⟩ := b19.c6
 clear aF b19 HRD HB1
 generalize w1.heap.size = g19 at *
 have kU : M.words.length = n1 := HM2.out.2.words.len
 have HRO := lh (Jpc A' n' c' r X1 n1 c1 M.words w2.heap.size w2 (rkindI.more (rkindI.below H'.out.1 HB2.out) HB2.out.size) HM2.out.2.words zd mS H'.out.2 (by have := HQ.out.2.2.cols; omega) (fun x hx => by have := HQ.out.2.2.words x hx; omega))
 clear kU
 go_wp2_with fail
 refine HRO.out.mono ?_
 rintro e w3 ⟨v, rfl, bS, -, eM⟩
 obtain ⟨A9, c9, hv, -⟩ := bS.form
 obtain ⟨n9, cI⟩ : ∃ n9, (Jkx r M.words).length = n9 := ⟨_, rfl⟩
 rw [cI] at hv
 subst hv
 have HR3 := lh (show ReadsI w3 w3.heap.size A9 n9 (Jkx r M.words) from NRow.readsI (NRow.of bS))
 have HB3 := lh eM
 clear bS eM HRO cI x0 x1 x2 x3 x4 x5
 go_wp2_with fail
 refine (HP4.out _).mono ?_
 rintro e w4 ⟨rfl, rfl⟩
 rename World => w3
 go_upto_if 43 with fail
 go_cut [20] (fun v wc => ∃ (A : Option Addr) (n c : Nat), v = .slice A n c /\ ReadsI wc wc.heap.size A n Q /\ Below w3.heap.size w3 wc)
 case first =>
  as_aux_lemma =>
  by_cases h3 : tb = 3
  ·have q1 : (tb == 3) = true := by simp [h3]
   have kV := Ju4 A' n' c' r 4 w3.heap.size w3 (rkindI.more (rkindI.below H'.out.1 (HB2.out.trans (HB3.out.mono HB2.out.size))) (nt HB2.out.size HB3.out.size)) zd mS H'.out.2 (by decide)
   have hQ := HQQ.out.1
   rw [if_pos h3] at hQ
   rw [hQ] at kV
   have HOD := lh kV
   clear kV hQ h3
   go_wp2_with fail
   refine HOD.out.mono ?_
   rintro e w4 ⟨v, rfl, bS, -, bH⟩
   obtain ⟨AQ, cQ, hv, -⟩ := bS.form
   subst hv
   have HR4 := lh (show ReadsI w4 w4.heap.size AQ Q.length Q from NRow.readsI (NRow.of bS))
   have HB4 := lh bH
   clear bS bH HOD
   go_wp2
   go_meet
   exact ⟨_, _, _, rfl, HR4.out, HB4.out⟩
  have q1 : (tb == 3) = false := by simp [h3]
  have hQ := HQQ.out.1
  rw [if_neg h3] at hQ
  have HR4 := lh (show ReadsI w3 w3.heap.size A9 n9 Q from by rw [<- hQ]; exact HR3.out)
  clear hQ h3
  go_wp2
  go_meet
  exact ⟨_, _, _, rfl, HR4.out, Below.refl _ _⟩
 case rest =>
  obtain ⟨AQ, nQ, cQ, rfl, kW, mV⟩ := hcut
  rename World => w4
  have iV : nQ <= 1000 := by rw [<- kW.len]; exact HQQ.out.2
  have HRQ := lh kW
  have HB4 := lh (HB3.out.trans (mV.mono HB3.out.size))
  have HE := lh (Jvh M Q)
  have HOK := lh (fun h => (Jg7 (m := M) (row := Q) h HQ.out.1).2.2.2)
  have HNO := lh (Ju9 (m := M) (row := Q))
  clear kW mV HR3 HB3
  obtain ⟨x0, x1, x2, x3, x4, x5⟩ := (BK.out.below HB4.out cZ).c6
  have eL := And.intro ((HM2.out.1.below HB4.out).more HB4.out.size) ((HM2.out.2.below HB4.out).more HB4.out.size)
  have HIN := lh (Jqw ng A7 A8 l7 d7 l8 d8 X1 X2 X3 n1 c1 n2 c2 n3 c3 w4.heap.size M w4 eL.2 eL.1 zd HQ.out.2.1 (HQ.out.1.mono (by omega)) (HT.out.next (HB2.out.trans (HB4.out.mono HB2.out.size))))
  clear eL
  go_wp2_with fail
  refine HIN.out.mono ?_
  rintro e w5 ⟨v, rfl, ⟨⟨Z1, z1, y1⟩, ⟨Z2, z2, y2⟩, ⟨Z3, z3, y3⟩, F1, G1, H1, rfl, ho⟩, j7⟩
  simp only [SW.v]
  have HCH := lh (Vu Z1 Z2 Z3 z1 y1 z2 y2 z3 y3 w5.heap.size M AQ nQ cQ Q w5 ho.read (rkindI.more (rkindI.below HRQ.out j7) j7.size) zd HQ.out.2.1 iV HQ.out.1 (HT.out.next (HB2.out.trans ((HB4.out.trans (j7.mono HB4.out.size)).mono HB2.out.size))))
  have HB5 := lh (HB4.out.trans (j7.mono HB4.out.size))
  have HRQ5 := lh (rkindI.more (rkindI.below HRQ.out j7) j7.size)
  clear j7 ho HIN HRQ x0 x1 x2 x3 x4 x5
  go_wp2_with fail
  refine HCH.out.mono ?_
  rintro e w6 ⟨v, rfl, hv, bM⟩
  obtain ⟨R, hR⟩ : ∃ R, Qo M Q = R := ⟨_, rfl⟩
  rw [hR] at hv
  have iW := HNO.out
  have dJ := HOK.out
  have he := HE.out
  rw [hR] at iW dJ he
  obtain ⟨C9, m9, d9, rfl, dK, mW⟩ := Jvi hv iW
  have HRC := lh (And.intro hR (And.intro dK mW))
  have HO := lh (show m9 <= 1000000 /\ ∀ x ∈ R.1, QS 1099511627776 x from by
   by_cases h0 : R.2 = 0
   ·have hq := dJ h0
    have pG := (Jg7 (m := M) (row := Q) (by rw [hR]; exact h0) HQ.out.1).2.2.1
    rw [hR] at pG
    exact ⟨by omega, fun x hx => (hq x hx).mono (by omega)⟩
   have := iW h0
   rw [this] at dK ⊢
   exact ⟨by simp at dK; omega, fun x hx => by cases hx⟩)
  have HE := lh he
  have HB6 := lh (HB5.out.trans (bM.mono HB5.out.size))
  have HRQ6 := lh (rkindI.more (rkindI.below HRQ5.out bM) bM.size)
  clear iW dJ he hv hR dK mW bM HCH HRQ5 HNO HOK
  obtain ⟨x0, x1, x2, x3, x4, x5⟩ := (BK.out.below HB6.out cZ).c6
  have eL := And.intro ((HM2.out.1.below HB6.out).more HB6.out.size) ((HM2.out.2.below HB6.out).more HB6.out.size)
  have HIN := lh (Jqw ng A7 A8 l7 d7 l8 d8 X1 X2 X3 n1 c1 n2 c2 n3 c3 w6.heap.size M w6 eL.2 eL.1 zd HQ.out.2.1 (HQ.out.1.mono (by omega)) (HT.out.next (HB2.out.trans (HB6.out.mono HB2.out.size))))
  clear eL
  go_wp2_with fail
  refine HIN.out.mono ?_
  rintro e w7 ⟨v, rfl, ⟨⟨Z1, z1, y1⟩, ⟨Z2, z2, y2⟩, ⟨Z3, z3, y3⟩, F1, G1, H1, rfl, ho⟩, aR⟩
  simp only [SW.v]
  have HAN := lh (Jfs Z1 Z2 Z3 z1 y1 z2 y2 z3 y3 w7.heap.size M AQ nQ cQ Q w7 ho.read (rkindI.more (rkindI.below HRQ6.out aR) aR.size) zd HQ.out.2.1 iV HQ.out.1 (HT.out.next (HB2.out.trans ((HB6.out.trans (aR.mono HB6.out.size)).mono HB2.out.size))))
  have HB7 := lh (HB6.out.trans (aR.mono HB6.out.size))
  have HB67 := lh aR
  clear aR ho HIN x0 x1 x2 x3 x4 x5
  go_wp2_with fail
  refine HAN.out.mono ?_
  rintro e w8 ⟨rfl, cG⟩
  have HB8 := lh (HB7.out.trans (cG.mono HB7.out.size))
  have HB68 := lh (HB67.out.trans (cG.mono HB67.out.size))
  have HRQ8 := lh (rkindI.more (rkindI.below HRQ6.out HB68.out) HB68.out.size)
  clear cG HAN HRQ6 HB67
  obtain ⟨x0, x1, x2, x3, x4, x5⟩ := (BK.out.below HB8.out cZ).c6
  have kX := And.intro ((HM2.out.1.below HB8.out).more HB8.out.size) ((HM2.out.2.below HB8.out).more HB8.out.size)
  have kY := Ju6 ng A7 A8 l7 d7 l8 d8 X1 X2 X3 n1 c1 n2 c2 n3 c3 w8.heap.size M AQ nQ cQ Q w8 kX.2 kX.1 HRQ8.out zd HQ.out.2.1 iV HQ.out.1
  rw [HRC.out.1] at kY
  have HCD := lh kY
  clear kY kX
  go_wp2_with fail
  refine HCD.out.mono ?_
  rintro e w9 ⟨v, rfl, ho, -, aS⟩
  obtain ⟨E9, k9, hv, -⟩ := OwnR.form ho
  rw [HRC.out.2.1] at hv
  subst hv
  have HRD := lh (show ReadsR w9 w9.heap.size E9 m9 R.1 from by have h := ho.reads; rw [HRC.out.2.1] at h; exact h)
  have HB9 := lh (HB8.out.trans (aS.mono HB8.out.size))
  have HB69 := lh (HB68.out.trans (aS.mono HB68.out.size))
  have HRQ9 := lh (rkindI.more (rkindI.below HRQ8.out aS) aS.size)
  clear ho aS HCD HRQ8 HB68 x0 x1 x2 x3 x4 x5
  obtain ⟨x0, x1, x2, x3, x4, x5⟩ := (BK.out.below HB9.out cZ).c6
  have dK := And.intro ((HM2.out.1.below HB9.out).more HB9.out.size) ((HM2.out.2.below HB9.out).more HB9.out.size)
  have HAN := lh (Jvf ng A7 A8 l7 d7 l8 d8 X1 X2 X3 n1 c1 n2 c2 n3 c3 w9.heap.size M AQ nQ cQ Q w9 dK.2 dK.1 HRQ9.out zd HQ.out.2.1 iV HQ.out.1)
  clear dK
  go_wp2_with fail
  refine HAN.out.mono ?_
  rintro e w10 ⟨rfl, dA⟩
  have HB10 := lh (HB9.out.trans (dA.mono HB9.out.size))
  have HB6a := lh (HB69.out.trans (dA.mono HB69.out.size))
  have HB9a := lh dA
  clear dA HAN HRQ9 HB69 x0 x1 x2 x3 x4 x5
  obtain ⟨K, hK⟩ : ∃ K, (Vq M Q).1 = K := ⟨_, rfl⟩
  obtain ⟨E, hE⟩ : ∃ E, R.2 = E := ⟨_, rfl⟩
  rw [HE.out, hK, hE]
  have u1 : (E == E) = true := by simp
  have u2 : (K == K) = true := by simp
  clear hK hE HE
  go_wp2_with fail
  refine (HKN.out _ (HT.out.next (HB2.out.trans (HB10.out.mono HB2.out.size)))).mono ?_
  rintro e w11 ⟨rfl, bL⟩
  have HSR := lh (Jvr C9 E9 m9 d9 k9 w11.heap.size w11.heap.size R.1 w11 ((HRC.out.2.2.below (HB6a.out.trans (bL.mono HB6a.out.size))).more (nt HB6a.out.size bL.size)) ((HRD.out.below (HB9a.out.trans (bL.mono HB9a.out.size))).more (nt HB9a.out.size bL.size)) zd zd HO.out.1 HO.out.2)
  have HB11 := lh (HB10.out.trans (bL.mono HB10.out.size))
  clear bL
  go_wp2_with fail
  refine HSR.out.mono ?_
  rintro e w12 ⟨rfl, gY⟩
  have HBL := lh (HB2.out.trans ((HB11.out.trans (gY.mono HB11.out.size)).mono HB2.out.size))
  clear gY HSR
  go_wp2_with fail
  go_ret
  exact ⟨rfl, HBL.out⟩
