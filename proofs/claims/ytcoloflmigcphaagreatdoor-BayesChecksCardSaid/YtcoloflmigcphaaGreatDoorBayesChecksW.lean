import Derived.Test.YtcoloflmigcphaaGreatDoorBayesC
import Derived.Test.YtcoloflmigcphaaGreatDoorHandRows
import Derived.Test.YtcoloflmigcphaaGreatDoorBayesY
namespace Go.Proofs.YtcoloflmigcphaaGreatDoor
set_option maxRecDepth 100000
set_option maxHeartbeats 8000000
open Go.RowKit
set_option linter.all false
theorem Jlf : LenB kn0 := Za Jj0
theorem Jle : LenB kn1 := Za Jjz
theorem Jaj (w : World) (x : Int) : ReadsI (w.alloc (.cells #[.int .i64 x] 3)) (w.alloc (.cells #[.int .i64 x] 3)).heap.size (some ⟨w.heap.size, 0, none⟩) 1 [x] := rkindI.more (Reads.one w (zv x) _) (by show w.heap.size + 1 <= (w.heap.push _).size; rw [Array.size_push]; exact Nat.le_refl _)
theorem Jnm : ∃ (m0 m1 : BM) (a b : Rat), Jdk 2 [2] 1 = (m0, 0) /\ Xg m0 [0] 0 = (m1, 0) /\ Qo m1 [0] = ([a, b], 0) /\ LenB m0 /\ LenB m1 /\ QS 1000 m0.smooth /\ QS 1000 m1.smooth /\ QS 1000 a /\ QS 1000 b /\ a = Rat.divInt 8 11 /\ b = Rat.divInt 3 11 :=
 ⟨kn0, kn1, _, _, Jnl, Jld, Jh6, Jlf, Jle, ⟨Nat.le_of_ble_eq_true (by kernel_rfl), Nat.le_of_ble_eq_true (by kernel_rfl)⟩, ⟨Nat.le_of_ble_eq_true (by kernel_rfl), Nat.le_of_ble_eq_true (by kernel_rfl)⟩, ⟨Nat.le_of_ble_eq_true (by kernel_rfl), Nat.le_of_ble_eq_true (by kernel_rfl)⟩, ⟨Nat.le_of_ble_eq_true (by kernel_rfl), Nat.le_of_ble_eq_true (by kernel_rfl)⟩, by decide +kernel, by decide +kernel⟩
theorem Jgy (w : World) (hT : Tab w) : Calls Tryz.prog 19 #[] w (Ret (.bool true) w) := by
 obtain ⟨m0, m1, a, b, h1, h2, h3, h4, h5, h6, h7, h8, h9, bG, fZ⟩ := Jnm
 have bH := fun w => Vo 1 w (by decide) (by decide)
 obtain ⟨q1, dX⟩ : ∃ q1 : Rat, ((1 : Int) : Rat) = q1 := ⟨_, rfl⟩
 have cG : (1 : Rat) = q1 := dX
 rw [cG] at h1
 rw [dX] at bH
 have bW : QS 1099511627776 q1 := by rw [<- dX]; exact (QS.cnt (k := 1) (by decide) (by decide) (by decide)).mono (by decide)
 unfold qV at bH
 have HOF := lh bH
 have HNW : Hid (∀ (w : World) (X : Addr), ReadsI w w.heap.size (some X) 1 [2] -> Calls Tryz.prog 15 #[.int .i64 2, .slice (some X) 1 1, .agg #[.bool (decide (q1.num < 0)), .int .u64 (lo q1.num.natAbs : Int), .string (mo q1.num.natAbs), .int .u64 (lo ((qden q1)) : Int), .string (mo ((qden q1)))]] w fun e w' => ∃ u, e = .returned (.tuple #[u, .int .i64 0]) /\ ModB w.heap.size 1 2 2 m0 u w' /\ Below w.heap.size w w') := lh fun w X h => by
  refine (Vp 2 (some X) 1 1 w.heap.size [2] q1 w h zd (by omega) bW).mono ?_
  rintro e w' ⟨v, rfl, hv, hb⟩
  rw [h1] at hv
  rcases hv with ⟨-, u, rfl, hm⟩ | ⟨h0, -⟩
  ·exact ⟨u, rfl, hm, hb⟩
  exact absurd rfl h0
 have HTE : Hid (∀ (w : World) (AW : Option Addr) (cW gS gC : Nat) (X : Addr), RdB w w.heap.size ⟨AW, 1, cW⟩ ⟨some ⟨gS, 0, none⟩, 2, 2⟩ ⟨some ⟨gC, 0, none⟩, 2, 2⟩ m0 -> ReadsI w w.heap.size (some X) 1 [0] -> Calls Tryz.prog 29 #[.agg #[.bool (decide (m0.smooth.num < 0)), .int .u64 (lo m0.smooth.num.natAbs : Int), .string (mo m0.smooth.num.natAbs), .int .u64 (lo ((qden m0.smooth)) : Int), .string (mo ((qden m0.smooth))), .slice AW 1 cW, .slice (some ⟨gS, 0, none⟩) 2 2, .slice (some ⟨gC, 0, none⟩) 2 2], .slice (some X) 1 1, .int .i64 0] w fun e w' => ∃ u, e = .returned (.tuple #[u, .int .i64 0]) /\ ModB w.heap.size 1 2 2 m1 u w' /\ Below w.heap.size w w') := lh fun w AW cW gS gC X h h' => by
  refine (Jb3 AW (some ⟨gS, 0, none⟩) (some ⟨gC, 0, none⟩) 1 cW 2 2 2 2 w.heap.size m0 (some X) 1 1 [0] 0 w h h' zd h4 (by omega) (h6.mono (by omega))).mono ?_
  rintro e w' ⟨v, rfl, hv, hb⟩
  rw [h2] at hv
  rcases hv with ⟨-, u, rfl, hm⟩ | ⟨h0, -⟩
  ·exact ⟨u, rfl, hm, hb⟩
  exact absurd rfl h0
 have HCH : Hid (∀ (w : World) (AW : Option Addr) (cW gS gC : Nat) (X : Addr), RdB w w.heap.size ⟨AW, 1, cW⟩ ⟨some ⟨gS, 0, none⟩, 2, 2⟩ ⟨some ⟨gC, 0, none⟩, 2, 2⟩ m1 -> ReadsI w w.heap.size (some X) 1 [0] -> Tab w -> Calls Tryz.prog 24 #[.agg #[.bool (decide (m1.smooth.num < 0)), .int .u64 (lo m1.smooth.num.natAbs : Int), .string (mo m1.smooth.num.natAbs), .int .u64 (lo ((qden m1.smooth)) : Int), .string (mo ((qden m1.smooth))), .slice AW 1 cW, .slice (some ⟨gS, 0, none⟩) 2 2, .slice (some ⟨gC, 0, none⟩) 2 2], .slice (some X) 1 1] w fun e w' => ∃ g, e = .returned (.tuple #[.slice (some ⟨g, 0, none⟩) 2 2, .int .i64 0]) /\ AtQ w' g 0 a /\ AtQ w' g 5 b /\ g < w'.heap.size /\ Below w.heap.size w w') := lh fun w AW cW gS gC X h h' hT => by
  refine (Vu AW (some ⟨gS, 0, none⟩) (some ⟨gC, 0, none⟩) 1 cW 2 2 2 2 w.heap.size m1 (some X) 1 1 [0] w h h' zd h5 (by omega) h7 hT).mono ?_
  rintro e w' ⟨v, rfl, hv, hb⟩
  rw [h3] at hv
  rcases hv with ⟨-, g, rfl, hg, ho⟩ | ⟨h0, -⟩
  ·have e0 := OwnQ.at_ ho (k := 0) rfl
   have e1 := OwnQ.at_ ho (k := 1) rfl
   exact ⟨g, rfl, e0, e1, Xw e0.c5.1, hb⟩
  exact absurd rfl h0
 have eH := fun w => Ji4 a 8 11 w (by omega) (by omega) (by omega) (by omega) (by omega) bG (h8.mono (by omega))
 have eI := fun w => Ji4 b 3 11 w (by omega) (by omega) (by omega) (by omega) (by omega) fZ (h9.mono (by omega))
 unfold qV at eH eI
 have HI1 := lh eH
 have HI2 := lh eI
 have HT := lh hT
 clear eH eI hT bH h1 h2 h3 h4 h5 h6 h7 h8 h9 bG fZ dX cG bW
 go_enter Tryz.func19, Tryz.ntmps19
 go_wp2_with fail
 refine (HOF.out _).mono ?_
 rintro e w1 ⟨rfl, q9⟩
 have hr := rkindI.below (Jaj w 2) q9
 have HR := lh (rkindI.more hr q9.size)
 have HB1 := lh (Ja (Jb w (.cells #[.int .i64 2] 3)) q9)
 clear q9 hr
 go_wp2_with fail
 refine (HNW.out w1 _ HR.out).mono ?_
 rintro e w2 ⟨u, rfl, ⟨AW, cW, gS, gC, F, G, H, rfl, ho⟩, j7⟩
 have HB2 := lh (Ja HB1.out j7)
 have HO := lh ho
 clear j7 ho HR HB1 HNW HOF
 go_upto_region 2 with fail
 have b0 := Blk.new w2 43 #[.bool (decide (m0.smooth.num < 0)), .int .u64 (lo m0.smooth.num.natAbs : Int), .string (mo m0.smooth.num.natAbs), .int .u64 (lo ((qden m0.smooth)) : Int), .string (mo ((qden m0.smooth))), .slice AW 1 cW, .slice (some ⟨gS, 0, none⟩) 2 2, .slice (some ⟨gC, 0, none⟩) 2 2]
 have j0 := Jb w2 (.cells #[.bool (decide (m0.smooth.num < 0)), .int .u64 (lo m0.smooth.num.natAbs : Int), .string (mo m0.smooth.num.natAbs), .int .u64 (lo ((qden m0.smooth)) : Int), .string (mo ((qden m0.smooth))), .slice AW 1 cW, .slice (some ⟨gS, 0, none⟩) 2 2, .slice (some ⟨gC, 0, none⟩) 2 2] 43)
 generalize w2.alloc (.cells #[.bool (decide (m0.smooth.num < 0)), .int .u64 (lo m0.smooth.num.natAbs : Int), .string (mo m0.smooth.num.natAbs), .int .u64 (lo ((qden m0.smooth)) : Int), .string (mo ((qden m0.smooth))), .slice AW 1 cW, .slice (some ⟨gS, 0, none⟩) 2 2, .slice (some ⟨gC, 0, none⟩) 2 2] 43) = w3 at *
 have cH : w.heap.size <= w2.heap.size := HB2.out.size
 have gA := HO.out.next j0
 have HB3 := lh (Ja HB2.out j0)
 generalize w2.heap.size = g at *
 have hr := Jaj w3 0
 have aU := Jb w3 (.cells #[.int .i64 0] 3)
 have aA := (gA.next aU).read
 have b4 := b0.below aU b0.lt
 have HTE2 := lh (HTE.out _ AW cW gS gC _ aA hr)
 have HB4 := lh (Ja HB3.out aU)
 have dY := b4.lt
 obtain ⟨x0, x1, x2, x3, x4, x5, x6, x7⟩ := b0.c8
 have B4 := lh (And.intro b4 dY)
 clear gA j0 hr aU aA HTE HO HB2 HB3 b4 dY b0
 go_wp2_with fail
 refine HTE2.out.mono ?_
 rintro e w5 ⟨u, rfl, ⟨AW5, cW5, gS5, gC5, F5, G5, H5, rfl, cI⟩, l6⟩
 have HB5 := lh (Ja HB4.out l6)
 have B5 := lh (B4.out.1.below l6 B4.out.2)
 have HN5 := lh (show ¬ F5 g /\ ¬ G5 g /\ ¬ H5 g from ⟨fun e => by have := cI.from1 _ e; have := B4.out.2; omega, fun e => by have := cI.from2 _ e; have := B4.out.2; omega, fun e => by have := cI.from3 _ e; have := B4.out.2; omega⟩)
 have HO5 := lh cI
 clear l6 cI HTE2 HB4 B4 x0 x1 x2 x3 x4 x5 x6 x7
 go_wp2_with (refine Jr rfl _ (.tmp 1) (.tmp 16) rfl g #[.bool (decide (m1.smooth.num < 0)), .int .u64 (lo m1.smooth.num.natAbs : Int), .string (mo m1.smooth.num.natAbs), .int .u64 (lo ((qden m1.smooth)) : Int), .string (mo ((qden m1.smooth))), .slice AW5 1 cW5, .slice (some ⟨gS5, 0, none⟩) 2 2, .slice (some ⟨gC5, 0, none⟩) 2 2] _ rfl rfl _ B5.out (by kernel_rfl) rfl (by simp [Value.oneCell']) ?_; intro w7 aF cJ; have HX7 := lh cJ; have B7 := lh aF; obtain ⟨x0, x1, x2, x3, x4, x5, x6, x7⟩ := aF.c8; clear aF cJ)
 have cK := HO5.out.exc HX7.out HN5.out.1 HN5.out.2.1 HN5.out.2.2
 have HB7 := lh (HB5.out.trans (HX7.out.below HB5.out.size cH))
 have hr := Jaj w7 0
 have aH := Jb w7 (.cells #[.int .i64 0] 3)
 have aA := (cK.next aH).read
 have HB8 := lh (Ja HB7.out aH)
 have HCH2 := lh (HCH.out _ AW5 cW5 gS5 gC5 _ aA hr (HT.out.next HB8.out))
 clear cK hr aH aA HCH HB7 HB5 HN5 HX7 B5 B7 HO5
 refine HCH2.out.mono ?_
 rintro e w9 ⟨g9, rfl, d0, d1, dY, s9⟩
 have HB9 := lh (Ja HB8.out s9)
 clear HCH2 s9 HB8 x0 x1 x2 x3 x4 x5 x6 x7
 obtain ⟨x0, x1, x2, x3, x4⟩ := d0.c5
 obtain ⟨y0, y1, y2, y3, y4⟩ := d1.c5
 go_wp2_with fail
 refine (HI1.out _).mono ?_
 rintro e wa ⟨rfl, eJ⟩
 have d1 := d1.below eJ dY
 have HBA := lh (Ja HB9.out eJ)
 clear eJ x0 x1 x2 x3 x4 y0 y1 y2 y3 y4 HI1 HB9 d0
 obtain ⟨y0, y1, y2, y3, y4⟩ := d1.c5
 go_wp2_with fail
 refine (HI2.out _).mono ?_
 rintro e wb ⟨rfl, eK⟩
 have HBB := lh (Ja HBA.out eK)
 clear eK y0 y1 y2 y3 y4 HI2 HBA d1
 go_wp2
 go_ret
 exact ⟨rfl, HBB.out⟩
theorem Jq8 (A A' : Option Addr) (n c c' : Nat) (l : List Int) (B B' : Nat) (w : World) (h : ReadsI w B A n l) (h' : ReadsI w B' A' n l) (hn : n <= 9223372036854775807) :
  Calls Tryz.prog 106 #[.slice A n c, .slice A' n c'] w fun e w' => e = .returned (.bool true) /\ ∃ k, w' = w.drewN k := by
 have q1 : ((n : Int) != (n : Int)) = false := by simp
 have q2 : ((n : Int) == (n : Int)) = true := by simp
 go_enter Tryz.func106, Tryz.ntmps106
 go_wp2
 go_loopw [5] (fun i wr => ∃ k : Nat, k <= n /\ i = .int .i64 k /\ ∃ d, wr = w.drewN d) (fun i _ => n - (intOf i).toNat)
 case atStart => exact ⟨0, Nat.zero_le _, rfl, 0, rfl⟩
 case round =>
  obtain ⟨k, hk, rfl, d, rfl⟩ := hrel
  by_cases aV : k < n
  ·obtain ⟨ad, x, hA, hb, hx, hc⟩ := h.at_ aV
   obtain ⟨ad', x', iT, gB, gD, dZ⟩ := h'.at_ aV
   have iU : x = x' := Option.some.inj (hx.symm.trans gD)
   subst iU
   clear hx gD
   subst hA iT
   have iV : (k : Int) < (n : Int) := by omega
   have q3 : (x != x) = false := by simp
   have q4 : (x == x) = true := by simp
   go_wp2
   go_quiet (fail)
   go_wp2
   exact ⟨⟨k + 1, by omega, by go_num, _, rfl⟩, by simp [intOf]; omega⟩
  go_wp2
  go_ret
  exact ⟨rfl, d, rfl⟩
def RdX (g : Nat) (m : BM) (W S C : SW) (w : World) : Prop := ∀ w', Exc g w w' -> RdB w' w'.heap.size W S C m
theorem OwB.rdx {e T T2 : TypeId} {L g : Nat} {w : World} {W S C : SW} {F G H : Nat -> Prop} {m : BM} (h : OwB e T T2 L w W S C F G H m) (hg : g < L) : RdX g m W S C w := fun w' hx =>
 (h.exc hx (fun e => by have := h.from1 _ e; omega) (fun e => by have := h.from2 _ e; omega) (fun e => by have := h.from3 _ e; omega)).read
theorem Jui {w : World} {B n c : Nat} {A : Option Addr} {l : List Int} (h : ReadsI w B A n l) (hn : 1 <= n) (hc : n <= c) : ReadsI w B (Jg4 A c 1 1) (n - 1) (l.drop 1) := by
 have h1 := Reads.cut h hn hc
 show Reads _ _ _ _ _ ((l.drop 1).map zv)
 rw [List.map_drop]
 simpa [Jg4] using h1
theorem Juh {β : Type} {R : World -> Nat -> Option Addr -> Nat -> β -> Prop} {w : World} {B n c : Nat} {A : Option Addr} {l : List β} (h : ReadsS R w B A n l) (hn : 1 <= n) (hc : n <= c) : ReadsS R w B (Jg4 A c 1 1) (n - 1) (l.drop 1) := by
 obtain ⟨rl, h1, h2, h3⟩ := h
 refine ⟨rl.drop 1, ?_, by simp [h2], fun i r b hr hb => ?_⟩
 ·have h4 := Reads.cut h1 hn hc
  rw [List.map_drop]
  simpa [Jg4] using h4
 rw [List.getElem?_drop] at hr hb
 exact h3 _ r b hr hb
theorem RdX.seen1 {g : Nat} {m : BM} {W C : SW} {A : Option Addr} {n c : Nat} {w : World} (h : RdX g m W ⟨A, n, c⟩ C w) (hn : 1 <= n) (hc : n <= c) : RdX g { m with seen := m.seen.drop 1 } W ⟨Jg4 A c 1 1, n - 1, c - 1⟩ C w := fun w' hx =>
 ⟨(h w' hx).words, Jui (h w' hx).seen hn hc, (h w' hx).counts⟩
theorem OwB.rdxTab {e T T2 : TypeId} {L g' : Nat} {w : World} {W S : SW} {F G H : Nat -> Prop} {m : BM} {g n c k : Nat} {t : List (List Int)} (h : OwB e T T2 L w W S ⟨some ⟨g, 0, none⟩, n, c⟩ F G H m) (hg : g' < L) (ht : m.counts[k]? = some t) (h1 : 1 <= t.length) :
  ∃ A c1, w.cell? ⟨g, k, none⟩ = some (.slice A t.length c1) /\ t.length <= c1 /\ w.frozen? ⟨g, k, none⟩ = false /\ L <= g /\ H g /\
   RdX g' { m with counts := m.counts.set k (t.drop 1) } W S ⟨some ⟨g, 0, none⟩, n, c⟩ (w.setCell ⟨g, k, none⟩ (.slice (Jg4 A c1 1 1) (t.length - 1) (c1 - 1))) := by
 have hr := Js e zv
 have eL := Xt hr T
 have hH : H g := h.tabs
 obtain ⟨A, k0, c1, F', q1, q2, q3, q4, -⟩ := h.counts.at_ eL ht
 obtain ⟨A2, c2, hf⟩ := q2.form
 injection hf with e1 e2 e3
 subst e2 e3
 have cL : t.length <= c1 := by
  obtain ⟨rl, F1, r1, r2, -⟩ := q2
  obtain ⟨A0, c0, e0, r3, -⟩ := Own.form r1
  injection e0 with e1 e2 e3
  omega
 refine ⟨A, c1, q1, cL, h.counts.frozen k, h.from3 g hH, hH, fun w' hx => ?_⟩
 have o0 : Exc g w (w.setCell ⟨g, k, none⟩ (.slice (Jg4 A c1 1 1) (t.length - 1) (c1 - 1))) := (Exc.refl g w).set_ k _
 obtain ⟨o1, o2, o3⟩ := h.old
 have hs := nt o0.size hx.size
 have far : ∀ x, x < w.heap.size -> L <= x -> x ≠ g -> w'.heap[x]? = w.heap[x]? := fun x o9 hL iW => (hx.block x (Nat.lt_of_lt_of_le o9 o0.size) (by omega)).trans (o0.block x o9 iW)
 have hw := hr.loc h.words hs fun x o9 => far x (o1 x o9) (h.from1 x o9) fun e => h.ap13 x o9 (by rw [e]; exact hH)
 have iX := hr.loc h.seen hs fun x o9 => far x (o2 x o9) (h.from2 x o9) fun e => h.ap23 x o9 (by rw [e]; exact hH)
 refine ⟨hw.readsI, iX.readsI, ?_⟩
 have iY := eL.loc q2 hs fun x o9 => far x (o3 x (q3 x o9).1) (h.from3 x (q3 x o9).1) (q3 x o9).2
 obtain ⟨rl, F1, r1, r2, r3, r4, r5, r6, r7⟩ := h.counts
 have bX : k < rl.length := by rw [r2]; exact (List.getElem?_eq_some_iff.1 ht).1
 have hn : n = rl.length := by
  obtain ⟨A', c', h4, _, _⟩ := Own.form r1
  injection h4
 subst hn
 have cN := World.ownsRow.stored r1 k (.slice (Jg4 A c1 1 1) (t.length - 1) (c1 - 1))
 have eM : Own (w.setCell ⟨g, k, none⟩ (.slice (Jg4 A c1 1 1) (t.length - 1) (c1 - 1))) T2 SW.v (.slice (some ⟨g, 0, none⟩) rl.length c) (rl.set k ⟨Jg4 A c1 1 1, t.length - 1, c1 - 1⟩) := by
  unfold Own
  rw [List.length_set, List.map_set]
  exact cN.1
 have cO := eM.loc (w' := w') fun x o9 => by
  have e1 : g = x := by simpa [Value.ownBlock] using o9
  subst e1
  exact hx.block g (Nat.lt_of_lt_of_le (o3 g hH) o0.size) (by have := h.from3 g hH; omega)
 have aA := Own.reads cO
 rw [List.length_set] at aA
 refine ⟨_, aA, by simp [r2], fun i r b iZ hb => ?_⟩
 rcases getElem?_set_cases iZ with ⟨e1, e2⟩ | ⟨hj, cP⟩
 ·subst e1 e2
  have eb : b = t.drop 1 := by
   rw [List.getElem?_set, if_pos rfl] at hb
   split at hb
   ·exact (Option.some.inj hb).symm
   cases hb
  subst eb
  exact Juh (Nest.reads (fun hq => NRow.readsI hq) iY) h1 cL
 rw [List.getElem?_set, if_neg (fun e => hj e.symm)] at hb
 have eN := (List.getElem?_eq_some_iff.1 cP).1
 have hm := eL.loc (r3 i r b cP hb) hs fun x o9 => far x (o3 x (r4 i eN x o9).1) (h.from3 x (r4 i eN x o9).1) fun e => (r4 i eN x o9).2 (by rw [e]; rfl)
 exact Nest.reads (fun hq => NRow.readsI hq) hm
def DocQ (m : BM) (v : Value) (w : World) : Prop := ∃ (ng : Bool) (A7 A8 : Option Addr) (l7 d7 l8 d8 : Nat) (W S C : SW), v = .agg #[.bool ng, .slice A7 l7 d7, .slice A8 l8 d8, W.v, S.v, C.v] /\ IsQ w w.heap.size (.agg #[.bool ng, .slice A7 l7 d7, .slice A8 l8 d8]) m.smooth /\ RdB w w.heap.size W S C m
def Joq (cols : Int) (k : Nat) : List Int := (List.range k).map fun (c : Nat) => (cols.tdiv 3 + (c : Int)) % 3 + 1
theorem Jpg (cols : Int) (k : Nat) : Joq cols (k + 1) = Joq cols k ++ [(cols.tdiv 3 + (k : Int)) % 3 + 1] := by
 unfold Joq
 rw [List.range_succ, List.map_append]
 rfl
theorem Jow (cols : Int) (k : Nat) : (Joq cols k).length = k := by simp [Joq]
theorem Jph {x : Int} (h : -9223372036854775808 <= x /\ x <= 9223372036854775807) : (-4611686018427387904 <= x.tdiv 3 /\ x.tdiv 3 <= 4611686018427387904) /\ -4611686018427387904 <= x.tdiv 4 /\ x.tdiv 4 <= 4611686018427387904 := by
 rcases Int.le_total 0 x with h0 | h0
 ·rw [Int.tdiv_eq_ediv_of_nonneg h0, Int.tdiv_eq_ediv_of_nonneg h0]
  omega
 have e : x.tdiv 4 = -((-x).tdiv 4) := by rw [Int.neg_tdiv]; omega
 have e' : x.tdiv 3 = -((-x).tdiv 3) := by rw [Int.neg_tdiv]; omega
 rw [e, e', Int.tdiv_eq_ediv_of_nonneg (by omega), Int.tdiv_eq_ediv_of_nonneg (by omega)]
 omega
theorem Jpk {f : Nat} {m : BM} {l : List Int} {i : Nat} (h : ¬ (i + m.words.length < l.length /\ i < 24)) : Jop f m l i = m := by
 cases f with
 | zero => rfl
 | succ f => unfold Jop; rw [if_neg h]
theorem Jpl {f n : Nat} {m : BM} {l : List Int} {i : Nat} (hd : DrawnB m n) (hn : n < 1073741824) (h : i + m.words.length < l.length /\ i < 24) (hf : 24 <= f + i) :
  ∃ (f' : Nat), f = f' + 1 /\ Xg m (Jkx (l.drop (i + 1)) m.words) (l.getD i 0 % (m.seen.length : Int)) = (Jn m (Jkx (l.drop (i + 1)) m.words) (l.getD i 0 % (m.seen.length : Int)).toNat 1, 0) /\ DrawnB (Jn m (Jkx (l.drop (i + 1)) m.words) (l.getD i 0 % (m.seen.length : Int)).toNat 1) (n + 1) /\ Jop f m l i = Jop f' (Jn m (Jkx (l.drop (i + 1)) m.words) (l.getD i 0 % (m.seen.length : Int)).toNat 1) l (i + m.words.length + 1) := by
 obtain ⟨h1, h2⟩ := hd.moved (hd.rowOk (l.drop (i + 1))) (hd.class_ (l.getD i 0)) hn
 obtain ⟨f', rfl⟩ : ∃ f', f = f' + 1 := ⟨f - 1, by omega⟩
 refine ⟨f', rfl, h1, h2, ?_⟩
 rw [Jop, if_pos h, h1, if_pos rfl]
def DrS (L : Nat) (g : Nat) (x0 x1 x2 : Value) (m : BM) (w : World) : Prop := ∃ (W S C : SW) (F G H : Nat -> Prop), Blk w g 31 #[x0, x1, x2, W.v, S.v, C.v] /\ OwB 3 22 65 L w W S C F G H m /\ (¬ F g /\ ¬ G g /\ ¬ H g)
def DrI (ws : List Int) (q : Rat) (l : List Int) (M0 : BM) (L g : Nat) (x0 x1 x2 : Value) (w5 : World) (i : Nat) (w : World) : Prop := ∃ (f nT : Nat) (mm : BM), i <= 40 /\ 24 <= f + i /\ Jop f mm l i = M0 /\ DrawnB mm nT /\ nT <= i /\ mm.words = ws /\ mm.smooth = q /\ DrS L g x0 x1 x2 mm w /\ Below L w5 w
def Jpi (m : BM) (y : Int) (k c : Nat) (b : Int) : BM :=
 if y = 0 then { m with seen := m.seen.set k b }
 else if y = 1 then { m with counts := m.counts.set k ((m.counts.getD k []).set c (((m.counts.getD k []).getD c []).set 0 b)) }
 else if y = 2 then { m with smooth := (b : Rat) }
 else if y = 3 then { m with words := m.words.set c b }
 else if y = 4 then { m with counts := m.counts.set k ((m.counts.getD k []).drop 1) }
 else if y = 5 then { m with seen := m.seen.drop 1 }
 else if y = 6 then { m with seen := m.seen.set k 1073741824 }
 else m
theorem Jpo (m : BM) (way at_ by_ : Int) : Jo6 m way at_ by_ = Jpi m (way % 14) (at_ % (m.seen.length : Int)).toNat ((at_.tdiv 3) % (m.words.length : Int)).toNat (by_ % 9 - 2) := rfl
theorem Jo2 {m : BM} {y : Int} {k c : Nat} {b : Int} (h : ¬ (y = 0 \/ y = 1 \/ y = 2 \/ y = 3 \/ y = 4 \/ y = 5 \/ y = 6)) : Jpi m y k c b = m := by
 unfold Jpi
 rw [if_neg (by omega), if_neg (by omega), if_neg (by omega), if_neg (by omega), if_neg (by omega), if_neg (by omega), if_neg (by omega)]
def DrQ (g g' : Nat) (m : BM) (w : World) : Prop := ∃ (ng : Bool) (A7 A8 : Option Addr) (l7 d7 l8 d8 : Nat) (W S C : SW), Blk w g 31 #[.bool ng, .slice A7 l7 d7, .slice A8 l8 d8, W.v, S.v, C.v] /\ ∀ w', Exc g' w w' -> IsQ w' w'.heap.size (.agg #[.bool ng, .slice A7 l7 d7, .slice A8 l8 d8]) m.smooth /\ RdB w' w'.heap.size W S C m
theorem Jq1 {a : Bool} {A1 A2 A3 A4 A5 : Option Addr} {l1 c1 l2 c2 l3 c3 l4 c4 l5 c5 : Nat} : ∀ i x : Nat, (#[Value.bool a, .slice A1 l1 c1, .slice A2 l2 c2, .slice A3 l3 c3, .slice A4 l4 c4, .slice A5 l5 c5])[i]? ≠ some (Ju x) := by
 intro i x h
 match i with
 | 0 => simp [Ju] at h
 | 1 => simp [Ju] at h
 | 2 => simp [Ju] at h
 | 3 => simp [Ju] at h
 | 4 => simp [Ju] at h
 | 5 => simp [Ju] at h
 | n + 6 => simp at h
def DrF (ws : List Int) (q : Rat) (M0 : BM) (L g : Nat) (x0 x1 x2 : Value) (w5 : World) (w : World) : Prop := ∃ nT : Nat, nT <= 40 /\ DrawnB M0 nT /\ M0.words = ws /\ M0.smooth = q /\ DrS L g x0 x1 x2 M0 w /\ Below L w5 w
def DrM (L : Nat) (x0 x1 x2 xw : Value) (m : BM) (u : Value) (w : World) (X : Nat -> Prop) : Prop := ∃ (S C : SW) (G H : Nat -> Prop), u = .agg #[x0, x1, x2, xw, S.v, C.v] /\ NRow 3 zv w G S.v m.seen /\ Nest 65 (Nest 22 (NRow 3 zv)) w H C.v m.counts /\ (∀ k, G k -> L <= k /\ ¬ H k) /\ (∀ k, H k -> L <= k) /\ ∀ g, X g -> ¬ G g /\ ¬ H g
theorem DrM.next {L : Nat} {x0 x1 x2 xw u : Value} {m : BM} {w w' : World} {X Y : Nat -> Prop} (h : DrM L x0 x1 x2 xw m u w X) (hb : Below w.heap.size w w') (hY : ∀ g, Y g -> X g \/ w.heap.size <= g) : DrM L x0 x1 x2 xw m u w' Y := by
 obtain ⟨S, C, G, H, e, hs, hc, h1, h2, h3⟩ := h
 have hr := Js 3 zv
 refine ⟨S, C, G, H, e, hr.loc hs hb.size fun k hk => hb.block k (hr.lt hs hk), hc.next (Xt hr _) hb, h1, h2, fun g hg => ?_⟩
 rcases hY g hg with h | h
 ·exact h3 g h
 exact ⟨fun e => by have := hr.lt hs e; omega, fun e => by have := hc.lt (Xt hr _) e; omega⟩
theorem DrM.exc {L g : Nat} {x0 x1 x2 xw u : Value} {m : BM} {w w' : World} {X : Nat -> Prop} (h : DrM L x0 x1 x2 xw m u w X) (hx : Exc g w w') (hg : X g) : DrM L x0 x1 x2 xw m u w' X := by
 obtain ⟨S, C, G, H, e, hs, hc, h1, h2, h3⟩ := h
 have hr := Js 3 zv
 exact ⟨S, C, G, H, e, hr.loc hs hx.size fun k hk => hx.block k (hr.lt hs hk) fun e => (h3 g hg).1 (by rw [<- e]; exact hk), hc.loc (Xt hr _) hx.size fun k hk => hx.block k (hc.lt (Xt hr _) hk) fun e => (h3 g hg).2 (by rw [<- e]; exact hk), h1, h2, h3⟩
structure DrR (W : World) (x0 x1 x2 xw : Value) (n1 : Nat) (row : List Int) (m : BM) (FX : Nat -> Option Value) (d : Nat -> Bool) (val : Nat -> Value) (w : World) : Prop where
 bel : Below W.heap.size W w
 fx : Fixed FX d val
 v6 : d 6 = true -> ∃ A c, val 6 = .slice A n1 c /\ (d 15 = false -> ReadsI w w.heap.size A n1 row)
 v15 : d 15 = true -> ∃ c0 c1 c2 c3 c4 c5, val 15 = .tuple #[.agg #[c0, c1, c2, c3, c4, c5], .int .i64 0] /\ (#[c0, c1, c2, c3, c4, c5].all (·.oneCell') = true) /\ DrM W.heap.size x0 x1 x2 xw m (.agg #[c0, c1, c2, c3, c4, c5]) w fun g => d 19 = true /\ val 19 = .pointer (some ⟨g, 0, none⟩)
 v16 : d 16 = true -> d 15 = true /\ val 16 = val 15
 v17 : d 17 = true -> d 15 = true /\ ∀ u y, val 15 = .tuple #[u, y] -> val 17 = u
 v18 : d 18 = true -> d 15 = true /\ ∀ u y, val 15 = .tuple #[u, y] -> val 18 = y
 v19 : d 19 = true -> ∃ g y0 y1 y2 y3 y4 y5, val 19 = .pointer (some ⟨g, 0, none⟩) /\ W.heap.size <= g /\ Blk w g 31 #[y0, y1, y2, y3, y4, y5] /\ (d 20 = true -> d 17 = true /\ val 17 = .agg #[y0, y1, y2, y3, y4, y5])
 v20 : d 20 = true -> d 19 = true
 v21 : d 21 = true -> d 18 = true /\ val 21 = val 18
theorem DrR.next {W w w' : World} {x0 x1 x2 xw : Value} {n1 : Nat} {row : List Int} {m : BM} {FX : Nat -> Option Value} {d : Nat -> Bool} {val : Nat -> Value} (h : DrR W x0 x1 x2 xw n1 row m FX d val w) (hb : Below w.heap.size w w') : DrR W x0 x1 x2 xw n1 row m FX d val w' where
 bel := h.bel.trans (hb.mono h.bel.size)
 fx := h.fx
 v6 := fun h1 => (h.v6 h1).imp fun A h2 => h2.imp fun c h3 => ⟨h3.1, fun h4 => rkindI.more (rkindI.below (h3.2 h4) hb) hb.size⟩
 v15 := fun h1 => by
  obtain ⟨c0, c1, c2, c3, c4, c5, e, ho, hm⟩ := h.v15 h1
  exact ⟨c0, c1, c2, c3, c4, c5, e, ho, hm.next hb fun g hg => .inl hg⟩
 v16 := h.v16
 v17 := h.v17
 v18 := h.v18
 v19 := fun h1 => by
  obtain ⟨g, y0, y1, y2, y3, y4, y5, e, hg, hk, h2⟩ := h.v19 h1
  exact ⟨g, y0, y1, y2, y3, y4, y5, e, hg, hk.below hb hk.lt, h2⟩
 v20 := h.v20
 v21 := h.v21
theorem Jq6 {a b u y : Value} (h : #[a, b] = #[u, y]) : a = u /\ b = y := by simpa using h
theorem Jps {g g' : Nat} (h : Value.pointer (some ⟨g, 0, none⟩) = .pointer (some ⟨g', 0, none⟩)) : g = g' := by
 injection h with h
 injection h with h
 injection h with h
def DrC (L : Nat) (x0 x1 x2 xw : Value) (m : BM) (W : World) (v v20 : Value) (w : World) : Prop := ∃ (g : Nat) (S C : SW) (G H : Nat -> Prop), v = .pointer (some ⟨g, 0, none⟩) /\ v20 = .int .i64 0 /\ Blk w g 31 #[x0, x1, x2, xw, S.v, C.v] /\ NRow 3 zv w G S.v m.seen /\ Nest 65 (Nest 22 (NRow 3 zv)) w H C.v m.counts /\ (∀ k, G k -> L <= k /\ ¬ H k) /\ (∀ k, H k -> L <= k) /\ Below W.heap.size W w
theorem DrR.end_ {W w : World} {x0 x1 x2 xw : Value} {n1 : Nat} {row : List Int} {m : BM} {FX : Nat -> Option Value} {d : Nat -> Bool} {val : Nat -> Value} (hF : DrR W x0 x1 x2 xw n1 row m FX d val w) (hd : ∀ i, i < 22 -> d i = true) : DrC W.heap.size x0 x1 x2 xw m W (val 19) (val 21) w := by
 obtain ⟨c0, c1, c2, c3, c4, c5, e15, -, S, C, G, H, e0, hs, hc, h1, h2, -⟩ := hF.v15 (hd 15 (by decide))
 obtain ⟨g, y0, y1, y2, y3, y4, y5, e19, hg, hk, jA⟩ := hF.v19 (hd 19 (by decide))
 have e8 := ((jA (hd 20 (by decide))).2.symm.trans ((hF.v17 (hd 17 (by decide))).2 _ _ e15)).trans e0
 injection e8 with e8
 rw [e8] at hk
 exact ⟨g, S, C, G, H, e19, (hF.v21 (hd 21 (by decide))).2.trans ((hF.v18 (hd 18 (by decide))).2 _ _ e15), hk, hs, hc, h1, h2, hF.bel⟩
theorem Jqh {L : Nat} {x0 x1 x2 xw : Value} {m : BM} {v : Value} {w : World} (h : Jq7 L x0 x1 x2 xw (m, 0) v w) : ∃ u, v = .tuple #[u, .int .i64 0] /\ Jq3 L x0 x1 x2 xw m u w := by
 rcases h with ⟨-, u, rfl, hm⟩ | ⟨h0, -⟩
 ·exact ⟨u, rfl, hm⟩
 exact absurd rfl h0
theorem DrQ.of {g g' : Nat} {m : BM} {ng : Bool} {A7 A8 : Option Addr} {l7 d7 l8 d8 : Nat} {W S C : SW} {w : World} (bk : Blk w g 31 #[.bool ng, .slice A7 l7 d7, .slice A8 l8 d8, W.v, S.v, C.v]) (hq : ∀ w', Exc g' w w' -> IsQ w' w'.heap.size (.agg #[.bool ng, .slice A7 l7 d7, .slice A8 l8 d8]) m.smooth) (hx : RdX g' m W S C w) : DrQ g g' m w :=
 ⟨ng, A7, A8, l7, d7, l8, d8, W, S, C, bk, fun w' h => ⟨hq w' h, hx w' h⟩⟩
theorem OwB.newWords {e T T2 : TypeId} {L : Nat} {w w' : World} {W W' S C : SW} {F G H : Nat -> Prop} {m : BM} {ws : List Int} (h : OwB e T T2 L w W S C F G H m) (hb : Below w.heap.size w w') (hL : L <= w.heap.size) (ho : Own w' e zv W'.v ws) (hf : ∀ b, W'.v.ownBlock = some b -> w.heap.size <= b) : OwB e T T2 L w' W' S C (fun k => W'.v.ownBlock = some k) G H { m with words := ws } := by
 obtain ⟨o1, o2, o3⟩ := h.old
 have h2 := h.next hb
 exact ⟨NRow.of ho, h2.seen, h2.counts, fun k hk => nt hL (hf k hk), h.from2, h.from3, fun k hk eO => by have := hf k hk; have := o2 k eO; omega, fun k hk eO => by have := hf k hk; have := o3 k eO; omega, h.ap23⟩
theorem OwB.setWordsD {e T T2 : TypeId} {L : Nat} {w : World} {S C : SW} {F G H : Nat -> Prop} {m : BM} {g n c : Nat} (h : OwB e T T2 L w ⟨some ⟨g, 0, none⟩, n, c⟩ S C F G H m) (k : Nat) (y : Int) : OwB e T T2 L (w.setCell ⟨g, k, none⟩ (zv y)) ⟨some ⟨g, 0, none⟩, n, c⟩ S C F G H { m with words := m.words.set k y } := by
 have hF : F g := (h.words.2 g).2 rfl
 have o0 : Exc g w (w.setCell ⟨g, k, none⟩ (zv y)) := (Exc.refl g w).set_ k _
 exact ⟨NRow.store h.words k y, (Js e zv).loc h.seen o0.size fun z hz => o0.block z ((Js e zv).lt h.seen hz) fun e => h.ap12 g hF (by rw [<- e]; exact hz),
  h.counts.loc (Xt (Js _ zv) T) o0.size fun z hz => o0.block z (h.counts.lt (Xt (Js _ zv) T) hz) fun e => h.ap13 g hF (by rw [<- e]; exact hz), h.from1, h.from2, h.from3, h.ap12, h.ap13, h.ap23⟩
theorem Jpt (A : Option Addr) (n c : Nat) (l : List Int) (classes cols smooth way at_ by_ : Int) (B : Nat) (w : World) (h : ReadsI w B A n l) (hB : B <= w.heap.size) (eA : n <= c) (hc : c <= 9223372036854775807) (hl : ∀ x ∈ l, -9223372036854775808 <= x /\ x <= 9223372036854775807)
  (i1 : -9223372036854775808 <= classes /\ classes <= 9223372036854775807) (i2 : -9223372036854775808 <= cols /\ cols <= 9223372036854775807) (i3 : -9223372036854775808 <= smooth /\ smooth <= 9223372036854775807) (i4 : -9223372036854775808 <= way /\ way <= 9223372036854775807) (i5 : -9223372036854775808 <= at_ /\ at_ <= 9223372036854775807) (i6 : -9223372036854775808 <= by_ /\ by_ <= 9223372036854775807) :
  Calls Tryz.prog 12 #[.slice A n c, .int .i64 classes, .int .i64 cols, .int .i64 smooth, .int .i64 way, .int .i64 at_, .int .i64 by_] w fun e w' => ∃ v, e = .returned v /\ DocQ (Jo6 (Jov l classes cols smooth) way at_ by_) v w' /\ Below w.heap.size w w' := by
 have gE : l.length = n := h.len
 have eP : ∀ (M : Nat), 1 <= M -> M <= 1000 -> ∀ (y : Int) (w' : World), -9223372036854775808 <= y -> y <= 9223372036854775807 -> Calls Tryz.prog 13 #[.int .i64 y, .int .i64 (M : Int)] w' fun e w'' => e = .returned (.int .i64 (y % (M : Int))) /\ w' = w'' := fun M h1 h2 y w' h3 h4 => Jpd y M w' h3 h4 h1 (by omega)
 have HPK := lh eP
 obtain ⟨N, hN⟩ : ∃ N : Nat, cols % 3 + 1 = (N : Int) := ⟨(cols % 3 + 1).toNat, by omega⟩
 have jW : 1 <= N /\ N <= 3 := by omega
 obtain ⟨NC, gF⟩ : ∃ NC : Nat, classes % 3 + 1 = (NC : Int) := ⟨(classes % 3 + 1).toNat, by omega⟩
 have jB : 1 <= NC /\ NC <= 3 := by omega
 have gG : Joq cols N = Jon cols := by unfold Joq Jon; rw [show (cols % 3).toNat + 1 = N by omega]
 obtain ⟨M0, eQ⟩ : ∃ M0, Jov l classes cols smooth = M0 := ⟨_, rfl⟩
 rw [eQ]
 obtain ⟨M1, bY⟩ : ∃ M1, Jo6 M0 way at_ by_ = M1 := ⟨_, rfl⟩
 rw [bY]
 have HM := lh (And.intro eQ bY)
 have HN := lh (And.intro hN (And.intro gF gG))
 have H := lh h
 have HL := lh hl
 have HI := lh (And.intro i1 (And.intro i2 (And.intro i3 (And.intro i4 (And.intro i5 i6)))))
 have HBB := lh hB
 have HLN := lh gE
 have HP1 : Hid (∀ w', Calls Tryz.prog 13 #[.int .i64 cols, .int .i64 3] w' fun e w'' => e = .returned (.int .i64 ((N : Int) - 1)) /\ w' = w'') := lh fun w' => by
  have h1 := eP 3 (by decide) (by decide) cols w' i2.1 i2.2
  rw [show cols % ((3 : Nat) : Int) = (N : Int) - 1 by omega] at h1
  exact h1
 clear h hl i1 i2 i3 i4 i5 i6 hB gE eQ bY hN gF eP gG
 obtain ⟨b0, hB, hZ⟩ := bx1 w 31 #[.bool false, .slice none 0 0, .slice none 0 0, .slice none 0 0, .slice none 0 0, .slice none 0 0]
 go_enter Tryz.func12, Tryz.ntmps12
 go_upto_region 1 with fail
 generalize (w.alloc (.cells #[.bool false, .slice none 0 0, .slice none 0 0, .slice none 0 0, .slice none 0 0, .slice none 0 0] 31)) = W at *
 have HBW := lh hB
 have HZ := lh hZ.out
 have B0 := lh b0
 clear hB hZ b0
 go_wp2_with fail
 go_loopw [15, 16] (fun v p wr => ∃ k : Nat, k <= N /\ p = .int .i64 (k : Int) /\ Own wr 3 zv v (Joq cols k) /\ (∀ b, v.ownBlock = some b -> W.heap.size <= b) /\ Below W.heap.size W wr) (fun _ p _ => N - (intOf p).toNat)
 case atStart => exact ⟨0, by omega, rfl, Own.nil_ _ _ _, (fun b h => by cases h), Below.refl _ _⟩
 case round =>
  obtain ⟨k, hk, rfl, ho, aI, j6⟩ := hrel
  rename World => wr
  have q1 : (N : Int) - 1 + 1 = N := by omega
  by_cases gH : k < N
  ·as_aux_lemma =>
   have k1 : (k : Int) < (N : Int) := by omega
   have bZ := (Jph HI.out.2.1).1
   obtain ⟨cq, jC⟩ : ∃ cq, cols.tdiv 3 = cq := ⟨_, rfl⟩
   have cQ := Jpg cols k
   rw [jC] at bZ cQ
   have cR := Jfv (x := cq) (by omega) (by omega)
   obtain ⟨y, hy⟩ : ∃ y, cq + (k : Int) = y := ⟨_, rfl⟩
   have cT := Jfv (x := y) (by omega) (by omega)
   rw [hy] at cQ
   obtain ⟨t, ht⟩ : ∃ t, y % 3 = t := ⟨_, rfl⟩
   have HP2 : Hid (Calls Tryz.prog 13 #[.int .i64 y, .int .i64 3] wr fun e w'' => e = .returned (.int .i64 t) /\ wr = w'') := lh (by
    have h1 := HPK.out 3 (by decide) (by decide) y wr (by omega) (by omega)
    rw [show y % ((3 : Nat) : Int) = t by omega] at h1
    exact h1)
   rw [ht] at cQ
   have jX : 0 <= t /\ t < 3 := by omega
   have HO := lh ho
   have HFR := lh (And.intro aI j6)
   have HSN := lh cQ
   clear ho aI j6 cQ ht HPK
   go_wp2_with fail
   refine (HP1.out _).mono ?_
   rintro e w1 ⟨rfl, rfl⟩
   go_wp2_with fail
   refine HP2.out.mono ?_
   rintro e w1 ⟨rfl, rfl⟩
   go_wp2_with (at_builtin; refine Joi (f := zv) Tryz.eltZ1 rfl (.tmp 30) (.tmp 37) rfl wr _ (Joq cols k) (t + 1) (.int .i64 (t + 1)) rfl rfl HO.out (by simp [Act.eval]) rfl (by rw [Jow]; unfold maxLen; omega) (by rw [Jow]; omega) ?_; intro v' w2 eB cA)
   have cU := HFR.out.2.trans (cA.below HFR.out.2.size HFR.out.1)
   have eR := cA.fresh HFR.out.2.size HFR.out.1
   rw [<- HSN.out] at eB
   exact ⟨⟨k + 1, by omega, by go_num, eB, eR, cU⟩, by simp [intOf]; omega⟩
  as_aux_lemma =>
  obtain rfl : k = N := by omega
  have k1 : ¬ (k : Int) < (k : Int) := by omega
  rw [HN.out.2.2] at ho
  have aJ : (Jon cols).length = k := by rw [<- HN.out.2.2, Jow]
  have HWL := lh aJ
  obtain ⟨AW, cW, hv, -⟩ := ho.form
  rw [aJ] at hv
  subst hv
  clear aJ
  have HO := lh ho
  have HFR := lh (And.intro aI j6)
  clear ho aI j6
  obtain ⟨t4, gI⟩ : ∃ t4, smooth % 4 = t4 := ⟨_, rfl⟩
  obtain ⟨sq, gJ⟩ : ∃ sq, smooth.tdiv 4 = sq := ⟨_, rfl⟩
  have gK := (Jph HI.out.2.2.1).2
  rw [gJ] at gK
  obtain ⟨t5, gL⟩ : ∃ t5, sq % 3 = t5 := ⟨_, rfl⟩
  have jY := Jfv (x := sq) (by omega) (by omega)
  have jZ : (0 <= t4 /\ t4 < 4) /\ 0 <= t5 /\ t5 < 3 := by omega
  obtain ⟨q, hq⟩ : ∃ q, Rat.divInt (t4 + 1) (t5 + 1) = q := ⟨_, rfl⟩
  have cN : Jo1 classes cols smooth = Uw NC (Jon cols) q := by
   unfold Jo1
   rw [show (classes % 3).toNat + 1 = NC by have := HN.out.2.1; omega, gJ, gI, gL, <- Rat.divInt_eq_div, hq]
  have gM : Jp6 (NC : Int) (Jon cols) q = Uw NC (Jon cols) q := Jp5 (by
   have h1 := (Joz classes cols smooth).ok
   rw [cN, Kv, Yf] at h1
   have h2 := h1.1.1
   simpa [Uw] using h2)
  have HPC : Hid (∀ w', Calls Tryz.prog 13 #[.int .i64 classes, .int .i64 3] w' fun e w'' => e = .returned (.int .i64 ((NC : Int) - 1)) /\ w' = w'') := lh fun w' => by
   have h1 := HPK.out 3 (by decide) (by decide) classes w' HI.out.1.1 HI.out.1.2
   rw [show classes % ((3 : Nat) : Int) = (NC : Int) - 1 by have := HN.out.2.1; omega] at h1
   exact h1
  have HPS : Hid (∀ w', Calls Tryz.prog 13 #[.int .i64 smooth, .int .i64 4] w' fun e w'' => e = .returned (.int .i64 t4) /\ w' = w'') := lh fun w' => by
   have h1 := HPK.out 4 (by decide) (by decide) smooth w' HI.out.2.2.1.1 HI.out.2.2.1.2
   rw [show smooth % ((4 : Nat) : Int) = t4 by omega] at h1
   exact h1
  have HPT : Hid (∀ w', Calls Tryz.prog 13 #[.int .i64 sq, .int .i64 3] w' fun e w'' => e = .returned (.int .i64 t5) /\ w' = w'') := lh fun w' => by
   have h1 := HPK.out 3 (by decide) (by decide) sq w' (by omega) (by omega)
   rw [show sq % ((3 : Nat) : Int) = t5 by omega] at h1
   exact h1
  have HOV : Hid (∀ w', Calls Tryz.prog 47 #[.int .i64 (t4 + 1), .int .i64 (t5 + 1)] w' (Jmv q w')) := lh fun w' => by
   have h1 := Jk0 (t4 + 1) (t5 + 1) w' (by omega) (by omega) (by omega) (by omega) (by omega)
   rw [hq] at h1
   exact h1
  have q2 : (NC : Int) - 1 + 1 = NC := by omega
  have HST := lh (And.intro cN gM)
  clear gI gL hq cN gM gK
  go_wp2_with fail
  refine (HP1.out _).mono ?_
  rintro e w1 ⟨rfl, rfl⟩
  go_upto_region 6 with fail
  go_wp2_with fail
  refine (HPC.out _).mono ?_
  rintro e w1 ⟨rfl, rfl⟩
  go_wp2_with fail
  refine (HPS.out _).mono ?_
  rintro e w1 ⟨rfl, rfl⟩
  go_wp2_with fail
  refine (HPT.out _).mono ?_
  rintro e w1 ⟨rfl, rfl⟩
  go_wp2_with fail
  refine (HOV.out _).mono ?_
  rintro e w5 ⟨V, rfl, aR, l6⟩
  obtain ⟨ng, A7, l7, d7, A8, l8, d8, rfl⟩ := aR.shape
  have eS : ReadsI w5 w5.heap.size AW k (Jon cols) := rkindI.more (rkindI.below (NRow.readsI (NRow.of HO.out)) l6) l6.size
  have HNW := lh (Jqu (NC : Int) AW k cW (Jon cols) ng A7 A8 l7 d7 l8 d8 w5.heap.size q w5 eS zd (by omega) (fun x hx => by have := Jou hx; omega))
  have HB5 := lh (HFR.out.2.trans (l6.mono HFR.out.2.size))
  have HIQ := lh aR
  have HRW := lh eS
  clear l6 aR eS HPC HPS HPT HOV HP1
  rw [HST.out.2] at HNW
  go_wp2_with fail
  refine HNW.out.mono ?_
  rintro e w6 ⟨v, rfl, ⟨⟨A1, n1, c1⟩, ⟨A2, n2, c2⟩, ⟨A3, n3, c3⟩, F, G, Hh, rfl, ho⟩, aK⟩
  simp only [SW.v] at *
  go_upto_region 7 with fail
  have b17 := Blk.new w6 31 #[.bool ng, .slice A7 l7 d7, .slice A8 l8 d8, .slice A1 n1 c1, .slice A2 n2 c2, .slice A3 n3 c3]
  have aF := Ja aK (Jb w6 (.cells #[.bool ng, .slice A7 l7 d7, .slice A8 l8 d8, .slice A1 n1 c1, .slice A2 n2 c2, .slice A3 n3 c3] 31))
  have cK := ho.next (Jb w6 (.cells #[.bool ng, .slice A7 l7 d7, .slice A8 l8 d8, .slice A1 n1 c1, .slice A2 n2 c2, .slice A3 n3 c3] 31))
  generalize w6.alloc (.cells #[.bool ng, .slice A7 l7 d7, .slice A8 l8 d8, .slice A1 n1 c1, .slice A2 n2 c2, .slice A3 n3 c3] 31) = w7 at *
  obtain ⟨o1, o2, o3⟩ := ho.old
  have cZ : w5.heap.size <= w6.heap.size := aK.size
  generalize w6.heap.size = g at *
  have dA : DrS w5.heap.size g (.bool ng) (.slice A7 l7 d7) (.slice A8 l8 d8) (Uw NC (Jon cols) q) w7 := ⟨⟨A1, n1, c1⟩, ⟨A2, n2, c2⟩, ⟨A3, n3, c3⟩, F, G, Hh, b17, cK, fun e => by have := o1 _ e; omega, fun e => by have := o2 _ e; omega, fun e => by have := o3 _ e; omega⟩
  have HDI : Hid (DrI (Jon cols) q l M0 w5.heap.size g (.bool ng) (.slice A7 l7 d7) (.slice A8 l8 d8) w5 0 w7) := lh ⟨24, 0, _, by omega, by omega, by rw [<- HM.out.1]; unfold Jov; rw [HST.out.1], by rw [<- HST.out.1]; exact Joz classes cols smooth, by omega, rfl, rfl, dA, aF⟩
  clear aF aK ho cK b17 dA o1 o2 o3 HNW HST HO HFR
  go_upto_block 2 with fail
  go_cut [18] (fun v wc => (∃ i : Int, v = .int .i64 i) /\ DrF (Jon cols) q M0 w5.heap.size g (.bool ng) (.slice A7 l7 d7) (.slice A8 l8 d8) w5 wc)
  case first =>
   go_wp2_with fail
   go_loopw [18] (fun p wr => ∃ i : Nat, p = .int .i64 (i : Int) /\ DrI (Jon cols) q l M0 w5.heap.size g (.bool ng) (.slice A7 l7 d7) (.slice A8 l8 d8) w5 i wr) (fun p _ => 1000 - (intOf p).toNat)
   case atStart => exact ⟨0, rfl, HDI.out⟩
   case round =>
    obtain ⟨i, rfl, f, nT, mm, jD, jE, dB, t8, eT, aB, aS, bI, j6⟩ := hrel
    clear HDI
    rename World => wr
    have p9 := @Jpk f mm l i
    rw [aB, HWL.out, HLN.out, dB] at p9
    by_cases cB : i + k < n
    case neg =>
     have k2 : ¬ (i : Int) + (k : Int) < (n : Int) := by omega
     have e0 := p9 fun h => cB h.1
     subst e0
     have HDF : Hid (DrF (Jon cols) q M0 w5.heap.size g (.bool ng) (.slice A7 l7 d7) (.slice A8 l8 d8) w5 wr) := lh ⟨nT, by omega, t8, aB, aS, bI, j6⟩
     clear p9 dB t8 aB aS bI j6
     go_wp2_with fail
     go_meet
     exact ⟨⟨_, rfl⟩, HDF.out⟩
    have k2 : (i : Int) + (k : Int) < (n : Int) := by omega
    by_cases cD : i < 24
    case neg =>
     have k3 : ¬ (i : Int) < 24 := by omega
     have e0 := p9 fun h => cD h.2
     subst e0
     have HDF : Hid (DrF (Jon cols) q M0 w5.heap.size g (.bool ng) (.slice A7 l7 d7) (.slice A8 l8 d8) w5 wr) := lh ⟨nT, by omega, t8, aB, aS, bI, j6⟩
     clear p9 dB t8 aB aS bI j6
     go_wp2_with fail
     go_meet
     exact ⟨⟨_, rfl⟩, HDF.out⟩
    have k3 : (i : Int) < 24 := by omega
    clear p9
    obtain ⟨f', rfl, bJ, bK, bC⟩ := Jpl (l := l) t8 (by omega) (by rw [aB, HWL.out, HLN.out]; exact ⟨cB, cD⟩) jE
    rw [aB] at bJ bK bC
    rw [HWL.out] at bC
    obtain ⟨row, bL⟩ : ∃ row, Jkx (l.drop (i + 1)) (Jon cols) = row := ⟨_, rfl⟩
    obtain ⟨⟨A1, n1, c1⟩, ⟨A2, n2, c2⟩, ⟨A3, n3, c3⟩, F, G, Hh, bk, ho, dC⟩ := bI
    simp only [SW.v] at bk
    obtain ⟨ad, g5, o5, y, rfl, jF, eC, hy, b5⟩ := H.out.spot (k := i) (by omega)
    have gO : l.getD i 0 = y := by rw [List.getD_eq_getElem?_getD, hy]; rfl
    have eU := (ho.read).seen.len
    have bM : mm.seen.length = n2 := ho.read.seen.len
    rw [gO, bM, bL] at bJ bK bC
    have eV : 1 <= n2 /\ n2 <= 3 := by have := t8.classes; omega
    obtain ⟨cn, eW⟩ : ∃ cn : Nat, y % (n2 : Int) = (cn : Int) := ⟨(y % (n2 : Int)).toNat, by have := Int.emod_nonneg y (show (n2 : Int) ≠ 0 by omega); omega⟩
    rw [eW] at bJ bK bC
    rw [Int.toNat_natCast] at bJ bK bC
    obtain ⟨m', dD⟩ : ∃ m', Jn mm row cn 1 = m' := ⟨_, rfl⟩
    have bN : m'.words = Jon cols := by rw [<- dD]; exact aB
    have dE : m'.smooth = q := by rw [<- dD]; exact aS
    rw [dD] at bJ bK bC
    obtain ⟨A9, eX⟩ : ∃ A9, Jg4 (some ad) c (i + 1) 1 = A9 := ⟨_, rfl⟩
    obtain ⟨n9, bO⟩ : ∃ n9, n - (i + 1) = n9 := ⟨_, rfl⟩
    obtain ⟨c9, gP⟩ : ∃ c9, c - (i + 1) = c9 := ⟨_, rfl⟩
    have dF : ∀ w' : World, (Instr.slice 22 (.slice (some ad) n c) (some (.int .i64 ((i : Int) + 1))) none none).run Tryz.prog w' = .ok (.slice A9 n9 c9) w' := fun w' => by
     have := Ji0 (P := Tryz.prog) (Tryz.eltZ1).under (Tryz.eltZ1).info (some ad) n c .i64 ((i : Int) + 1) (by omega) (by omega) w'
     rw [show ((i : Int) + 1).toNat = i + 1 by omega, eX, bO, gP] at this
     exact this
    have aG : Below w5.heap.size w5 wr := j6
    have gQ : Below w.heap.size w wr := HBW.out.trans ((HB5.out.trans (j6.mono HB5.out.size)).mono HBW.out.size)
    have bD : ReadsI w5 w5.heap.size A9 n9 (l.drop (i + 1)) := by
     have h1 : Reads w B 1 (Jg4 (some ad) c (i + 1) 1) (n - (i + 1)) ((l.map zv).drop ((i + 1) * 1)) := Reads.cut H.out (show i + 1 <= n by omega) eA
     rw [eX, bO, Nat.mul_one] at h1
     have h2 := rkindI.below (show ReadsI w B A9 n9 (l.drop (i + 1)) by unfold ReadsI; rw [List.map_drop]; exact h1) ((HBW.out.trans (HB5.out.mono HBW.out.size)).mono HBB.out)
     exact rkindI.more h2 (nt HBB.out (HBW.out.trans (HB5.out.mono HBW.out.size)).size)
    have dG : ∀ w', Below wr.heap.size wr w' -> ∀ A6 c6, ReadsI w' w'.heap.size A6 k row -> Calls Tryz.prog 31 #[.agg #[.bool ng, .slice A7 l7 d7, .slice A8 l8 d8, .slice A1 n1 c1, .slice A2 n2 c2, .slice A3 n3 c3], .slice A6 k c6, .int .i64 (cn : Int)] w' fun e w'' => ∃ v, e = .returned v /\ (∃ u, v = .tuple #[u, .int .i64 0] /\ Jq3 w'.heap.size (.bool ng) (.slice A7 l7 d7) (.slice A8 l8 d8) (.slice A1 n1 c1) m' u w'') /\ Below w'.heap.size w' w'' := fun w' hb A6 c6 h6 => by
     refine (Jp3 ng A7 A8 l7 d7 l8 d8 A1 A2 A3 n1 c1 n2 c2 n3 c3 w'.heap.size mm A6 k c6 row cn w' (ho.next hb).read (by rw [aS]; exact (HIQ.out.below (j6.trans (hb.mono j6.size))).more (nt j6.size hb.size)) h6 zd (Za t8.ok) (by omega)).mono ?_
     rintro e w'' ⟨v, rfl, hv, gB⟩
     rw [bJ] at hv
     exact ⟨v, rfl, Jqh hv, gB⟩
    have jG : n9 <= 9223372036854775807 := by omega
    have kA : IntKind.i64.wrap ((i : Int) + 1) = (i : Int) + 1 := IntWalk.i64_in _ (by omega)
    have HTE := lh dG
    have BK := lh bk
    have HBX := lh aG
    have HBY := lh gQ
    have HCUT := lh bD
    have HGO := lh (And.intro dB (And.intro bC (And.intro bK (And.intro bN (And.intro dE eT)))))
    have HOA := lh (And.intro ho dC)
    have HMW := lh (show mm.words = m'.words by rw [bN, aB])
    have k5 : (i : Int) < (n : Int) := by omega
    have kB : m'.seen.length = n2 /\ True := ⟨by rw [<- dD, Yt]; exact bM, trivial⟩
    clear dG bk aG gQ bD dB bC bK bN dE eT ho dC eX bO gP bJ t8 aB aS j6 eU bM dD gO
    go_upto_region 10 with fail
    go_cut [19, 20] (fun v v20 wc => DrC wr.heap.size (.bool ng) (.slice A7 l7 d7) (.slice A8 l8 d8) (.slice A1 n1 c1) m' wr v v20 wc)
    case first =>
     refine Je0 (DrR wr (.bool ng) (.slice A7 l7 d7) (.slice A8 l8 d8) (.slice A1 n1 c1) k row m' (fun j => ([some (.agg #[.bool ng, .slice A7 l7 d7, .slice A8 l8 d8, .slice A1 n1 c1, .slice A2 n2 c2, .slice A3 n3 c3]), some (.slice (some ad) n c), some (.int .i64 (i : Int)), some (.int .i64 ((i : Int) + 1)), some (.slice A9 n9 c9), some (.slice AW k cW), none, some (.slice (some ad) n c), some (.int .i64 (i : Int)), some (.pointer (some (ad.add i))), some (.int .i64 y), some (.pointer (some ⟨g, 4, none⟩)), some (.slice A2 n2 c2), some (.int .i64 (n2 : Int)), some (.int .i64 (cn : Int)), none, none, none, none, none, none, none] : List (Option Value)).getD j none)) (by kernel_rfl) (by kernel_rfl) (by kernel_rfl) ?_ ?_ [some 69, some 70, some 71, some 72, some 73, some 74, some 75, some 76, some 77, some 78, some 79, some 80, some 81, some 82, some 83, some 84, some 68, some 85, some 86, some 19, none, some 20] rfl ?_
     ·constructor <;> first | exact Jt _ | exact Fixed.start _ _ | (intro h; cases h)
     ·refine ⟨⟨⟨⟨⟨⟨⟨⟨⟨⟨⟨⟨⟨⟨⟨⟨⟨⟨⟨⟨⟨⟨trivial, ?_⟩, ?_⟩, ?_⟩, ?_⟩, ?_⟩, ?_⟩, ?_⟩, ?_⟩, ?_⟩, ?_⟩, ?_⟩, ?_⟩, ?_⟩, ?_⟩, ?_⟩, ?_⟩, ?_⟩, ?_⟩, ?_⟩, ?_⟩, ?_⟩, ?_⟩
      case refine_1 =>
       intro d val a' w' hS hF hd hp
       have e8 : a'.tmps[17]?.getD undef = .pointer (some ⟨g, 0, none⟩) := hS.arg 17 (by kernel_rfl)
       have b0' := BK.out.below hF.bel BK.out.lt
       obtain ⟨y0, y1, y2, y3, y4, y5⟩ := b0'.c6
       refine Xa (v := .agg #[.bool ng, .slice A7 l7 d7, .slice A8 l8 d8, .slice A1 n1 c1, .slice A2 n2 c2, .slice A3 n3 c3]) _ rfl rfl ?_ (show DrR _ _ _ _ _ _ _ _ _ _ _ _ from ⟨hF.bel, hF.fx.step (.inr rfl), hF.v6, hF.v15, hF.v16, hF.v17, hF.v18, hF.v19, hF.v20, hF.v21⟩)
       clear hF hS hd hp
       go_simp
      case refine_2 =>
       intro d val a' w' hS hF hd hp
       have e8 : a'.tmps[0]?.getD undef = .slice (some ad) n c := hS.arg 0 (by kernel_rfl)
       refine Xa (v := .slice (some ad) n c) _ rfl rfl ?_ (show DrR _ _ _ _ _ _ _ _ _ _ _ _ from ⟨hF.bel, hF.fx.step (.inr rfl), hF.v6, hF.v15, hF.v16, hF.v17, hF.v18, hF.v19, hF.v20, hF.v21⟩)
       clear hF hS hd hp
       go_simp
      case refine_3 =>
       intro d val a' w' hS hF hd hp
       have e8 : a'.tmps[18]?.getD undef = .int .i64 (i : Int) := hS.arg 18 (by kernel_rfl)
       refine Xa (v := .int .i64 (i : Int)) _ rfl rfl ?_ (show DrR _ _ _ _ _ _ _ _ _ _ _ _ from ⟨hF.bel, hF.fx.step (.inr rfl), hF.v6, hF.v15, hF.v16, hF.v17, hF.v18, hF.v19, hF.v20, hF.v21⟩)
       clear hF hS hd hp
       go_simp
      case refine_4 =>
       intro d val a' w' hS hF hd hp
       have e1 : a'.tmps[71]?.getD undef = .int .i64 (i : Int) := (hS.res 2 71 (hp 2 (by kernel_rfl)) rfl (by kernel_rfl)).trans (hF.fx 2 _ rfl (hp 2 (by kernel_rfl)))
       refine Xa (v := .int .i64 ((i : Int) + 1)) _ rfl rfl ?_ (show DrR _ _ _ _ _ _ _ _ _ _ _ _ from ⟨hF.bel, hF.fx.step (.inr rfl), hF.v6, hF.v15, hF.v16, hF.v17, hF.v18, hF.v19, hF.v20, hF.v21⟩)
       clear hF hS hd hp
       go_simp
      case refine_5 =>
       intro d val a' w' hS hF hd hp
       have e1 : a'.tmps[70]?.getD undef = .slice (some ad) n c := (hS.res 1 70 (hp 1 (by kernel_rfl)) rfl (by kernel_rfl)).trans (hF.fx 1 _ rfl (hp 1 (by kernel_rfl)))
       have e2 : a'.tmps[72]?.getD undef = .int .i64 ((i : Int) + 1) := (hS.res 3 72 (hp 3 (by kernel_rfl)) rfl (by kernel_rfl)).trans (hF.fx 3 _ rfl (hp 3 (by kernel_rfl)))
       refine Xa (v := .slice A9 n9 c9) _ rfl rfl ?_ (show DrR _ _ _ _ _ _ _ _ _ _ _ _ from ⟨hF.bel, hF.fx.step (.inr rfl), hF.v6, hF.v15, hF.v16, hF.v17, hF.v18, hF.v19, hF.v20, hF.v21⟩)
       clear hF hS hd hp
       go_simp
      case refine_6 =>
       intro d val a' w' hS hF hd hp
       have e8 : a'.tmps[15]?.getD undef = .slice AW k cW := hS.arg 15 (by kernel_rfl)
       refine Xa (v := .slice AW k cW) _ rfl rfl ?_ (show DrR _ _ _ _ _ _ _ _ _ _ _ _ from ⟨hF.bel, hF.fx.step (.inr rfl), hF.v6, hF.v15, hF.v16, hF.v17, hF.v18, hF.v19, hF.v20, hF.v21⟩)
       clear hF hS hd hp
       go_simp
      case refine_7 =>
       intro d val a' w' hS hF hd hp
       have e1 : a'.tmps[73]?.getD undef = .slice A9 n9 c9 := (hS.res 4 73 (hp 4 (by kernel_rfl)) rfl (by kernel_rfl)).trans (hF.fx 4 _ rfl (hp 4 (by kernel_rfl)))
       have e2 : a'.tmps[74]?.getD undef = .slice AW k cW := (hS.res 5 74 (hp 5 (by kernel_rfl)) rfl (by kernel_rfl)).trans (hF.fx 5 _ rfl (hp 5 (by kernel_rfl)))
       have aG := HBX.out.trans (hF.bel.mono HBX.out.size)
       refine Jjm (Ψ := fun v w'' => DrR wr _ _ _ _ _ _ _ _ (upI d 6) (Jf3 val 6 v) w'') _ rfl rfl (args := #[.slice A9 n9 c9, .slice AW k cW]) (w2 := w') (f := 25) ?_ ?_
       ·clear hF hS hd hp
        go_simp
       refine (Jpc A9 n9 c9 (l.drop (i + 1)) AW k cW (Jon cols) w5.heap.size w' (rkindI.below HCUT.out aG) (rkindI.below HRW.out aG) aG.size (by omega) (fun x hx => HL.out x (List.mem_of_mem_drop hx)) (by omega) (fun x hx => by have := Jou hx; omega)).mono ?_
       rintro e w2 ⟨v, rfl, eY, -, j7⟩
       have hG := hF.next j7
       rw [bL] at eY
       obtain ⟨A6, c6, gU, -⟩ := eY.form
       rw [show row.length = k by rw [<- bL, Jkw]; exact HWL.out] at gU
       subst gU
       exact ⟨_, rfl, ⟨hG.bel, hG.fx.step (.inl rfl), fun _ => ⟨A6, c6, rfl, fun _ => NRow.readsI (NRow.of eY)⟩, hG.v15, hG.v16, hG.v17, hG.v18, hG.v19, hG.v20, hG.v21⟩⟩
      case refine_8 =>
       intro d val a' w' hS hF hd hp
       have e8 : a'.tmps[0]?.getD undef = .slice (some ad) n c := hS.arg 0 (by kernel_rfl)
       refine Xa (v := .slice (some ad) n c) _ rfl rfl ?_ (show DrR _ _ _ _ _ _ _ _ _ _ _ _ from ⟨hF.bel, hF.fx.step (.inr rfl), hF.v6, hF.v15, hF.v16, hF.v17, hF.v18, hF.v19, hF.v20, hF.v21⟩)
       clear hF hS hd hp
       go_simp
      case refine_9 =>
       intro d val a' w' hS hF hd hp
       have e8 : a'.tmps[18]?.getD undef = .int .i64 (i : Int) := hS.arg 18 (by kernel_rfl)
       refine Xa (v := .int .i64 (i : Int)) _ rfl rfl ?_ (show DrR _ _ _ _ _ _ _ _ _ _ _ _ from ⟨hF.bel, hF.fx.step (.inr rfl), hF.v6, hF.v15, hF.v16, hF.v17, hF.v18, hF.v19, hF.v20, hF.v21⟩)
       clear hF hS hd hp
       go_simp
      case refine_10 =>
       intro d val a' w' hS hF hd hp
       have e1 : a'.tmps[76]?.getD undef = .slice (some ad) n c := (hS.res 7 76 (hp 7 (by kernel_rfl)) rfl (by kernel_rfl)).trans (hF.fx 7 _ rfl (hp 7 (by kernel_rfl)))
       have e2 : a'.tmps[77]?.getD undef = .int .i64 (i : Int) := (hS.res 8 77 (hp 8 (by kernel_rfl)) rfl (by kernel_rfl)).trans (hF.fx 8 _ rfl (hp 8 (by kernel_rfl)))
       refine Xa (v := .pointer (some (ad.add i))) _ rfl rfl ?_ (show DrR _ _ _ _ _ _ _ _ _ _ _ _ from ⟨hF.bel, hF.fx.step (.inr rfl), hF.v6, hF.v15, hF.v16, hF.v17, hF.v18, hF.v19, hF.v20, hF.v21⟩)
       clear hF hS hd hp
       go_simp
      case refine_11 =>
       intro d val a' w' hS hF hd hp
       have e1 : a'.tmps[78]?.getD undef = .pointer (some (ad.add i)) := (hS.res 9 78 (hp 9 (by kernel_rfl)) rfl (by kernel_rfl)).trans (hF.fx 9 _ rfl (hp 9 (by kernel_rfl)))
       rw [jF] at e1
       have l6 := b5.below (HBY.out.trans (hF.bel.mono HBY.out.size)) (Nat.lt_of_lt_of_le eC HBB.out)
       have aK := l6.1
       refine Xa (v := .int .i64 y) _ rfl rfl ?_ (show DrR _ _ _ _ _ _ _ _ _ _ _ _ from ⟨hF.bel, hF.fx.step (.inr rfl), hF.v6, hF.v15, hF.v16, hF.v17, hF.v18, hF.v19, hF.v20, hF.v21⟩)
       clear hF hS hd hp
       go_simp
      case refine_12 =>
       intro d val a' w' hS hF hd hp
       have e8 : a'.tmps[17]?.getD undef = .pointer (some ⟨g, 0, none⟩) := hS.arg 17 (by kernel_rfl)
       refine Xa (v := .pointer (some ⟨g, 4, none⟩)) _ rfl rfl ?_ (show DrR _ _ _ _ _ _ _ _ _ _ _ _ from ⟨hF.bel, hF.fx.step (.inr rfl), hF.v6, hF.v15, hF.v16, hF.v17, hF.v18, hF.v19, hF.v20, hF.v21⟩)
       clear hF hS hd hp
       go_simp
      case refine_13 =>
       intro d val a' w' hS hF hd hp
       have e1 : a'.tmps[80]?.getD undef = .pointer (some ⟨g, 4, none⟩) := (hS.res 11 80 (hp 11 (by kernel_rfl)) rfl (by kernel_rfl)).trans (hF.fx 11 _ rfl (hp 11 (by kernel_rfl)))
       have b0' := BK.out.below hF.bel BK.out.lt
       obtain ⟨y0, y1, y2, y3, y4, y5⟩ := b0'.c6
       refine Xa (v := .slice A2 n2 c2) _ rfl rfl ?_ (show DrR _ _ _ _ _ _ _ _ _ _ _ _ from ⟨hF.bel, hF.fx.step (.inr rfl), hF.v6, hF.v15, hF.v16, hF.v17, hF.v18, hF.v19, hF.v20, hF.v21⟩)
       clear hF hS hd hp
       go_simp
      case refine_14 =>
       intro d val a' w' hS hF hd hp
       have e1 : a'.tmps[81]?.getD undef = .slice A2 n2 c2 := (hS.res 12 81 (hp 12 (by kernel_rfl)) rfl (by kernel_rfl)).trans (hF.fx 12 _ rfl (hp 12 (by kernel_rfl)))
       refine Xa (v := .int .i64 (n2 : Int)) _ rfl rfl ?_ (show DrR _ _ _ _ _ _ _ _ _ _ _ _ from ⟨hF.bel, hF.fx.step (.inr rfl), hF.v6, hF.v15, hF.v16, hF.v17, hF.v18, hF.v19, hF.v20, hF.v21⟩)
       clear hF hS hd hp
       go_simp
      case refine_15 =>
       intro d val a' w' hS hF hd hp
       have e1 : a'.tmps[79]?.getD undef = .int .i64 y := (hS.res 10 79 (hp 10 (by kernel_rfl)) rfl (by kernel_rfl)).trans (hF.fx 10 _ rfl (hp 10 (by kernel_rfl)))
       have e2 : a'.tmps[82]?.getD undef = .int .i64 (n2 : Int) := (hS.res 13 82 (hp 13 (by kernel_rfl)) rfl (by kernel_rfl)).trans (hF.fx 13 _ rfl (hp 13 (by kernel_rfl)))
       refine Jjm (Ψ := fun v w'' => DrR wr _ _ _ _ _ _ _ _ (upI d 14) (Jf3 val 14 v) w'') _ rfl rfl (args := #[.int .i64 y, .int .i64 (n2 : Int)]) (w2 := w') (f := 13) ?_ ?_
       ·clear hF hS hd hp
        go_simp
       refine (HPK.out n2 eV.1 (by omega) y w' (HL.out y (List.mem_of_getElem? hy)).1 (HL.out y (List.mem_of_getElem? hy)).2).mono ?_
       rintro e w2 ⟨rfl, rfl⟩
       rw [eW]
       exact ⟨_, rfl, ⟨hF.bel, hF.fx.step (.inr rfl), hF.v6, hF.v15, hF.v16, hF.v17, hF.v18, hF.v19, hF.v20, hF.v21⟩⟩
      case refine_16 =>
       intro d val a' w' hS hF hd hp
       have e1 : a'.tmps[69]?.getD undef = .agg #[.bool ng, .slice A7 l7 d7, .slice A8 l8 d8, .slice A1 n1 c1, .slice A2 n2 c2, .slice A3 n3 c3] := (hS.res 0 69 (hp 0 (by kernel_rfl)) rfl (by kernel_rfl)).trans (hF.fx 0 _ rfl (hp 0 (by kernel_rfl)))
       have e3 : a'.tmps[83]?.getD undef = .int .i64 (cn : Int) := (hS.res 14 83 (hp 14 (by kernel_rfl)) rfl (by kernel_rfl)).trans (hF.fx 14 _ rfl (hp 14 (by kernel_rfl)))
       have e2 := hS.res 6 75 (hp 6 (by kernel_rfl)) rfl (by kernel_rfl)
       obtain ⟨A6, c6, e6, h6⟩ := hF.v6 (hp 6 (by kernel_rfl))
       rw [e6] at e2
       have h6 := h6 hd
       refine Jjm (Ψ := fun v w'' => DrR wr _ _ _ _ _ _ _ _ (upI d 15) (Jf3 val 15 v) w'') _ rfl rfl (args := #[.agg #[.bool ng, .slice A7 l7 d7, .slice A8 l8 d8, .slice A1 n1 c1, .slice A2 n2 c2, .slice A3 n3 c3], .slice A6 k c6, .int .i64 (cn : Int)]) (w2 := w') (f := 31) ?_ ?_
       ·clear hF hS hd hp
        go_simp
       refine (HTE.out w' hF.bel A6 c6 h6).mono ?_
       rintro e w2 ⟨v, rfl, ⟨u, rfl, S, C, G', H', rfl, hs, y8, aC, bP⟩, j7⟩
       have hG := hF.next j7
       have dH := hF.bel.size
       refine ⟨_, rfl, ⟨hG.bel, hG.fx.step (.inl rfl), fun h => (hG.v6 h).imp fun A h => h.imp fun c h => ⟨h.1, fun h' => Bool.noConfusion (show true = false from h')⟩, fun _ => ⟨_, _, _, _, _, _, rfl, by simp [Value.oneCell', SW.v], S, C, G', H', rfl, hs, y8, fun x hx => ⟨nt dH (aC x hx).1, (aC x hx).2⟩, fun x hx => nt dH (bP x hx), fun x hx => ?_⟩, fun h => absurd ((hF.v16 h).1) (by rw [hd]; decide), fun h => absurd ((hF.v17 h).1) (by rw [hd]; decide), fun h => absurd ((hF.v18 h).1) (by rw [hd]; decide), hG.v19, hG.v20, hG.v21⟩⟩
       obtain ⟨g', z0, z1, z2, z3, z4, z5, e11, jH, cH, -⟩ := hF.v19 hx.1
       have e12 := Jps (e11.symm.trans hx.2)
       subst e12
       have aV := cH.lt
       exact ⟨fun e => by have := (aC _ e).1; omega, fun e => by have := bP _ e; omega⟩
      case refine_17 =>
       intro d val a' w' hS hF hd hp
       have e1 := hS.res 15 84 (hp 15 (by kernel_rfl)) rfl (by kernel_rfl)
       have h6 := hp 15 (by kernel_rfl)
       refine Xa (v := val 15) _ rfl rfl ?_ (show DrR _ _ _ _ _ _ _ _ _ _ _ _ from ⟨hF.bel, hF.fx.step (.inl rfl), hF.v6, hF.v15, fun _ => ⟨h6, rfl⟩, hF.v17, hF.v18, hF.v19, hF.v20, hF.v21⟩)
       clear hF hS hd hp
       go_simp
      case refine_18 =>
       intro d val a' w' hS hF hd hp
       have e1 := hS.res 16 68 (hp 16 (by kernel_rfl)) rfl (by kernel_rfl)
       obtain ⟨h6, h7⟩ := hF.v16 (hp 16 (by kernel_rfl))
       obtain ⟨q0, q1', q2', q3, q4, q5, e6, -⟩ := hF.v15 h6
       rw [h7, e6] at e1
       refine Xa (v := .agg #[q0, q1', q2', q3, q4, q5]) _ rfl rfl ?_ (show DrR _ _ _ _ _ _ _ _ _ _ _ _ from ⟨hF.bel, hF.fx.step (.inl rfl), hF.v6, hF.v15, hF.v16, fun _ => ⟨h6, fun u y (e : val 15 = _) => by rw [e6] at e; injection e with e; exact (Jq6 e).1⟩, hF.v18, fun h => (hF.v19 h).imp fun g h => h.imp fun y0 h => h.imp fun y1 h => h.imp fun y2 h => h.imp fun y3 h => h.imp fun y4 h => h.imp fun y5 h => ⟨h.1, h.2.1, h.2.2.1, fun h' => absurd (h.2.2.2 h').1 (by rw [hd]; decide)⟩, hF.v20, hF.v21⟩)
       clear hF hS hd hp
       go_simp
      case refine_19 =>
       intro d val a' w' hS hF hd hp
       have e1 := hS.res 16 68 (hp 16 (by kernel_rfl)) rfl (by kernel_rfl)
       obtain ⟨h6, h7⟩ := hF.v16 (hp 16 (by kernel_rfl))
       obtain ⟨q0, q1', q2', q3, q4, q5, e6, -⟩ := hF.v15 h6
       rw [h7, e6] at e1
       refine Xa (v := .int .i64 0) _ rfl rfl ?_ (show DrR _ _ _ _ _ _ _ _ _ _ _ _ from ⟨hF.bel, hF.fx.step (.inl rfl), hF.v6, hF.v15, hF.v16, hF.v17, fun _ => ⟨h6, fun u y (e : val 15 = _) => by rw [e6] at e; injection e with e; exact (Jq6 e).2⟩, hF.v19, hF.v20, fun h => absurd ((hF.v21 h).1) (by rw [hd]; decide)⟩)
       clear hF hS hd hp
       go_simp
      case refine_20 =>
       intro d val a' w' hS hF hd hp
       have hG := hF.next (Jb w' (.cells #[.bool false, .slice none 0 0, .slice none 0 0, .slice none 0 0, .slice none 0 0, .slice none 0 0] 31))
       have dH := hF.bel.size
       refine Xa (v := .pointer (some ⟨w'.heap.size, 0, none⟩)) (w2 := w'.alloc (.cells #[.bool false, .slice none 0 0, .slice none 0 0, .slice none 0 0, .slice none 0 0, .slice none 0 0] 31)) _ rfl rfl ?_ (show DrR _ _ _ _ _ _ _ _ _ _ _ _ from ⟨hG.bel, hG.fx.step (.inl rfl), hG.v6, fun h => ?_, hG.v16, hG.v17, hG.v18, fun _ => ⟨_, _, _, _, _, _, _, rfl, dH, Blk.new _ _ _, fun h => absurd (hF.v20 h) (by rw [hd]; decide)⟩, fun _ => rfl, hG.v21⟩)
       ·clear hG hF hS hd hp
        go_simp
       obtain ⟨q0, q1', q2', q3, q4, q5, e6, aW, eZ⟩ := hF.v15 h
       exact ⟨q0, q1', q2', q3, q4, q5, e6, aW, eZ.next (Jb _ _) fun g hg => .inr (by rw [<- Jps (show Value.pointer (some ⟨w'.heap.size, 0, none⟩) = .pointer (some ⟨g, 0, none⟩) from hg.2)]; exact Nat.le_refl _)⟩
      case refine_21 =>
       intro d val a' w' hS hF hd hp
       obtain ⟨h6, h8⟩ := hF.v17 (hp 17 (by kernel_rfl))
       have bG := hp 19 (by kernel_rfl)
       obtain ⟨g', z0, z1, z2, z3, z4, z5, e11, aC, cH, -⟩ := hF.v19 bG
       obtain ⟨q0, q1', q2', q3, q4, q5, e6, aW, eZ⟩ := hF.v15 h6
       have e8 := h8 _ _ e6
       exact Jde _ rfl rfl _ _ _ rfl rfl g' #[q0, q1', q2', q3, q4, q5] _ ((hS.got 19 19 bG rfl (Nat.le_of_ble_eq_true (by kernel_rfl))).trans e11) ((hS.got 17 85 (hp 17 (by kernel_rfl)) rfl (Nat.le_of_ble_eq_true (by kernel_rfl))).trans e8) _ cH (by kernel_rfl) rfl aW fun w2 j7 gV => show DrR _ _ _ _ _ _ _ _ _ _ _ _ from ⟨hF.bel.trans (gV.below hF.bel.size aC), hF.fx.step (.inl rfl), fun h => (hF.v6 h).imp fun A h => h.imp fun c h => ⟨h.1, fun h' => absurd (show d 15 = false from h') (by rw [h6]; decide)⟩, fun h => ⟨q0, q1', q2', q3, q4, q5, e6, aW, eZ.exc gV ⟨bG, e11⟩⟩, hF.v16, hF.v17, hF.v18, fun _ => ⟨g', _, _, _, _, _, _, e11, aC, j7, fun _ => ⟨hp 17 (by kernel_rfl), e8⟩⟩, fun _ => bG, hF.v21⟩
      case refine_22 =>
       intro d val a' w' hS hF hd hp
       have e1 := hS.res 18 86 (hp 18 (by kernel_rfl)) rfl (by kernel_rfl)
       have h9 := hp 18 (by kernel_rfl)
       refine Xa (v := val 18) _ rfl rfl ?_ (show DrR _ _ _ _ _ _ _ _ _ _ _ _ from ⟨hF.bel, hF.fx.step (.inl rfl), hF.v6, hF.v15, hF.v16, hF.v17, hF.v18, hF.v19, hF.v20, fun _ => ⟨h9, rfl⟩⟩)
       clear hF hS hd hp
       go_simp
     intro d val w' hF hd
     simp only [Exit.then, Jd7, Act.put, List.setIfInBounds_toArray, List.set_cons_succ, List.set_cons_zero]
     refine ‹∀ a' w', Met _ a' w' -> _› _ _ ?_
     go_meet
     exact hF.end_ hd
    case rest =>
     obtain ⟨g', S, C, G', H', rfl, rfl, bk', hs, y8, aC, bP, hb⟩ := hcut
     rename World => wc
     have jI := BK.out.lt
     have bkc := BK.out.below hb jI
     have hr := Js 3 zv
     have fA := hr.loc HOA.out.1.words hb.size fun x hx => hb.block x (hr.lt HOA.out.1.words hx)
     rw [HMW.out] at fA
     have fB := fun x (hx : F x) => hr.lt HOA.out.1.words hx
     have HX := lh (And.intro (show ∀ x, F x -> x ≠ g from fun x hx e => HOA.out.2.1 (by rw [<- e]; exact hx)) (And.intro (show ∀ x, G' x -> x ≠ g from fun x hx e => by have := (aC x hx).1; omega) (show ∀ x, H' x -> x ≠ g from fun x hx e => by have := bP x hx; omega)))
     have gW : OwB 3 22 65 w5.heap.size wc ⟨A1, n1, c1⟩ S C F G' H' m' := ⟨fA, hs, y8, HOA.out.1.from1, fun x hx => nt HBX.out.size (aC x hx).1, fun x hx => nt HBX.out.size (bP x hx), fun x hx e => by have := fB x hx; have := (aC x e).1; omega, fun x hx e => by have := fB x hx; have := bP x e; omega, fun x hx => (aC x hx).2⟩
     have HO' := lh gW
     have HBC := lh (HBX.out.trans (hb.mono HBX.out.size))
     have BKC := lh bkc
     obtain ⟨x0, x1, x2, x3, x4, x5⟩ := bk'.c6
     clear gW fA fB hs y8 aC bP hb bkc bk' hr HTE HPK dF
     go_wp2_with (refine Jr rfl _ (.tmp 17) (.tmp 89) rfl g #[.bool ng, .slice A7 l7 d7, .slice A8 l8 d8, .slice A1 n1 c1, .slice S.A S.n S.c, .slice C.A C.n C.c] _ rfl rfl _ BKC.out (by kernel_rfl) rfl (by simp [Value.oneCell']) ?_; intro w8 aH gY; have HX8 := lh gY; have HB8 := lh aH; clear gY aH x0 x1 x2 x3 x4 x5)
     have kC : (i : Int) + (k : Int) + 1 = ((i + k + 1 : Nat) : Int) := by omega
     have dI : DrI (Jon cols) q l M0 w5.heap.size g (.bool ng) (.slice A7 l7 d7) (.slice A8 l8 d8) w5 (i + k + 1) w8 := ⟨f', nT + 1, m', by omega, by omega, HGO.out.2.1.symm.trans HGO.out.1, HGO.out.2.2.1, by have := HGO.out.2.2.2.2.2; omega, HGO.out.2.2.2.1, HGO.out.2.2.2.2.1, ⟨⟨A1, n1, c1⟩, S, C, F, G', H', HB8.out, HO'.out.exc HX8.out (fun e => HX.out.1 g e rfl) (fun e => HX.out.2.1 g e rfl) (fun e => HX.out.2.2 g e rfl), fun e => HX.out.1 g e rfl, fun e => HX.out.2.1 g e rfl, fun e => HX.out.2.2 g e rfl⟩, HBC.out.trans (HX8.out.below HBC.out.size cZ)⟩
     have HFIN := lh dI
     clear dI
     go_roundw
     case rel => exact ⟨i + k + 1, by go_num, HFIN.out⟩
     case measure => simp [intOf]; omega
  case rest =>
   obtain ⟨⟨iv, rfl⟩, nT, eT, t8, aB, aS, bI, l6⟩ := hcut
   rename World => wc
   obtain ⟨⟨A1, n1, c1⟩, ⟨A2, n2, c2⟩, ⟨A3, n3, c3⟩, F, G, Hh, bk, ho, dC⟩ := bI
   simp only [SW.v] at bk
   have jJ : n1 = k := by have h1 : M0.words.length = n1 := ho.read.words.len; rw [<- h1, aB]; exact HWL.out
   subst jJ
   have bM : M0.seen.length = n2 := ho.read.seen.len
   have eV : 1 <= n2 /\ n2 <= 3 := by have := t8.classes; omega
   obtain ⟨kk, gZ⟩ : ∃ kk : Nat, at_ % (n2 : Int) = (kk : Int) := ⟨(at_ % (n2 : Int)).toNat, by have := Int.emod_nonneg at_ (show (n2 : Int) ≠ 0 by omega); omega⟩
   have dJ : kk < n2 := by have := Int.emod_lt_of_pos at_ (show (0 : Int) < n2 by omega); omega
   obtain ⟨aq, hJ⟩ : ∃ aq, at_.tdiv 3 = aq := ⟨_, rfl⟩
   have dK := (Jph HI.out.2.2.2.2.1).1
   rw [hJ] at dK
   have kD := Jfv (x := aq) (by omega) (by omega)
   obtain ⟨cc, iA⟩ : ∃ cc : Nat, aq % (n1 : Int) = (cc : Int) := ⟨(aq % (n1 : Int)).toNat, by have := Int.emod_nonneg aq (show (n1 : Int) ≠ 0 by omega); omega⟩
   have jK : cc < n1 := by have := Int.emod_lt_of_pos aq (show (0 : Int) < n1 by omega); omega
   obtain ⟨tb, dL⟩ : ∃ tb, by_ % 9 = tb := ⟨_, rfl⟩
   have jL : 0 <= tb /\ tb < 9 := by omega
   obtain ⟨wy, iB⟩ : ∃ wy, way % 14 = wy := ⟨_, rfl⟩
   have iC : 0 <= wy /\ wy < 14 := by omega
   have HP3 : Hid (∀ w', Calls Tryz.prog 13 #[.int .i64 at_, .int .i64 (n2 : Int)] w' fun e w'' => e = .returned (.int .i64 (kk : Int)) /\ w' = w'') := lh fun w' => by
    have h1 := HPK.out n2 (by omega) (by omega) at_ w' HI.out.2.2.2.2.1.1 HI.out.2.2.2.2.1.2
    rw [gZ] at h1
    exact h1
   have HP4 : Hid (∀ w', Calls Tryz.prog 13 #[.int .i64 aq, .int .i64 (n1 : Int)] w' fun e w'' => e = .returned (.int .i64 (cc : Int)) /\ w' = w'') := lh fun w' => by
    have h1 := HPK.out n1 (by omega) (by omega) aq w' (by omega) (by omega)
    rw [iA] at h1
    exact h1
   have HP5 : Hid (∀ w', Calls Tryz.prog 13 #[.int .i64 by_, .int .i64 9] w' fun e w'' => e = .returned (.int .i64 tb) /\ w' = w'') := lh fun w' => by
    have h1 := HPK.out 9 (by decide) (by decide) by_ w' HI.out.2.2.2.2.2.1 HI.out.2.2.2.2.2.2
    rw [show by_ % ((9 : Nat) : Int) = tb by omega] at h1
    exact h1
   have HP6 : Hid (∀ w', Calls Tryz.prog 13 #[.int .i64 way, .int .i64 14] w' fun e w'' => e = .returned (.int .i64 wy) /\ w' = w'') := lh fun w' => by
    have h1 := HPK.out 14 (by decide) (by decide) way w' HI.out.2.2.2.1.1 HI.out.2.2.2.1.2
    rw [show way % ((14 : Nat) : Int) = wy by omega] at h1
    exact h1
   obtain ⟨bb, eK⟩ : ∃ bb, tb - 2 = bb := ⟨_, rfl⟩
   have jM : -2 <= bb /\ bb <= 6 := by omega
   have kE := Jfv (x := bb) (by omega) (by omega)
   have aE : Hid (Jo6 M0 way at_ by_ = M1 /\ (at_ % (M0.seen.length : Int)).toNat = kk /\ ((at_.tdiv 3) % (M0.words.length : Int)).toNat = cc /\ by_ % 9 - 2 = bb /\ way % 14 = wy) := lh ⟨HM.out.2, by rw [bM]; omega, by rw [aB, HWL.out, hJ]; omega, by omega, iB⟩
   have BK := lh bk
   have HO := lh (And.intro ho dC)
   have HDR := lh (And.intro t8 (And.intro aB (And.intro aS bM)))
   have HB6 := lh l6
   obtain ⟨x0, x1, x2, x3, x4, x5⟩ := bk.c6
   clear gZ iA dL iB t8 aB aS bM ho dC l6 bk HPK dK
   go_wp2_with fail
   refine (HP3.out _).mono ?_
   rintro e w1 ⟨rfl, rfl⟩
   go_wp2_with fail
   refine (HP4.out _).mono ?_
   rintro e w1 ⟨rfl, rfl⟩
   go_wp2_with fail
   refine (HP5.out _).mono ?_
   rintro e w1 ⟨rfl, rfl⟩
   go_wp2_with fail
   refine (HP6.out _).mono ?_
   rintro e w1 ⟨rfl, rfl⟩
   go_upto_block 4 with fail
   go_cut [17] (fun v wd => v = .pointer (some ⟨g, 0, none⟩) /\ DrQ g w.heap.size M1 wd /\ Below W.heap.size W wd)
   case first =>
    have bY : Jpi M0 wy kk cc bb = M1 := by rw [<- aE.out.1, Jpo, aE.out.2.1, aE.out.2.2.1, aE.out.2.2.2.1, aE.out.2.2.2.2]
    have HM1 := lh bY
    have iD : Below W.heap.size W wc := HB5.out.trans (HB6.out.mono HB5.out.size)
    have HBV := lh iD
    clear bY iD
    have bQ : w.heap.size < w5.heap.size := Nat.lt_of_lt_of_le B0.out.lt HB5.out.size
    have HZQ : Hid (∀ wd, Below w5.heap.size w5 wd -> ∀ w', Exc w.heap.size wd w' -> IsQ w' w'.heap.size (.agg #[.bool ng, .slice A7 l7 d7, .slice A8 l8 d8]) M0.smooth) := lh fun wd hd w' hx => by
     rw [HDR.out.2.2.1]
     exact ((HIQ.out.below hd).more hd.size).excB (B0.out.below (HB5.out.trans (hd.mono HB5.out.size)) B0.out.lt) Jq1 hx
    have HWS := lh (show ∀ x, w5.heap.size <= x -> W.heap.size <= x from fun x hx => nt HB5.out.size hx)
    by_cases dM : wy = 0
    ·subst dM
     have e0 := HM1.out
     unfold Jpi at e0
     rw [if_pos rfl] at e0
     have HE := lh e0
     clear e0 aE HM1
     obtain ⟨gS, rfl⟩ := HO.out.1.seen.blk (by rw [HDR.out.2.2.2]; omega)
     obtain ⟨x, hx⟩ : ∃ x, M0.seen[kk]? = some x := ⟨_, List.getElem?_eq_getElem (by rw [HDR.out.2.2.2]; omega)⟩
     have aL := HO.out.1.seen.cell hx
     unfold zv at aL
     have fC := HO.out.1.seen.frozen kk
     have dN : w5.heap.size <= gS := HO.out.1.from2 gS ((HO.out.1.seen.2 gS).2 rfl)
     have dO : g ≠ gS := fun e => HO.out.2.2.1 (by rw [e]; exact (HO.out.1.seen.2 gS).2 rfl)
     have k1 : (kk : Int) < (n2 : Int) := by omega
     have HS := lh (And.intro dN dO)
     clear hx dN dO
     go_wp2_with fail
     go_meet
     rw [<- HE.out]
     exact ⟨rfl, DrQ.of (W := ⟨A1, n1, c1⟩) (S := ⟨some ⟨gS, 0, none⟩, n2, c2⟩) (C := ⟨A3, n3, c3⟩) (BK.out.far HS.out.2 _) (HZQ.out _ (HB6.out.setCell HS.out.1 _)) ((HO.out.1.setSeen kk bb).rdx bQ), HBV.out.setCell (HWS.out _ HS.out.1) _⟩
    by_cases iE : wy = 6
    ·subst iE
     have e0 := HM1.out
     unfold Jpi at e0
     rw [if_neg (by decide), if_neg (by decide), if_neg (by decide), if_neg (by decide), if_neg (by decide), if_neg (by decide), if_pos rfl] at e0
     have HE := lh e0
     clear e0 aE HM1
     obtain ⟨gS, rfl⟩ := HO.out.1.seen.blk (by rw [HDR.out.2.2.2]; omega)
     obtain ⟨x, hx⟩ : ∃ x, M0.seen[kk]? = some x := ⟨_, List.getElem?_eq_getElem (by rw [HDR.out.2.2.2]; omega)⟩
     have aL := HO.out.1.seen.cell hx
     unfold zv at aL
     have fC := HO.out.1.seen.frozen kk
     have dN : w5.heap.size <= gS := HO.out.1.from2 gS ((HO.out.1.seen.2 gS).2 rfl)
     have dO : g ≠ gS := fun e => HO.out.2.2.1 (by rw [e]; exact (HO.out.1.seen.2 gS).2 rfl)
     have k1 : (kk : Int) < (n2 : Int) := by omega
     have HS := lh (And.intro dN dO)
     clear hx dN dO
     go_wp2_with fail
     go_meet
     rw [<- HE.out]
     exact ⟨rfl, DrQ.of (W := ⟨A1, n1, c1⟩) (S := ⟨some ⟨gS, 0, none⟩, n2, c2⟩) (C := ⟨A3, n3, c3⟩) (BK.out.far HS.out.2 _) (HZQ.out _ (HB6.out.setCell HS.out.1 _)) ((HO.out.1.setSeen kk 1073741824).rdx bQ), HBV.out.setCell (HWS.out _ HS.out.1) _⟩
    by_cases cR : wy = 1
    ·subst cR
     have e0 := HM1.out
     unfold Jpi at e0
     rw [if_neg (by decide), if_pos rfl] at e0
     have HE := lh e0
     clear e0 aE HM1
     have aD := Qy HDR.out.1.ok
     have bX : kk < M0.counts.length := by rw [aD.tabs, HDR.out.2.2.2]; exact dJ
     have fD : M0.counts.length = n3 := ReadsS.len HO.out.1.read.counts
     obtain ⟨gT, rfl⟩ := HO.out.1.counts.addr (by omega)
     obtain ⟨t, ht⟩ : ∃ t, M0.counts[kk]? = some t := ⟨_, List.getElem?_eq_getElem bX⟩
     have aJ : M0.words.length = n1 := HO.out.1.read.words.len
     have bZ : t.length = n1 := by rw [(aD.fits t (List.mem_of_getElem? ht)).1, aJ]
     obtain ⟨b, hb⟩ : ∃ b, t[cc]? = some b := ⟨_, List.getElem?_eq_getElem (by omega)⟩
     have jN := (aD.nums t (List.mem_of_getElem? ht) b (List.mem_of_getElem? hb)).2.2.2.1
     obtain ⟨y, hy⟩ : ∃ y, b[0]? = some y := ⟨_, List.getElem?_eq_getElem (by omega)⟩
     obtain ⟨u, q1, x, q2, d1, d2, d3, d4⟩ := HO.out.1.deep ht hb hy
     obtain ⟨H', r1, r2, r3⟩ := HO.out.1.setCount ht hb d1 d2 0 bb
     unfold zv at d3
     rw [bZ] at d1
     have iF := HO.out.1.from3 x r3
     have dP : g ≠ x := fun e => HO.out.2.2.2 (by rw [e]; exact r3)
     have k1 : (kk : Int) < (n3 : Int) := by omega
     have k2 : (cc : Int) < (n1 : Int) := by omega
     have k3 : (0 : Int) < (b.length : Int) := by omega
     have e9 : ({ M0 with counts := M0.counts.set kk (t.set cc (b.set 0 bb)) } : BM) = M1 := by rw [<- HE.out, List.getD_eq_getElem?_getD, ht, Option.getD_some, List.getD_eq_getElem?_getD, hb, Option.getD_some]
     have HS := lh (And.intro iF (And.intro dP (And.intro r1 e9)))
     clear iF dP r1 r2 r3 e9 aD ht hb hy fD aJ bZ jN bX
     go_wp2_with fail
     go_meet
     rw [<- HS.out.2.2.2]
     exact ⟨rfl, DrQ.of (W := ⟨A1, n1, c1⟩) (S := ⟨A2, n2, c2⟩) (C := ⟨some ⟨gT, 0, none⟩, n3, c3⟩) (BK.out.far HS.out.2.1 _) (HZQ.out _ (HB6.out.setCell HS.out.1 _)) (HS.out.2.2.1.rdx bQ), HBV.out.setCell (HWS.out _ HS.out.1) _⟩
    by_cases iG : wy = 5
    ·subst iG
     have e0 := HM1.out
     unfold Jpi at e0
     rw [if_neg (by decide), if_neg (by decide), if_neg (by decide), if_neg (by decide), if_neg (by decide), if_pos rfl] at e0
     have HE := lh e0
     clear e0 aE HM1
     have jO := HDR.out.2.2.2
     have iH : n2 <= c2 := by
      obtain ⟨A0, c0, e, h1, -⟩ := Own.form HO.out.1.seen.1
      injection (show Value.slice A2 n2 c2 = _ from e) with e1 e2 e3
      omega
     obtain ⟨Ad, bR⟩ : ∃ Ad, Jg4 A2 c2 1 1 = Ad := ⟨_, rfl⟩
     have hcut : ∀ w' : World, (Instr.slice 22 (.slice A2 n2 c2) (some (.int .i64 1)) none none).run Tryz.prog w' = .ok (.slice Ad (n2 - 1) (c2 - 1)) w' := fun w' => by
      have := Ji0 (P := Tryz.prog) (Tryz.eltZ1).under (Tryz.eltZ1).info A2 n2 c2 .i64 1 (by omega) (by omega) w'
      rw [show (1 : Int).toNat = 1 from rfl, bR] at this
      exact this
     have fC := BK.out.frozen 4
     have o0 := (Exc.refl g wc).set_ 4 (.slice Ad (n2 - 1) (c2 - 1))
     have iI : W.heap.size <= g := nt HB5.out.size cZ
     have HS := lh (And.intro iH (And.intro bR (And.intro o0 iI)))
     clear jO iH bR o0 iI
     go_wp2_with fail
     go_meet
     rw [<- HE.out]
     have eB := HO.out.1.exc HS.out.2.2.1 HO.out.2.1 HO.out.2.2.1 HO.out.2.2.2
     have bk2 : Blk (wc.setCell ⟨g, 4, none⟩ (.slice Ad (n2 - 1) (c2 - 1))) g 31 #[.bool ng, .slice A7 l7 d7, .slice A8 l8 d8, .slice A1 n1 c1, .slice Ad (n2 - 1) (c2 - 1), .slice A3 n3 c3] := by simpa using BK.out.set_ 4 (.slice Ad (n2 - 1) (c2 - 1))
     have cP := RdX.seen1 (eB.rdx bQ) eV.1 HS.out.1
     rw [HS.out.2.1] at cP
     exact ⟨rfl, DrQ.of (W := ⟨A1, n1, c1⟩) (S := ⟨Ad, n2 - 1, c2 - 1⟩) (C := ⟨A3, n3, c3⟩) bk2 (HZQ.out _ (HB6.out.setCell cZ _)) cP, HBV.out.setCell HS.out.2.2.2 _⟩
    by_cases cT : wy = 2
    ·subst cT
     have e0 := HM1.out
     unfold Jpi at e0
     rw [if_neg (by decide), if_neg (by decide), if_pos rfl] at e0
     have HE := lh e0
     clear e0 aE HM1
     have bH := fun w' => Jus bb w' (by omega) (by omega)
     have HOF := lh bH
     clear bH
     go_wp2_with fail
     refine (HOF.out _).mono ?_
     rintro e w9 ⟨v, rfl, bS, s9⟩
     obtain ⟨ng9, B7, m7, f7, B8, m8, f8, rfl⟩ := bS.shape
     have bk9 := BK.out.below s9 BK.out.lt
     clear x0 x1 x2 x3 x4 x5
     obtain ⟨x0, x1, x2, x3, x4, x5⟩ := bk9.c6
     have z0 := bk9.frozen 0
     have z1 := bk9.frozen 1
     have z2 := bk9.frozen 2
     have H9 := lh (And.intro bk9 (And.intro bS s9))
     clear bk9 bS s9 HOF
     go_wp2_with fail
     go_meet
     rw [<- HE.out]
     have o0 : Exc g w9 (((w9.setCell ⟨g, 0, none⟩ (.bool ng9)).setCell ⟨g, 1, none⟩ (.slice B7 m7 f7)).setCell ⟨g, 2, none⟩ (.slice B8 m8 f8)) := (((Exc.refl g w9).set_ 0 _).set_ 1 _).set_ 2 _
     have bk2 : Blk (((w9.setCell ⟨g, 0, none⟩ (.bool ng9)).setCell ⟨g, 1, none⟩ (.slice B7 m7 f7)).setCell ⟨g, 2, none⟩ (.slice B8 m8 f8)) g 31 #[.bool ng9, .slice B7 m7 f7, .slice B8 m8 f8, .slice A1 n1 c1, .slice A2 n2 c2, .slice A3 n3 c3] := by simpa using ((H9.out.1.set_ 0 (.bool ng9)).set_ 1 (.slice B7 m7 f7)).set_ 2 (.slice B8 m8 f8)
     have aM := (HBV.out.trans (H9.out.2.2.mono HBV.out.size)).trans (o0.below (HBV.out.trans (H9.out.2.2.mono HBV.out.size)).size (nt HB5.out.size cZ))
     have fE := ((HO.out.1.next H9.out.2.2).exc o0 HO.out.2.1 HO.out.2.2.1 HO.out.2.2.2).rdx bQ
     exact ⟨rfl, DrQ.of (W := ⟨A1, n1, c1⟩) (S := ⟨A2, n2, c2⟩) (C := ⟨A3, n3, c3⟩) bk2 (fun w' hx => (H9.out.2.1.excB H9.out.1 Jq1 o0).excB (B0.out.below aM B0.out.lt) Jq1 hx) (fun w' hx => ⟨(fE w' hx).words, (fE w' hx).seen, (fE w' hx).counts⟩), aM⟩
    by_cases dQ : wy = 3
    ·subst dQ
     have e0 := HM1.out
     unfold Jpi at e0
     rw [if_neg (by decide), if_neg (by decide), if_neg (by decide), if_pos rfl] at e0
     have HE := lh e0
     clear e0 aE HM1
     have aJ : M0.words.length = n1 := HO.out.1.read.words.len
     have HRC := lh (Reads.alloc HO.out.1.read.words zd (.cells #[] 3))
     have HE0 := lh (Jpb wc)
     have HWN := lh aJ
     have bkA := BK.out.alloc (.cells #[] 3)
     clear x0 x1 x2 x3 x4 x5
     obtain ⟨x0, x1, x2, x3, x4, x5⟩ := bkA.c6
     clear bkA aJ
     go_upto_region 25 with (at_builtin; refine Jnx Tryz.eltZ1 rfl (.tmp 131) (.tmp 133) rfl (wc.alloc (.cells #[] 3)) _ [] wc.heap.size A1 n1 c1 M0.words rfl HE0.out rfl HRC.out (fun _ => rfl) (by unfold maxLen; simp; omega) (by simp; omega) ?_; intro v' w9 iJ aC; obtain ⟨A6, c6, rfl, fF, aI, s9⟩ := Jpf iJ aC; rw [HWN.out] at fF aI ⊢; have bk9 := BK.out.below s9 BK.out.lt; have jP := bk9.frozen 3; have jQ := bk9.cell 3; have H9 := lh (And.intro bk9 (And.intro fF (And.intro aI s9))); clear iJ aC fF aI s9 bk9 x0 x1 x2 x3 x4 x5)
     obtain ⟨g9, rfl⟩ := Own.addr H9.out.2.1 (by rw [HWN.out]; omega)
     have iK : wc.heap.size <= g9 := H9.out.2.2.1 g9 rfl
     have bO : g ≠ g9 := by have := BK.out.lt; omega
     have o0 := (Exc.refl g w9).set_ 3 (.slice (some ⟨g9, 0, none⟩) n1 c6)
     have aX := (HO.out.1.newWords (W' := ⟨some ⟨g9, 0, none⟩, n1, c6⟩) H9.out.2.2.2 HB6.out.size H9.out.2.1 H9.out.2.2.1).exc o0 (fun e => bO (Option.some.inj e).symm) HO.out.2.2.1 HO.out.2.2.2
     have bk10 : Blk (w9.setCell ⟨g, 3, none⟩ (.slice (some ⟨g9, 0, none⟩) n1 c6)) g 31 #[.bool ng, .slice A7 l7 d7, .slice A8 l8 d8, .slice (some ⟨g9, 0, none⟩) n1 c6, .slice A2 n2 c2, .slice A3 n3 c3] := by simpa using H9.out.1.set_ 3 (.slice (some ⟨g9, 0, none⟩) n1 c6)
     have dR := (HB6.out.trans (H9.out.2.2.2.mono HB6.out.size)).trans (o0.below (HB6.out.trans (H9.out.2.2.2.mono HB6.out.size)).size cZ)
     have eC : w5.heap.size <= g9 := nt HB6.out.size iK
     clear jP jQ o0 H9
     generalize w9.setCell ⟨g, 3, none⟩ (.slice (some ⟨g9, 0, none⟩) n1 c6) = w10 at *
     obtain ⟨x, hx⟩ : ∃ x, M0.words[cc]? = some x := ⟨_, List.getElem?_eq_getElem (by rw [HWN.out]; omega)⟩
     have aL := aX.words.cell hx
     unfold zv at aL
     have fC := aX.words.frozen cc
     obtain ⟨x0, x1, x2, x3, x4, x5⟩ := bk10.c6
     have k1 : (cc : Int) < (n1 : Int) := by omega
     have H10 := lh (And.intro bk10 (And.intro aX (And.intro dR (And.intro bO eC))))
     clear bk10 aX dR bO eC iK hx HRC HE0
     go_wp2_with fail
     go_meet
     rw [<- HE.out]
     have aM := (HB5.out.trans (H10.out.2.2.1.mono HB5.out.size))
     exact ⟨rfl, DrQ.of (W := ⟨some ⟨g9, 0, none⟩, n1, c6⟩) (S := ⟨A2, n2, c2⟩) (C := ⟨A3, n3, c3⟩) (H10.out.1.far H10.out.2.2.2.1 _) (HZQ.out _ (H10.out.2.2.1.setCell H10.out.2.2.2.2 _)) ((H10.out.2.1.setWordsD cc bb).rdx bQ), aM.setCell (HWS.out _ H10.out.2.2.2.2) _⟩
    by_cases iL : wy = 4
    ·subst iL
     have e0 := HM1.out
     unfold Jpi at e0
     rw [if_neg (by decide), if_neg (by decide), if_neg (by decide), if_neg (by decide), if_pos rfl] at e0
     have HE := lh e0
     clear e0 aE HM1
     have aD := Qy HDR.out.1.ok
     have bX : kk < M0.counts.length := by rw [aD.tabs, HDR.out.2.2.2]; exact dJ
     have fD : M0.counts.length = n3 := ReadsS.len HO.out.1.read.counts
     obtain ⟨gT, rfl⟩ := HO.out.1.counts.addr (by omega)
     obtain ⟨t, ht⟩ : ∃ t, M0.counts[kk]? = some t := ⟨_, List.getElem?_eq_getElem bX⟩
     have aJ : M0.words.length = n1 := HO.out.1.read.words.len
     have bZ : 1 <= t.length := by rw [(aD.fits t (List.mem_of_getElem? ht)).1, aJ]; omega
     obtain ⟨At, ct, d1, d2, d3, d4, d5, d6⟩ := (HO.out.1.next (Jt wc)).rdxTab bQ ht bZ
     obtain ⟨Ad, bR⟩ : ∃ Ad, Jg4 At ct 1 1 = Ad := ⟨_, rfl⟩
     rw [bR] at d6
     have hcut : ∀ w' : World, (Instr.slice 65 (.slice At t.length ct) (some (.int .i64 1)) none none).run Tryz.prog w' = .ok (.slice Ad (t.length - 1) (ct - 1)) w' := fun w' => by
      have := Ji0 (P := Tryz.prog) (Tryz.eltZ2).under (Tryz.eltZ2).info At t.length ct .i64 1 (by omega) (by omega) w'
      rw [show (1 : Int).toNat = 1 from rfl, bR] at this
      exact this
     have k1 : (kk : Int) < (n3 : Int) := by omega
     have dP : g ≠ gT := fun e => HO.out.2.2.2 (by rw [e]; exact d5)
     have e9 : ({ M0 with counts := M0.counts.set kk (t.drop 1) } : BM) = M1 := by rw [<- HE.out, List.getD_eq_getElem?_getD, ht, Option.getD_some]
     have HS := lh (And.intro d4 (And.intro dP (And.intro d6 e9)))
     clear d4 d5 d6 d2 dP e9 aD ht fD aJ bX bR
     go_wp2_with fail
     refine Jo4 10 (fun i => ([.pointer (some ⟨g, 5, none⟩), .slice (some ⟨gT, 0, none⟩) n3 c3, .int .i64 (kk : Int), .pointer (some ⟨g, 5, none⟩), .slice (some ⟨gT, 0, none⟩) n3 c3, .int .i64 (kk : Int), .pointer (some ⟨gT, kk, none⟩), .slice At t.length ct, .slice Ad (t.length - 1) (ct - 1), .pointer (some ⟨gT, kk, none⟩)] : List Value).getD i undef) (wc.drew.setCell ⟨gT, kk, none⟩ (.slice Ad (t.length - 1) (ct - 1))) (by kernel_rfl) (by kernel_rfl) (by kernel_rfl) (by kernel_rfl) ?_ ?_ [some 143, some 144, some 145, some 146, some 147, some 148, some 149, some 150, some 151, some 152, none] rfl ?_
     ·refine ⟨⟨⟨⟨⟨⟨⟨⟨⟨⟨trivial, ?_⟩, ?_⟩, ?_⟩, ?_⟩, ?_⟩, ?_⟩, ?_⟩, ?_⟩, ?_⟩, ?_⟩
      case refine_1 =>
       intro d a' hS hp
       have e1 : a'.tmps[17]?.getD undef = .pointer (some ⟨g, 0, none⟩) := hS.arg 17 (by kernel_rfl)
       refine ⟨_, rfl, .inl ⟨rfl, (show _ = Result.ok (Next.value (.pointer (some ⟨g, 5, none⟩))) _ from ?_)⟩⟩
       clear hS hp
       go_simp
      case refine_2 =>
       intro d a' hS hp
       have e1 : a'.tmps[143]?.getD undef = .pointer (some ⟨g, 5, none⟩) := hS.res 0 143 (hp 0 (by kernel_rfl)) rfl (by kernel_rfl)
       refine ⟨_, rfl, .inl ⟨rfl, (show _ = Result.ok (Next.value (.slice (some ⟨gT, 0, none⟩) n3 c3)) _ from ?_)⟩⟩
       clear hS hp
       go_simp
      case refine_3 =>
       intro d a' hS hp
       have e1 : a'.tmps[21]?.getD undef = .int .i64 (kk : Int) := hS.arg 21 (by kernel_rfl)
       refine ⟨_, rfl, .inl ⟨rfl, (show _ = Result.ok (Next.value (.int .i64 (kk : Int))) _ from ?_)⟩⟩
       clear hS hp
       go_simp
      case refine_4 =>
       intro d a' hS hp
       have e1 : a'.tmps[17]?.getD undef = .pointer (some ⟨g, 0, none⟩) := hS.arg 17 (by kernel_rfl)
       refine ⟨_, rfl, .inl ⟨rfl, (show _ = Result.ok (Next.value (.pointer (some ⟨g, 5, none⟩))) _ from ?_)⟩⟩
       clear hS hp
       go_simp
      case refine_5 =>
       intro d a' hS hp
       have e1 : a'.tmps[146]?.getD undef = .pointer (some ⟨g, 5, none⟩) := hS.res 3 146 (hp 3 (by kernel_rfl)) rfl (by kernel_rfl)
       refine ⟨_, rfl, .inl ⟨rfl, (show _ = Result.ok (Next.value (.slice (some ⟨gT, 0, none⟩) n3 c3)) _ from ?_)⟩⟩
       clear hS hp
       go_simp
      case refine_6 =>
       intro d a' hS hp
       have e1 : a'.tmps[21]?.getD undef = .int .i64 (kk : Int) := hS.arg 21 (by kernel_rfl)
       refine ⟨_, rfl, .inl ⟨rfl, (show _ = Result.ok (Next.value (.int .i64 (kk : Int))) _ from ?_)⟩⟩
       clear hS hp
       go_simp
      case refine_7 =>
       intro d a' hS hp
       have e1 : a'.tmps[147]?.getD undef = .slice (some ⟨gT, 0, none⟩) n3 c3 := hS.res 4 147 (hp 4 (by kernel_rfl)) rfl (by kernel_rfl)
       have e2 : a'.tmps[148]?.getD undef = .int .i64 (kk : Int) := hS.res 5 148 (hp 5 (by kernel_rfl)) rfl (by kernel_rfl)
       refine ⟨_, rfl, .inl ⟨rfl, (show _ = Result.ok (Next.value (.pointer (some ⟨gT, kk, none⟩))) _ from ?_)⟩⟩
       clear hS hp
       go_simp
      case refine_8 =>
       intro d a' hS hp
       have e1 : a'.tmps[149]?.getD undef = .pointer (some ⟨gT, kk, none⟩) := hS.res 6 149 (hp 6 (by kernel_rfl)) rfl (by kernel_rfl)
       refine ⟨_, rfl, .inl ⟨rfl, (show _ = Result.ok (Next.value (.slice At t.length ct)) _ from ?_)⟩⟩
       clear hS hp
       go_simp
      case refine_9 =>
       intro d a' hS hp
       have e1 : a'.tmps[150]?.getD undef = .slice At t.length ct := hS.res 7 150 (hp 7 (by kernel_rfl)) rfl (by kernel_rfl)
       refine ⟨_, rfl, .inl ⟨rfl, (show _ = Result.ok (Next.value (.slice Ad (t.length - 1) (ct - 1))) _ from ?_)⟩⟩
       clear hS hp
       go_simp
      case refine_10 =>
       intro d a' hS hp
       have e1 : a'.tmps[144]?.getD undef = .slice (some ⟨gT, 0, none⟩) n3 c3 := hS.res 1 144 (hp 1 (by kernel_rfl)) rfl (by kernel_rfl)
       have e2 : a'.tmps[145]?.getD undef = .int .i64 (kk : Int) := hS.res 2 145 (hp 2 (by kernel_rfl)) rfl (by kernel_rfl)
       refine ⟨_, rfl, .inl ⟨rfl, (show _ = Result.ok (Next.value (.pointer (some ⟨gT, kk, none⟩))) _ from ?_)⟩⟩
       clear hS hp
       go_simp
     ·intro d a' hS hd
      have e1 : a'.tmps[152]?.getD undef = .pointer (some ⟨gT, kk, none⟩) := hS.res 9 152 (hd 9 (by decide)) rfl (by kernel_rfl)
      have e2 : a'.tmps[151]?.getD undef = .slice Ad (t.length - 1) (ct - 1) := hS.res 8 151 (hd 8 (by decide)) rfl (by kernel_rfl)
      refine ⟨_, rfl, rfl, .inl ⟨?_, rfl⟩⟩
      clear hS hd
      go_simp
     simp only [Exit.inBlock, Exit.then, Jd7, Act.put, List.setIfInBounds_toArray, List.set_cons_succ, List.set_cons_zero]
     refine ‹∀ (a' : Act) (w' : World), _ -> _› _ _ ?_
     go_wp2_with fail
     go_meet
     rw [<- HS.out.2.2.2]
     exact ⟨rfl, DrQ.of (W := ⟨A1, n1, c1⟩) (S := ⟨A2, n2, c2⟩) (C := ⟨some ⟨gT, 0, none⟩, n3, c3⟩) (BK.out.drew.far HS.out.2.1 _) (HZQ.out _ ((HB6.out.trans ((Jt wc).mono HB6.out.size)).setCell HS.out.1 _)) HS.out.2.2.1, (HBV.out.trans ((Jt wc).mono HBV.out.size)).setCell (HWS.out _ HS.out.1) _⟩
    have aN : ¬ (wy = 0 \/ wy = 1 \/ wy = 2 \/ wy = 3 \/ wy = 4 \/ wy = 5 \/ wy = 6) := by omega
    have jR : 7 <= wy := by omega
    clear dM cR cT dQ iL iG iE
    have e0 := HM1.out
    rw [Jo2 aN] at e0
    have HE := lh e0
    have p0 : (wy == 0) = false := by simp; omega
    have p1 : (wy == 1) = false := by simp; omega
    have p2 : (wy == 2) = false := by simp; omega
    have p3 : (wy == 3) = false := by simp; omega
    have p4 : (wy == 4) = false := by simp; omega
    have p5 : (wy == 5) = false := by simp; omega
    have p6 : (wy == 6) = false := by simp; omega
    have r0 : ¬ wy = 0 := by omega
    have r1 : ¬ wy = 1 := by omega
    have r2 : ¬ wy = 2 := by omega
    have r3 : ¬ wy = 3 := by omega
    have r4 : ¬ wy = 4 := by omega
    have r5 : ¬ wy = 5 := by omega
    have r6 : ¬ wy = 6 := by omega
    clear e0 aN aE HM1
    go_wp2_with fail
    go_meet
    rw [<- HE.out]
    have b0c := B0.out.below HBV.out B0.out.lt
    exact ⟨rfl, ⟨ng, A7, A8, l7, d7, l8, d8, ⟨A1, n1, c1⟩, ⟨A2, n2, c2⟩, ⟨A3, n3, c3⟩, BK.out, fun w' hx => ⟨by rw [HDR.out.2.2.1]; exact ((HIQ.out.below HB6.out).more HB6.out.size).excB b0c Jq1 hx, (HO.out.1.exc hx (fun e => by have := HO.out.1.from1 _ e; omega) (fun e => by have := HO.out.1.from2 _ e; omega) (fun e => by have := HO.out.1.from3 _ e; omega)).read⟩⟩, HBV.out⟩
   case rest =>
    obtain ⟨rfl, ⟨ng', A7', A8', l7', d7', l8', d8', W', S', C', bk, hq⟩, aM⟩ := hcut
    rename World => wd
    obtain ⟨y0, y1, y2, y3, y4, y5⟩ := bk.c6
    have BR := lh (B0.out.below aM B0.out.lt)
    have HQ := lh hq
    have HBD := lh (HBW.out.trans (aM.mono HBW.out.size))
    clear bk hq aM HP3 HP4 HP5 HP6 x0 x1 x2 x3 x4 x5 HDR HO BK HB6 HRW HIQ HB5 aE HI HL H HWL HN HM
    simp only [SW.v] at y3 y4 y5
    generalize hgR : w.heap.size = gR at BR HQ ⊢
    go_wp2_with (refine Jr rfl _ (.tmp 14) (.tmp 165) rfl gR #[.bool ng', .slice A7' l7' d7', .slice A8' l8' d8', .slice W'.A W'.n W'.c, .slice S'.A S'.n S'.c, .slice C'.A C'.n C'.c] _ rfl rfl _ BR.out (by kernel_rfl) rfl (by simp [Value.oneCell']) ?_; intro w7 aF cJ; have HX7 := lh cJ; have HB7 := lh aF; clear cJ aF y0 y1 y2 y3 y4 y5)
    obtain ⟨p0, p1, p2, p3, p4, p5⟩ := HB7.out.c6
    refine bodyPost_ret (v := .agg #[.bool ng', .slice A7' l7' d7', .slice A8' l8' d8', .slice W'.A W'.n W'.c, .slice S'.A S'.n S'.c, .slice C'.A C'.n C'.c]) (by simp [results, Tryz.results12, go_sem, p0, p1, p2, p3, p4, p5]) rfl ?_
    exact ⟨_, rfl, ⟨ng', A7', A8', l7', d7', l8', d8', W', S', C', rfl, (HQ.out w7 HX7.out).1, (HQ.out w7 HX7.out).2⟩, HBD.out.trans (HX7.out.below HBD.out.size (Nat.le_of_eq hgR))⟩
theorem Jrt (a : Rat) : Jc2 a a = 0 := by
 unfold Jc2
 rw [if_neg Rat.lt_irrefl, if_neg Rat.lt_irrefl]
def FixR (W : World) (FX : Nat -> Option Value) (d : Nat -> Bool) (val : Nat -> Value) (w : World) : Prop := Below W.heap.size W w /\ Fixed FX d val
theorem FixR.one {W w : World} {FX : Nat -> Option Value} {d : Nat -> Bool} {val : Nat -> Value} {i : Nat} {x : Value} (h : FixR W FX d val w) (hx : FX i = some x) : FixR W FX (upI d i) (Jf3 val i x) w := ⟨h.1, h.2.step (.inr hx)⟩
theorem FixR.call {W w w' : World} {FX : Nat -> Option Value} {d : Nat -> Bool} {val : Nat -> Value} {i : Nat} {x : Value} (h : FixR W FX d val w) (hb : Below w.heap.size w w') (hx : FX i = some x) : FixR W FX (upI d i) (Jf3 val i x) w' := ⟨h.1.trans (hb.mono h.1.size), h.2.step (.inr hx)⟩
theorem Jrr (ng : Bool) (A7 A8 : Option Addr) (l7 d7 l8 d8 : Nat) (A1 A2 A3 : Option Addr) (n1 c1 n2 c2 n3 c3 : Nat) (ng' : Bool) (Y7 Y8 : Option Addr) (l7' d7' l8' d8' : Nat) (Y1 Y2 Y3 : Option Addr) (c1' c2' c3' B : Nat) (m : BM) (w : World) (h : RdB w B ⟨A1, n1, c1⟩ ⟨A2, n2, c2⟩ ⟨A3, n3, c3⟩ m) (hq : IsQ w B (.agg #[.bool ng, .slice A7 l7 d7, .slice A8 l8 d8]) m.smooth)
  (h' : RdB w B ⟨Y1, n1, c1'⟩ ⟨Y2, n2, c2'⟩ ⟨Y3, n3, c3'⟩ m) (cE : IsQ w B (.agg #[.bool ng', .slice Y7 l7' d7', .slice Y8 l8' d8']) m.smooth) (hB : B <= w.heap.size) (hL : LenB m) (hs : QS 68719476736 m.smooth) :
  Calls Tryz.prog 59 #[.agg #[.bool ng, .slice A7 l7 d7, .slice A8 l8 d8, .slice A1 n1 c1, .slice A2 n2 c2, .slice A3 n3 c3], .agg #[.bool ng', .slice Y7 l7' d7', .slice Y8 l8' d8', .slice Y1 n1 c1', .slice Y2 n2 c2', .slice Y3 n3 c3']] w (Ret (.bool true) w) := by
 have cR : m.words.length = n1 := h.words.len
 have cT : m.seen.length = n2 := h.seen.len
 have dQ : m.counts.length = n3 := ReadsS.len h.counts
 have hn : n1 <= 1000 /\ n2 <= 1000 /\ n3 <= 1000 := by have := hL.words; have := hL.seen; have := hL.counts; omega
 obtain ⟨b0, b1, hB, hZ⟩ := bx2 w 31 #[.bool ng, .slice A7 l7 d7, .slice A8 l8 d8, .slice A1 n1 c1, .slice A2 n2 c2, .slice A3 n3 c3] 31 #[.bool ng', .slice Y7 l7' d7', .slice Y8 l8' d8', .slice Y1 n1 c1', .slice Y2 n2 c2', .slice Y3 n3 c3']
 go_enter Tryz.func59, Tryz.ntmps59
 go_upto_region 1 with fail
 generalize ((w.alloc (.cells #[.bool ng, .slice A7 l7 d7, .slice A8 l8 d8, .slice A1 n1 c1, .slice A2 n2 c2, .slice A3 n3 c3] 31)).alloc (.cells #[.bool ng', .slice Y7 l7' d7', .slice Y8 l8' d8', .slice Y1 n1 c1', .slice Y2 n2 c2', .slice Y3 n3 c3'] 31)) = W at *
 rename B <= w.heap.size => hBB
 have HCM : Hid (∀ w', Below w.heap.size w w' -> Calls Tryz.prog 76 #[.agg #[.bool ng, .slice A7 l7 d7, .slice A8 l8 d8], .agg #[.bool ng', .slice Y7 l7' d7', .slice Y8 l8' d8']] w' (Ret (.int .i64 0) w')) := lh fun w' hb => by
  have h1 := Jrx m.smooth m.smooth B _ _ w' (hq.below (hb.mono hBB)) (cE.below (hb.mono hBB)) (nt hBB hb.size) hs hs
  rw [Jrt] at h1
  exact h1
 have HSW : Hid (∀ w', Below w.heap.size w w' -> Calls Tryz.prog 106 #[.slice A1 n1 c1, .slice Y1 n1 c1'] w' (Ret (.bool true) w')) := lh fun w' hb => (Jq8 A1 Y1 n1 c1 c1' m.words B B w' (rkindI.below h.words (hb.mono hBB)) (rkindI.below h'.words (hb.mono hBB)) (by omega)).mono fun e w'' h => ⟨h.1, by obtain ⟨k, hk⟩ := h.2; rw [hk]; exact Jw (Below.refl _ _) k⟩
 have HSS : Hid (∀ w', Below w.heap.size w w' -> Calls Tryz.prog 106 #[.slice A2 n2 c2, .slice Y2 n2 c2'] w' (Ret (.bool true) w')) := lh fun w' hb => (Jq8 A2 Y2 n2 c2 c2' m.seen B B w' (rkindI.below h.seen (hb.mono hBB)) (rkindI.below h'.seen (hb.mono hBB)) (by omega)).mono fun e w'' h => ⟨h.1, by obtain ⟨k, hk⟩ := h.2; rw [hk]; exact Jw (Below.refl _ _) k⟩
 have H := lh h.counts
 have H' := lh h'.counts
 have HW := lh dQ
 have HL := lh hL
 have HBW := lh hB
 have HBB := lh hBB
 have B0 := lh b0
 have B1 := lh b1
 have aO := b0.lt
 have bE := b1.lt
 have dH := hB.size
 have q0 : ((0 : Int) != 0) = false := by simp
 have q1 : ((n3 : Int) != (n3 : Int)) = false := by simp
 have q2 : ((n3 : Int) == (n3 : Int)) = true := by simp
 obtain ⟨x0, x1, x2, x3, x4, x5⟩ := b0.c6
 obtain ⟨y0, y1, y2, y3, y4, y5⟩ := b1.c6
 clear h h' hq cE hL hs cR cT dQ hB hZ hBB b0 b1
 go_wp2_with fail
 refine (HCM.out _ HBW.out).mono ?_
 rintro e w1 ⟨rfl, q9⟩
 have HB1 := lh (HBW.out.trans (q9.mono HBW.out.size))
 have B0' := B0.out.below q9 aO
 have B1' := B1.out.below q9 bE
 have HS1 := lh q9
 clear q9 x0 x1 x2 x3 x4 x5 y0 y1 y2 y3 y4 y5
 obtain ⟨x0, x1, x2, x3, x4, x5⟩ := B0'.c6
 obtain ⟨y0, y1, y2, y3, y4, y5⟩ := B1'.c6
 go_wp2_with fail
 refine (HSW.out _ HB1.out).mono ?_
 rintro e w2 ⟨rfl, j7⟩
 have aP := HS1.out.trans (j7.mono HS1.out.size)
 have B0'' := B0.out.below aP aO
 have B1'' := B1.out.below aP bE
 have HS2 := lh aP
 have HB2 := lh (HBW.out.trans (aP.mono HBW.out.size))
 clear j7 aP x0 x1 x2 x3 x4 x5 y0 y1 y2 y3 y4 y5 B0' B1' HS1 HB1
 obtain ⟨x0, x1, x2, x3, x4, x5⟩ := B0''.c6
 obtain ⟨y0, y1, y2, y3, y4, y5⟩ := B1''.c6
 go_wp2_with fail
 refine (HSS.out _ HB2.out).mono ?_
 rintro e w3 ⟨rfl, j0⟩
 have aY := HS2.out.trans (j0.mono HS2.out.size)
 have B03 := B0.out.below aY aO
 have B13 := B1.out.below aY bE
 have HS3 := lh aY
 clear j0 aY x0 x1 x2 x3 x4 x5 y0 y1 y2 y3 y4 y5 B0'' B1'' HS2 HB2
 obtain ⟨x0, x1, x2, x3, x4, x5⟩ := B03.c6
 obtain ⟨y0, y1, y2, y3, y4, y5⟩ := B13.c6
 clear B03 B13
 go_wp2_with fail
 clear x0 x1 x2 x3 x4 x5 y0 y1 y2 y3 y4 y5
 go_loopw [5] (fun p wr => ∃ k : Nat, k <= n3 /\ p = .int .i64 (k : Int) /\ Below W.heap.size W wr) (fun p _ => n3 - (intOf p).toNat)
 case atStart => exact ⟨0, by omega, rfl, HS3.out⟩
 case round =>
  obtain ⟨k, hk, rfl, cF⟩ := hrel
  rename World => wr
  have HBR := lh cF
  have b0 := B0.out.below cF aO
  have b1 := B1.out.below cF bE
  have j6 := HBW.out.trans (cF.mono HBW.out.size)
  obtain ⟨x0, x1, x2, x3, x4, x5⟩ := b0.c6
  obtain ⟨y0, y1, y2, y3, y4, y5⟩ := b1.c6
  by_cases gH : k < n3
  ·as_aux_lemma =>
   have k1 : (k : Int) < (n3 : Int) := by omega
   obtain ⟨t, ht⟩ : ∃ t, m.counts[k]? = some t := ⟨_, List.getElem?_eq_getElem (by have := HW.out; omega)⟩
   obtain ⟨ad, A4, n4, c4, rfl, aV, hc, hr⟩ := H.out.at_ ht
   obtain ⟨ad', Y4, n4', c4', rfl, bT, dZ, fG⟩ := H'.out.at_ ht
   have fH : t.length = n4 := ReadsS.len hr
   obtain rfl : n4' = n4 := by rw [<- fH]; exact (ReadsS.len fG).symm
   have kF : n4' <= 1000 := by have := (HL.out.rows t (List.mem_of_getElem? ht)).1; omega
   have iM := (HL.out.rows t (List.mem_of_getElem? ht)).2
   have cB := Qg (j6.mono HBB.out) hc aV
   have cD := Qg (j6.mono HBB.out) dZ bT
   have q3 : ((n4' : Int) != (n4' : Int)) = false := by simp
   have q4 : ((n4' : Int) == (n4' : Int)) = true := by simp
   have HR := lh (And.intro hr (And.intro fG (And.intro fH iM)))
   have HCC := lh (And.intro cB cD)
   have jS := j6.size
   have HK1 := lh (fun w' (hb : Below w.heap.size w w') => Qg (hb.mono HBB.out) hc aV)
   have HK2 := lh (fun w' (hb : Below w.heap.size w w') => Qg (hb.mono HBB.out) dZ bT)
   have HB9 := lh j6
   clear hc dZ hr fG fH iM ht b0 b1 cF aV bT
   go_upto_region 6 with fail
   go_cut [57] (fun v wc => v = .bool false /\ Below wr.heap.size wr wc)
   case first =>
    go_quiet (fail)
    go_wp2_with fail
    go_meet
    exact ⟨rfl, Jw (Below.refl _ _) _⟩
   case rest =>
    obtain ⟨rfl, y9⟩ := hcut
    rename World => wc
    clear x0 x1 x2 x3 x4 x5 y0 y1 y2 y3 y4 y5
    have HBC := lh (HBR.out.trans (y9.mono HBR.out.size))
    clear y9
    go_wp2_with fail
    go_loopw [6] (fun p w2 => ∃ c : Nat, c <= n4' /\ p = .int .i64 (c : Int) /\ Below W.heap.size W w2) (fun p _ => n4' - (intOf p).toNat)
    case atStart => exact ⟨0, by omega, rfl, HBC.out⟩
    case round =>
     obtain ⟨c, hc, rfl, j7⟩ := hrel
     rename World => w2
     have HB2 := lh j7
     have j8 := HBW.out.trans (j7.mono HBW.out.size)
     have b0 := B0.out.below j7 aO
     have b1 := B1.out.below j7 bE
     obtain ⟨x0, x1, x2, x3, x4, x5⟩ := b0.c6
     obtain ⟨y0, y1, y2, y3, y4, y5⟩ := b1.c6
     have cB := HK1.out w2 j8
     have cD := HK2.out w2 j8
     by_cases eW : c < n4'
     ·as_aux_lemma =>
      have k2 : (c : Int) < (n4' : Int) := by omega
      obtain ⟨j9, aZ⟩ : ∃ j9, t[c]? = some j9 := ⟨_, List.getElem?_eq_getElem (by have := HR.out.2.2.1; omega)⟩
      obtain ⟨ad5, A5, n5, c5, rfl, dS, fI, fJ⟩ := HR.out.1.at_ aZ
      obtain ⟨ad6, A6, n6, c6, rfl, dT, fK, fL⟩ := HR.out.2.1.at_ aZ
      have iN : j9.length = n5 := ReadsI.len fJ
      obtain rfl : n6 = n5 := by rw [<- iN]; exact (ReadsI.len fL).symm
      have kG : n6 <= 1000 := by have := HR.out.2.2.2 j9 (List.mem_of_getElem? aZ); omega
      have HC56 := lh (And.intro dS (And.intro fI (And.intro dT fK)))
      have HSI : Hid (∀ w', Below w2.heap.size w2 w' -> Calls Tryz.prog 106 #[.slice A5 n6 c5, .slice A6 n6 c6] w' (Ret (.bool true) w')) := lh fun w' hb => by
       have aG := j8.trans (hb.mono j8.size)
       exact (Jq8 A5 A6 n6 c5 c6 j9 B B w' (rkindI.below fJ (aG.mono HBB.out)) (rkindI.below fL (aG.mono HBB.out)) (by omega)).mono fun e w'' h => ⟨h.1, by obtain ⟨k, hk⟩ := h.2; rw [hk]; exact Jw (Below.refl _ _) k⟩
      have dU := fun w' (hb : Below w2.heap.size w2 w') => Qg ((j8.trans (hb.mono j8.size)).mono HBB.out) fI dS
      have dV := fun w' (hb : Below w2.heap.size w2 w') => Qg ((j8.trans (hb.mono j8.size)).mono HBB.out) fK dT
      have HK3 := lh (And.intro dU dV)
      have HBW2 := lh j8
      clear fI fK fJ fL aZ dU dV j8 j7 b0 b1 iN
      go_upto_region 11 with fail
      go_cut [85] (fun v wd => v = .bool false /\ Below w2.heap.size w2 wd)
      case first =>
       refine Je0 (FixR w2 (fun j => ([some (.pointer (some ⟨w.heap.size, 5, none⟩)), some (.slice (some ad) n3 c3), some (.int .i64 (k : Int)), some (.pointer (some (ad.add k))), some ((.slice (some ad5) n4' c4)), some (.int .i64 (c : Int)), some (.pointer (some (ad5.add c))), some (.slice A5 n6 c5), some (.pointer (some ⟨w.heap.size + 1, 5, none⟩)), some ((.slice (some ad') n3 c3')), some (.int .i64 (k : Int)), some ((.pointer (some (ad'.add k)))), some ((.slice (some ad6) n4' c4')), some (.int .i64 (c : Int)), some (.pointer (some (ad6.add c))), some (.slice A6 n6 c6), some (.bool true), some (.bool false)] : List (Option Value)).getD j none)) (by kernel_rfl) (by kernel_rfl) (by kernel_rfl) ?_ ?_ [some 68, some 69, some 70, some 71, some 72, some 73, some 74, some 75, some 76, some 77, some 78, some 79, some 80, some 81, some 82, some 83, some 84, some 85] rfl ?_
       ·exact ⟨Jt _, Fixed.start _ _⟩
       ·refine ⟨⟨⟨⟨⟨⟨⟨⟨⟨⟨⟨⟨⟨⟨⟨⟨⟨⟨trivial, ?_⟩, ?_⟩, ?_⟩, ?_⟩, ?_⟩, ?_⟩, ?_⟩, ?_⟩, ?_⟩, ?_⟩, ?_⟩, ?_⟩, ?_⟩, ?_⟩, ?_⟩, ?_⟩, ?_⟩, ?_⟩
        case refine_1 =>
         intro d val a' w' hS hF hd hp
         have e8 : a'.tmps[2]?.getD undef = .pointer (some ⟨w.heap.size, 0, none⟩) := hS.arg 2 (by kernel_rfl)
         refine Xa (v := .pointer (some ⟨w.heap.size, 5, none⟩)) _ rfl rfl ?_ (show FixR _ _ _ _ _ from hF.one rfl)
         clear hF hS hd hp
         go_simp
        case refine_2 =>
         intro d val a' w' hS hF hd hp
         have e1 : a'.tmps[68]?.getD undef = .pointer (some ⟨w.heap.size, 5, none⟩) := (hS.res 0 68 (hp 0 (by kernel_rfl)) rfl (by kernel_rfl)).trans (hF.2 0 _ rfl (hp 0 (by kernel_rfl)))
         have aG := HB2.out.trans (hF.1.mono HB2.out.size)
         have b0' := B0.out.below aG aO
         obtain ⟨z0, z1, z2, z3, z4, z5⟩ := b0'.c6
         refine Xa (v := .slice (some ad) n3 c3) _ rfl rfl ?_ (show FixR _ _ _ _ _ from hF.one rfl)
         clear hF hS hd hp
         go_simp
        case refine_3 =>
         intro d val a' w' hS hF hd hp
         have e8 : a'.tmps[5]?.getD undef = .int .i64 (k : Int) := hS.arg 5 (by kernel_rfl)
         refine Xa (v := .int .i64 (k : Int)) _ rfl rfl ?_ (show FixR _ _ _ _ _ from hF.one rfl)
         clear hF hS hd hp
         go_simp
        case refine_4 =>
         intro d val a' w' hS hF hd hp
         have e1 : a'.tmps[69]?.getD undef = .slice (some ad) n3 c3 := (hS.res 1 69 (hp 1 (by kernel_rfl)) rfl (by kernel_rfl)).trans (hF.2 1 _ rfl (hp 1 (by kernel_rfl)))
         have e2 : a'.tmps[70]?.getD undef = .int .i64 (k : Int) := (hS.res 2 70 (hp 2 (by kernel_rfl)) rfl (by kernel_rfl)).trans (hF.2 2 _ rfl (hp 2 (by kernel_rfl)))
         refine Xa (v := .pointer (some (ad.add k))) _ rfl rfl ?_ (show FixR _ _ _ _ _ from hF.one rfl)
         clear hF hS hd hp
         go_simp
        case refine_5 =>
         intro d val a' w' hS hF hd hp
         have e1 : a'.tmps[71]?.getD undef = .pointer (some (ad.add k)) := (hS.res 3 71 (hp 3 (by kernel_rfl)) rfl (by kernel_rfl)).trans (hF.2 3 _ rfl (hp 3 (by kernel_rfl)))
         have aL := HK1.out w' (HBW2.out.trans (hF.1.mono HBW2.out.size))
         refine Xa (v := (.slice (some ad5) n4' c4)) _ rfl rfl ?_ (show FixR _ _ _ _ _ from hF.one rfl)
         clear hF hS hd hp
         go_simp
        case refine_6 =>
         intro d val a' w' hS hF hd hp
         have e8 : a'.tmps[6]?.getD undef = .int .i64 (c : Int) := hS.arg 6 (by kernel_rfl)
         refine Xa (v := .int .i64 (c : Int)) _ rfl rfl ?_ (show FixR _ _ _ _ _ from hF.one rfl)
         clear hF hS hd hp
         go_simp
        case refine_7 =>
         intro d val a' w' hS hF hd hp
         have e1 : a'.tmps[72]?.getD undef = (.slice (some ad5) n4' c4) := (hS.res 4 72 (hp 4 (by kernel_rfl)) rfl (by kernel_rfl)).trans (hF.2 4 _ rfl (hp 4 (by kernel_rfl)))
         have e2 : a'.tmps[73]?.getD undef = .int .i64 (c : Int) := (hS.res 5 73 (hp 5 (by kernel_rfl)) rfl (by kernel_rfl)).trans (hF.2 5 _ rfl (hp 5 (by kernel_rfl)))
         refine Xa (v := .pointer (some (ad5.add c))) _ rfl rfl ?_ (show FixR _ _ _ _ _ from hF.one rfl)
         clear hF hS hd hp
         go_simp
        case refine_8 =>
         intro d val a' w' hS hF hd hp
         have e1 : a'.tmps[74]?.getD undef = .pointer (some (ad5.add c)) := (hS.res 6 74 (hp 6 (by kernel_rfl)) rfl (by kernel_rfl)).trans (hF.2 6 _ rfl (hp 6 (by kernel_rfl)))
         have aL := HK3.out.1 w' hF.1
         refine Xa (v := .slice A5 n6 c5) _ rfl rfl ?_ (show FixR _ _ _ _ _ from hF.one rfl)
         clear hF hS hd hp
         go_simp
        case refine_9 =>
         intro d val a' w' hS hF hd hp
         have e8 : a'.tmps[3]?.getD undef = .pointer (some ⟨w.heap.size + 1, 0, none⟩) := hS.arg 3 (by kernel_rfl)
         refine Xa (v := .pointer (some ⟨w.heap.size + 1, 5, none⟩)) _ rfl rfl ?_ (show FixR _ _ _ _ _ from hF.one rfl)
         clear hF hS hd hp
         go_simp
        case refine_10 =>
         intro d val a' w' hS hF hd hp
         have e1 : a'.tmps[76]?.getD undef = .pointer (some ⟨w.heap.size + 1, 5, none⟩) := (hS.res 8 76 (hp 8 (by kernel_rfl)) rfl (by kernel_rfl)).trans (hF.2 8 _ rfl (hp 8 (by kernel_rfl)))
         have aG := HB2.out.trans (hF.1.mono HB2.out.size)
         have b0' := B1.out.below aG bE
         obtain ⟨z0, z1, z2, z3, z4, z5⟩ := b0'.c6
         refine Xa (v := (.slice (some ad') n3 c3')) _ rfl rfl ?_ (show FixR _ _ _ _ _ from hF.one rfl)
         clear hF hS hd hp
         go_simp
        case refine_11 =>
         intro d val a' w' hS hF hd hp
         have e8 : a'.tmps[5]?.getD undef = .int .i64 (k : Int) := hS.arg 5 (by kernel_rfl)
         refine Xa (v := .int .i64 (k : Int)) _ rfl rfl ?_ (show FixR _ _ _ _ _ from hF.one rfl)
         clear hF hS hd hp
         go_simp
        case refine_12 =>
         intro d val a' w' hS hF hd hp
         have e1 : a'.tmps[77]?.getD undef = (.slice (some ad') n3 c3') := (hS.res 9 77 (hp 9 (by kernel_rfl)) rfl (by kernel_rfl)).trans (hF.2 9 _ rfl (hp 9 (by kernel_rfl)))
         have e2 : a'.tmps[78]?.getD undef = .int .i64 (k : Int) := (hS.res 10 78 (hp 10 (by kernel_rfl)) rfl (by kernel_rfl)).trans (hF.2 10 _ rfl (hp 10 (by kernel_rfl)))
         refine Xa (v := (.pointer (some (ad'.add k)))) _ rfl rfl ?_ (show FixR _ _ _ _ _ from hF.one rfl)
         clear hF hS hd hp
         go_simp
        case refine_13 =>
         intro d val a' w' hS hF hd hp
         have e1 : a'.tmps[79]?.getD undef = (.pointer (some (ad'.add k))) := (hS.res 11 79 (hp 11 (by kernel_rfl)) rfl (by kernel_rfl)).trans (hF.2 11 _ rfl (hp 11 (by kernel_rfl)))
         have aL := HK2.out w' (HBW2.out.trans (hF.1.mono HBW2.out.size))
         refine Xa (v := (.slice (some ad6) n4' c4')) _ rfl rfl ?_ (show FixR _ _ _ _ _ from hF.one rfl)
         clear hF hS hd hp
         go_simp
        case refine_14 =>
         intro d val a' w' hS hF hd hp
         have e8 : a'.tmps[6]?.getD undef = .int .i64 (c : Int) := hS.arg 6 (by kernel_rfl)
         refine Xa (v := .int .i64 (c : Int)) _ rfl rfl ?_ (show FixR _ _ _ _ _ from hF.one rfl)
         clear hF hS hd hp
         go_simp
        case refine_15 =>
         intro d val a' w' hS hF hd hp
         have e1 : a'.tmps[80]?.getD undef = (.slice (some ad6) n4' c4') := (hS.res 12 80 (hp 12 (by kernel_rfl)) rfl (by kernel_rfl)).trans (hF.2 12 _ rfl (hp 12 (by kernel_rfl)))
         have e2 : a'.tmps[81]?.getD undef = .int .i64 (c : Int) := (hS.res 13 81 (hp 13 (by kernel_rfl)) rfl (by kernel_rfl)).trans (hF.2 13 _ rfl (hp 13 (by kernel_rfl)))
         refine Xa (v := .pointer (some (ad6.add c))) _ rfl rfl ?_ (show FixR _ _ _ _ _ from hF.one rfl)
         clear hF hS hd hp
         go_simp
        case refine_16 =>
         intro d val a' w' hS hF hd hp
         have e1 : a'.tmps[82]?.getD undef = .pointer (some (ad6.add c)) := (hS.res 14 82 (hp 14 (by kernel_rfl)) rfl (by kernel_rfl)).trans (hF.2 14 _ rfl (hp 14 (by kernel_rfl)))
         have aL := HK3.out.2 w' hF.1
         refine Xa (v := .slice A6 n6 c6) _ rfl rfl ?_ (show FixR _ _ _ _ _ from hF.one rfl)
         clear hF hS hd hp
         go_simp
        case refine_17 =>
         intro d val a' w' hS hF hd hp
         have e1 : a'.tmps[75]?.getD undef = .slice A5 n6 c5 := (hS.res 7 75 (hp 7 (by kernel_rfl)) rfl (by kernel_rfl)).trans (hF.2 7 _ rfl (hp 7 (by kernel_rfl)))
         have e2 : a'.tmps[83]?.getD undef = .slice A6 n6 c6 := (hS.res 15 83 (hp 15 (by kernel_rfl)) rfl (by kernel_rfl)).trans (hF.2 15 _ rfl (hp 15 (by kernel_rfl)))
         refine Jjm (Ψ := fun v w'' => FixR w2 _ (upI d 16) (Jf3 val 16 v) w'') _ rfl rfl (args := #[.slice A5 n6 c5, .slice A6 n6 c6]) (w2 := w') (f := 106) ?_ ?_
         ·clear hF hS hd hp
          go_simp
         refine (HSI.out w' hF.1).mono ?_
         rintro e w3 ⟨rfl, j0⟩
         exact ⟨_, rfl, hF.call j0 rfl⟩
        case refine_18 =>
         intro d val a' w' hS hF hd hp
         have e1 : a'.tmps[84]?.getD undef = .bool true := (hS.res 16 84 (hp 16 (by kernel_rfl)) rfl (by kernel_rfl)).trans (hF.2 16 _ rfl (hp 16 (by kernel_rfl)))
         refine Xa (v := .bool false) _ rfl rfl ?_ (show FixR _ _ _ _ _ from hF.one rfl)
         clear hF hS hd hp
         go_simp
       intro d val w' hF hd
       simp only [Exit.then, Jd7, Act.put, List.setIfInBounds_toArray, List.set_cons_succ, List.set_cons_zero]
       refine ‹∀ a' w', Met _ a' w' -> _› _ _ ?_
       go_meet
       exact ⟨hF.2 17 _ rfl (hd 17 (by decide)), hF.1⟩
      case rest =>
       obtain ⟨rfl, aM⟩ := hcut
       rename World => wd
       have HBD := lh (HB2.out.trans (aM.mono HB2.out.size))
       clear aM x0 x1 x2 x3 x4 x5 y0 y1 y2 y3 y4 y5 cB cD
       go_wp2_with fail
       go_roundw
       case rel => exact ⟨c + 1, by omega, by go_num, HBD.out⟩
       case measure => simp [intOf]; omega
     as_aux_lemma =>
     obtain rfl : c = n4' := by omega
     have k2 : ¬ (c : Int) < (c : Int) := by omega
     clear j7 j8 b0 b1
     go_wp2_with fail
     exact ⟨⟨k + 1, by omega, by go_num, HB2.out⟩, by simp [intOf]; omega⟩
  as_aux_lemma =>
  obtain rfl : k = n3 := by omega
  have k1 : ¬ (k : Int) < (k : Int) := by omega
  have HB9 := lh j6
  clear j6 cF b0 b1
  go_wp2
  go_ret
  exact ⟨rfl, HB9.out⟩
structure SamR (W : World) (q : Rat) (s1 s2 s3 : Value) (FX : Nat -> Option Value) (d : Nat -> Bool) (val : Nat -> Value) (w : World) : Prop where
 bel : Below W.heap.size W w
 fx : Fixed FX d val
 v2 : d 2 = true -> ∃ (a : Bool) (A A' : Option Addr) (l c l' c' : Nat), val 2 = .agg #[.bool a, .slice A l c, .slice A' l' c'] /\ IsQ w w.heap.size (.agg #[.bool a, .slice A l c, .slice A' l' c']) q
 v9 : d 9 = true -> d 2 = true /\ ∀ x y z, val 2 = .agg #[x, y, z] -> val 9 = .agg #[x, y, z, s1, s2, s3]
theorem SamR.next {W w w' : World} {q : Rat} {s1 s2 s3 : Value} {FX : Nat -> Option Value} {d : Nat -> Bool} {val : Nat -> Value} (h : SamR W q s1 s2 s3 FX d val w) (hb : Below w.heap.size w w') : SamR W q s1 s2 s3 FX d val w' where
 bel := h.bel.trans (hb.mono h.bel.size)
 fx := h.fx
 v2 := fun h1 => by
  obtain ⟨a, A, A', l, c, l', c', e, hq⟩ := h.v2 h1
  exact ⟨a, A, A', l, c, l', c', e, (hq.below hb).more hb.size⟩
 v9 := h.v9
theorem arr3 {a b c x y z : Value} (h : #[a, b, c] = #[x, y, z]) : a = x /\ b = y /\ c = z := by simpa using h
theorem Jrn (X1 X2 X3 : Option Addr) (n1 s1 n2 s2 n3 s3 : Nat) (ng' : Bool) (Y7 Y8 : Option Addr) (l7' d7' l8' d8' : Nat) (Y1 Y2 Y3 : Option Addr) (c1' c2' c3' B : Nat) (m : BM) (w : World) (h : RdB w B ⟨X1, n1, s1⟩ ⟨X2, n2, s2⟩ ⟨X3, n3, s3⟩ m)
  (h' : RdB w B ⟨Y1, n1, c1'⟩ ⟨Y2, n2, c2'⟩ ⟨Y3, n3, c3'⟩ m) (cE : IsQ w B (.agg #[.bool ng', .slice Y7 l7' d7', .slice Y8 l8' d8']) m.smooth) (hB : B <= w.heap.size) (hL : LenB m) (hs : QS 68719476736 m.smooth) :
  Calls Tryz.prog 23 #[.agg #[.bool (decide (m.smooth.num < 0)), .int .u64 (lo m.smooth.num.natAbs : Int), .string (mo m.smooth.num.natAbs), .int .u64 (lo ((qden m.smooth)) : Int), .string (mo ((qden m.smooth))), .slice X1 n1 s1, .slice X2 n2 s2, .slice X3 n3 s3], .agg #[.bool ng', .slice Y7 l7' d7', .slice Y8 l8' d8', .slice Y1 n1 c1', .slice Y2 n2 c2', .slice Y3 n3 c3']] w (Ret (.bool true) w) := by
 obtain ⟨q, hq⟩ : ∃ q, m.smooth = q := ⟨_, rfl⟩
 have eD := fun w' => Jlj m.smooth w' (hs.mono (by omega))
 unfold qV at eD
 rw [hq] at eD hs cE ⊢
 obtain ⟨b0, b1, hB, hZ⟩ := bx2 w 43 #[.bool (decide (q.num < 0)), .int .u64 (lo q.num.natAbs : Int), .string (mo q.num.natAbs), .int .u64 (lo (qden q) : Int), .string (mo (qden q)), .slice X1 n1 s1, .slice X2 n2 s2, .slice X3 n3 s3] 31 #[.bool ng', .slice Y7 l7' d7', .slice Y8 l8' d8', .slice Y1 n1 c1', .slice Y2 n2 c2', .slice Y3 n3 c3']
 go_enter Tryz.func23, Tryz.ntmps23
 go_upto_region 1 with fail
 generalize ((w.alloc (.cells #[.bool (decide (q.num < 0)), .int .u64 (lo q.num.natAbs : Int), .string (mo q.num.natAbs), .int .u64 (lo (qden q) : Int), .string (mo (qden q)), .slice X1 n1 s1, .slice X2 n2 s2, .slice X3 n3 s3] 43)).alloc (.cells #[.bool ng', .slice Y7 l7' d7', .slice Y8 l8' d8', .slice Y1 n1 c1', .slice Y2 n2 c2', .slice Y3 n3 c3'] 31)) = W at *
 rename B <= w.heap.size => hBB
 have HSA : Hid (∀ w' a A A' l c l' c', Below w.heap.size w w' -> IsQ w' w'.heap.size (.agg #[.bool a, .slice A l c, .slice A' l' c']) q -> Calls Tryz.prog 59 #[.agg #[.bool a, .slice A l c, .slice A' l' c', .slice X1 n1 s1, .slice X2 n2 s2, .slice X3 n3 s3], .agg #[.bool ng', .slice Y7 l7' d7', .slice Y8 l8' d8', .slice Y1 n1 c1', .slice Y2 n2 c2', .slice Y3 n3 c3']] w' (Ret (.bool true) w')) := lh fun w' a A A' l c l' c' hb hi =>
  Jrr a A A' l c l' c' X1 X2 X3 n1 s1 n2 s2 n3 s3 ng' Y7 Y8 l7' d7' l8' d8' Y1 Y2 Y3 c1' c2' c3' w'.heap.size m w' ((h.below (hb.mono hBB)).more (nt hBB hb.size)) (by rw [hq]; exact hi) ((h'.below (hb.mono hBB)).more (nt hBB hb.size)) (by rw [hq]; exact (cE.below (hb.mono hBB)).more (nt hBB hb.size)) zd hL (by rw [hq]; exact hs)
 have HOU := lh eD
 have HBW := lh hB
 have B0 := lh b0
 have B1 := lh b1
 have aO := b0.lt
 have bE := b1.lt
 clear h h' cE hB hL hs eD hZ b0 b1 hq
 go_cut [4] (fun v wc => v = .bool true /\ Below W.heap.size W wc)
 case first =>
  refine Je0 (SamR W q (.slice X1 n1 s1) (.slice X2 n2 s2) (.slice X3 n3 s3) (fun j => ([some (.pointer (some ⟨w.heap.size, 0, none⟩)), some (.agg #[.bool (decide (q.num < 0)), .int .u64 (lo q.num.natAbs : Int), .string (mo q.num.natAbs), .int .u64 (lo ((qden q)) : Int), .string (mo ((qden q)))]), none, some (.pointer (some ⟨w.heap.size, 5, none⟩)), some (.slice X1 n1 s1), some (.pointer (some ⟨w.heap.size, 6, none⟩)), some (.slice X2 n2 s2), some (.pointer (some ⟨w.heap.size, 7, none⟩)), some (.slice X3 n3 s3), none, some (.agg #[.bool ng', .slice Y7 l7' d7', .slice Y8 l8' d8', .slice Y1 n1 c1', .slice Y2 n2 c2', .slice Y3 n3 c3']), some (.bool true), some (.bool true)] : List (Option Value)).getD j none)) (by kernel_rfl) (by kernel_rfl) (by kernel_rfl) ?_ ?_ [some 5, some 6, some 7, some 8, some 9, some 10, some 11, some 12, some 13, some 14, some 15, some 16, some 4] rfl ?_
  ·constructor <;> first | exact Jt _ | exact Fixed.start _ _ | (intro h; cases h)
  ·refine ⟨⟨⟨⟨⟨⟨⟨⟨⟨⟨⟨⟨⟨trivial, ?_⟩, ?_⟩, ?_⟩, ?_⟩, ?_⟩, ?_⟩, ?_⟩, ?_⟩, ?_⟩, ?_⟩, ?_⟩, ?_⟩, ?_⟩
   case refine_1 =>
    intro d val a' w' hS hF hd hp
    have e8 : a'.tmps[2]?.getD undef = .pointer (some ⟨w.heap.size, 0, none⟩) := hS.arg 2 (by kernel_rfl)
    refine Xa (v := .pointer (some ⟨w.heap.size, 0, none⟩)) _ rfl rfl ?_ (show SamR _ _ _ _ _ _ _ _ _ from ⟨hF.bel, hF.fx.step (.inr rfl), hF.v2, hF.v9⟩)
    clear hF hS hd hp
    go_simp
   case refine_2 =>
    intro d val a' w' hS hF hd hp
    have e1 : a'.tmps[5]?.getD undef = .pointer (some ⟨w.heap.size, 0, none⟩) := (hS.res 0 5 (hp 0 (by kernel_rfl)) rfl (by kernel_rfl)).trans (hF.fx 0 _ rfl (hp 0 (by kernel_rfl)))
    have b0' := B0.out.below hF.bel aO
    obtain ⟨y0, y1, y2, y3, y4, y5, y6, y7⟩ := b0'.c8
    refine Xa (v := .agg #[.bool (decide (q.num < 0)), .int .u64 (lo q.num.natAbs : Int), .string (mo q.num.natAbs), .int .u64 (lo ((qden q)) : Int), .string (mo ((qden q)))]) _ rfl rfl ?_ (show SamR _ _ _ _ _ _ _ _ _ from ⟨hF.bel, hF.fx.step (.inr rfl), hF.v2, hF.v9⟩)
    clear hF hS hd hp
    go_simp
   case refine_3 =>
    intro d val a' w' hS hF hd hp
    have e1 : a'.tmps[6]?.getD undef = .agg #[.bool (decide (q.num < 0)), .int .u64 (lo q.num.natAbs : Int), .string (mo q.num.natAbs), .int .u64 (lo ((qden q)) : Int), .string (mo ((qden q)))] := (hS.res 1 6 (hp 1 (by kernel_rfl)) rfl (by kernel_rfl)).trans (hF.fx 1 _ rfl (hp 1 (by kernel_rfl)))
    refine Jjm (Ψ := fun v w'' => SamR W _ _ _ _ _ (upI d 2) (Jf3 val 2 v) w'') _ rfl rfl (args := #[.agg #[.bool (decide (q.num < 0)), .int .u64 (lo q.num.natAbs : Int), .string (mo q.num.natAbs), .int .u64 (lo ((qden q)) : Int), .string (mo ((qden q)))]]) (w2 := w') (f := 60) ?_ ?_
    ·clear hF hS hd hp
     go_simp
    refine (HOU.out w').mono ?_
    rintro e w3 ⟨V, rfl, hV, j0⟩
    obtain ⟨a, A, l, c, A', l', c', rfl⟩ := hV.shape
    have hG := hF.next j0
    exact ⟨_, rfl, ⟨hG.bel, hG.fx.step (.inl rfl), fun _ => ⟨a, A, A', l, c, l', c', rfl, hV⟩, fun h => absurd (hG.v9 h).1 (by rw [hd]; decide)⟩⟩
   case refine_4 =>
    intro d val a' w' hS hF hd hp
    have e8 : a'.tmps[2]?.getD undef = .pointer (some ⟨w.heap.size, 0, none⟩) := hS.arg 2 (by kernel_rfl)
    refine Xa (v := .pointer (some ⟨w.heap.size, 5, none⟩)) _ rfl rfl ?_ (show SamR _ _ _ _ _ _ _ _ _ from ⟨hF.bel, hF.fx.step (.inr rfl), hF.v2, hF.v9⟩)
    clear hF hS hd hp
    go_simp
   case refine_5 =>
    intro d val a' w' hS hF hd hp
    have e1 : a'.tmps[8]?.getD undef = .pointer (some ⟨w.heap.size, 5, none⟩) := (hS.res 3 8 (hp 3 (by kernel_rfl)) rfl (by kernel_rfl)).trans (hF.fx 3 _ rfl (hp 3 (by kernel_rfl)))
    have b0' := B0.out.below hF.bel aO
    obtain ⟨y0, y1, y2, y3, y4, y5, y6, y7⟩ := b0'.c8
    refine Xa (v := .slice X1 n1 s1) _ rfl rfl ?_ (show SamR _ _ _ _ _ _ _ _ _ from ⟨hF.bel, hF.fx.step (.inr rfl), hF.v2, hF.v9⟩)
    clear hF hS hd hp
    go_simp
   case refine_6 =>
    intro d val a' w' hS hF hd hp
    have e8 : a'.tmps[2]?.getD undef = .pointer (some ⟨w.heap.size, 0, none⟩) := hS.arg 2 (by kernel_rfl)
    refine Xa (v := .pointer (some ⟨w.heap.size, 6, none⟩)) _ rfl rfl ?_ (show SamR _ _ _ _ _ _ _ _ _ from ⟨hF.bel, hF.fx.step (.inr rfl), hF.v2, hF.v9⟩)
    clear hF hS hd hp
    go_simp
   case refine_7 =>
    intro d val a' w' hS hF hd hp
    have e1 : a'.tmps[10]?.getD undef = .pointer (some ⟨w.heap.size, 6, none⟩) := (hS.res 5 10 (hp 5 (by kernel_rfl)) rfl (by kernel_rfl)).trans (hF.fx 5 _ rfl (hp 5 (by kernel_rfl)))
    have b0' := B0.out.below hF.bel aO
    obtain ⟨y0, y1, y2, y3, y4, y5, y6, y7⟩ := b0'.c8
    refine Xa (v := .slice X2 n2 s2) _ rfl rfl ?_ (show SamR _ _ _ _ _ _ _ _ _ from ⟨hF.bel, hF.fx.step (.inr rfl), hF.v2, hF.v9⟩)
    clear hF hS hd hp
    go_simp
   case refine_8 =>
    intro d val a' w' hS hF hd hp
    have e8 : a'.tmps[2]?.getD undef = .pointer (some ⟨w.heap.size, 0, none⟩) := hS.arg 2 (by kernel_rfl)
    refine Xa (v := .pointer (some ⟨w.heap.size, 7, none⟩)) _ rfl rfl ?_ (show SamR _ _ _ _ _ _ _ _ _ from ⟨hF.bel, hF.fx.step (.inr rfl), hF.v2, hF.v9⟩)
    clear hF hS hd hp
    go_simp
   case refine_9 =>
    intro d val a' w' hS hF hd hp
    have e1 : a'.tmps[12]?.getD undef = .pointer (some ⟨w.heap.size, 7, none⟩) := (hS.res 7 12 (hp 7 (by kernel_rfl)) rfl (by kernel_rfl)).trans (hF.fx 7 _ rfl (hp 7 (by kernel_rfl)))
    have b0' := B0.out.below hF.bel aO
    obtain ⟨y0, y1, y2, y3, y4, y5, y6, y7⟩ := b0'.c8
    refine Xa (v := .slice X3 n3 s3) _ rfl rfl ?_ (show SamR _ _ _ _ _ _ _ _ _ from ⟨hF.bel, hF.fx.step (.inr rfl), hF.v2, hF.v9⟩)
    clear hF hS hd hp
    go_simp
   case refine_10 =>
    intro d val a' w' hS hF hd hp
    have e1 := hS.res 2 7 (hp 2 (by kernel_rfl)) rfl (by kernel_rfl)
    have h2 := hp 2 (by kernel_rfl)
    obtain ⟨a, A, A', l, c, l', c', e, -⟩ := hF.v2 h2
    rw [e] at e1
    have e2 : a'.tmps[9]?.getD undef = .slice X1 n1 s1 := (hS.res 4 9 (hp 4 (by kernel_rfl)) rfl (by kernel_rfl)).trans (hF.fx 4 _ rfl (hp 4 (by kernel_rfl)))
    have e3 : a'.tmps[11]?.getD undef = .slice X2 n2 s2 := (hS.res 6 11 (hp 6 (by kernel_rfl)) rfl (by kernel_rfl)).trans (hF.fx 6 _ rfl (hp 6 (by kernel_rfl)))
    have e4 : a'.tmps[13]?.getD undef = .slice X3 n3 s3 := (hS.res 8 13 (hp 8 (by kernel_rfl)) rfl (by kernel_rfl)).trans (hF.fx 8 _ rfl (hp 8 (by kernel_rfl)))
    refine Xa (v := .agg #[.bool a, .slice A l c, .slice A' l' c', .slice X1 n1 s1, .slice X2 n2 s2, .slice X3 n3 s3]) _ rfl rfl ?_ (show SamR _ _ _ _ _ _ _ _ _ from ⟨hF.bel, hF.fx.step (.inl rfl), hF.v2, fun _ => ⟨h2, fun x y z (e' : val 2 = _) => by rw [e] at e'; injection e' with e'; obtain ⟨rfl, rfl, rfl⟩ := arr3 e'; rfl⟩⟩)
    clear hF hS hd hp
    go_simp
   case refine_11 =>
    intro d val a' w' hS hF hd hp
    have e8 : a'.tmps[3]?.getD undef = .pointer (some ⟨w.heap.size + 1, 0, none⟩) := hS.arg 3 (by kernel_rfl)
    have b1' := B1.out.below hF.bel bE
    obtain ⟨y0, y1, y2, y3, y4, y5⟩ := b1'.c6
    refine Xa (v := .agg #[.bool ng', .slice Y7 l7' d7', .slice Y8 l8' d8', .slice Y1 n1 c1', .slice Y2 n2 c2', .slice Y3 n3 c3']) _ rfl rfl ?_ (show SamR _ _ _ _ _ _ _ _ _ from ⟨hF.bel, hF.fx.step (.inr rfl), hF.v2, hF.v9⟩)
    clear hF hS hd hp
    go_simp
   case refine_12 =>
    intro d val a' w' hS hF hd hp
    have e1 := hS.res 9 14 (hp 9 (by kernel_rfl)) rfl (by kernel_rfl)
    obtain ⟨h2, h9⟩ := hF.v9 (hp 9 (by kernel_rfl))
    obtain ⟨a, A, A', l, c, l', c', e, hi⟩ := hF.v2 h2
    rw [h9 _ _ _ e] at e1
    have e2 : a'.tmps[15]?.getD undef = .agg #[.bool ng', .slice Y7 l7' d7', .slice Y8 l8' d8', .slice Y1 n1 c1', .slice Y2 n2 c2', .slice Y3 n3 c3'] := (hS.res 10 15 (hp 10 (by kernel_rfl)) rfl (by kernel_rfl)).trans (hF.fx 10 _ rfl (hp 10 (by kernel_rfl)))
    refine Jjm (Ψ := fun v w'' => SamR W _ _ _ _ _ (upI d 11) (Jf3 val 11 v) w'') _ rfl rfl (args := #[.agg #[.bool a, .slice A l c, .slice A' l' c', .slice X1 n1 s1, .slice X2 n2 s2, .slice X3 n3 s3], .agg #[.bool ng', .slice Y7 l7' d7', .slice Y8 l8' d8', .slice Y1 n1 c1', .slice Y2 n2 c2', .slice Y3 n3 c3']]) (w2 := w') (f := 59) ?_ ?_
    ·clear hF hS hd hp
     go_simp
    refine (HSA.out w' a A A' l c l' c' (HBW.out.trans (hF.bel.mono HBW.out.size)) hi).mono ?_
    rintro e w3 ⟨rfl, j0⟩
    have hG := hF.next j0
    exact ⟨_, rfl, ⟨hG.bel, hG.fx.step (.inr rfl), hG.v2, hG.v9⟩⟩
   case refine_13 =>
    intro d val a' w' hS hF hd hp
    have e1 : a'.tmps[16]?.getD undef = .bool true := (hS.res 11 16 (hp 11 (by kernel_rfl)) rfl (by kernel_rfl)).trans (hF.fx 11 _ rfl (hp 11 (by kernel_rfl)))
    refine Xa (v := .bool true) _ rfl rfl ?_ (show SamR _ _ _ _ _ _ _ _ _ from ⟨hF.bel, hF.fx.step (.inr rfl), hF.v2, hF.v9⟩)
    clear hF hS hd hp
    go_simp
  intro d val w' hF hd
  simp only [Exit.then, Jd7, Act.put, List.setIfInBounds_toArray, List.set_cons_succ, List.set_cons_zero]
  refine ‹∀ a' w', Met _ a' w' -> _› _ _ ?_
  go_meet
  exact ⟨hF.fx 12 _ rfl (hd 12 (by decide)), hF.bel⟩
 case rest =>
  obtain ⟨rfl, y9⟩ := hcut
  have HB9 := lh (HBW.out.trans (y9.mono HBW.out.size))
  clear y9
  go_wp2
  go_ret
  exact ⟨rfl, HB9.out⟩
theorem Jul (n : Int) (ws : List Int) (q : Rat) : (Jdk n ws q).2 = Jk (Jp6 n ws q) /\ (Jk (Jp6 n ws q) = 0 -> (Jdk n ws q).1 = Jp6 n ws q) := by
 cases hs : Xk n ws with
 | true =>
  have h1 : 1 <= n := by
   unfold Xk at hs
   simp only [Bool.and_eq_true, decide_eq_true_iff] at hs
   exact hs.1.1.1.1
  obtain ⟨N, rfl⟩ : ∃ N : Nat, n = (N : Int) := ⟨n.toNat, by omega⟩
  rw [Jp5 hs]
  unfold Jdk
  rw [hs, Int.toNat_natCast, if_neg (by decide)]
  split
  ·rename_i h2
   exact ⟨rfl, fun h3 => absurd h3 h2⟩
  rename_i h2
  have h3 : Jk (Uw N ws q) = 0 := by
   by_cases h4 : Jk (Uw N ws q) = 0
   ·exact h4
   exact absurd h4 h2
  exact ⟨h3.symm, fun _ => rfl⟩
 | false =>
  have h2 : Jk (Jp6 n ws q) = 5 := by
   have h3 : Xi (Jp6 n ws q) = false := by
    unfold Jp6
    split
    ·show (Xk 0 ws && _ && _) = false
     unfold Xk
     simp
    rename_i h4
    show (Xk ((List.replicate n.toNat (0 : Int)).length : Int) ws && _ && _) = false
    rw [List.length_replicate, show ((n.toNat : Nat) : Int) = n by omega, hs]
    rfl
   unfold Jk
   rw [if_pos h3]
  unfold Jdk
  rw [if_pos hs, h2]
  exact ⟨rfl, fun h => absurd h (by decide)⟩
theorem Juo {n : Int} {ws : List Int} {q : Rat} (h : ws.length <= 1000) : LenB (Jp6 n ws q) := by
 unfold Jp6
 split
 ·exact ⟨h, Nat.zero_le _, Nat.zero_le _, fun t ht => by cases ht⟩
 rename_i h2
 refine ⟨h, by rw [List.length_replicate]; omega, by rw [List.length_replicate]; omega, fun t ht => ?_⟩
 have e := List.eq_of_mem_replicate ht
 subst e
 refine ⟨by rw [List.length_map]; exact h, fun j9 hc => ?_⟩
 obtain ⟨x, -, rfl⟩ := List.mem_map.1 hc
 unfold Jqz
 rw [List.length_replicate]
 omega
theorem Juk {m : BM} (h : LenB m) (way a b : Int) : LenB (Jo6 m way a b) := by
 have dW : ∀ {l : List (List (List Int))} {k : Nat} {t : List (List Int)}, (∀ x ∈ l, x.length <= 1000 /\ ∀ j9 ∈ x, j9.length <= 1000) -> (t.length <= 1000 /\ ∀ j9 ∈ t, j9.length <= 1000) -> ∀ x ∈ l.set k t, x.length <= 1000 /\ ∀ j9 ∈ x, j9.length <= 1000 := fun h1 h2 x hx => (List.mem_or_eq_of_mem_set hx).elim (h1 x) fun e => e ▸ h2
 have aQ : ∀ k, ((m.counts.getD k []).length <= 1000 /\ ∀ j9 ∈ m.counts.getD k [], j9.length <= 1000) := fun k => by
  rw [List.getD_eq_getElem?_getD]
  cases e : m.counts[k]? with
  | none => exact ⟨Nat.zero_le _, fun j9 hc => by cases hc⟩
  | some t => exact h.rows t (List.mem_of_getElem? e)
 unfold Jo6
 simp only
 split
 ·exact ⟨h.words, by rw [List.length_set]; exact h.seen, h.counts, h.rows⟩
 split
 ·refine ⟨h.words, h.seen, by rw [List.length_set]; exact h.counts, dW h.rows ⟨by rw [List.length_set]; exact (aQ _).1, fun j9 hc => ?_⟩⟩
  rcases List.mem_or_eq_of_mem_set hc with h1 | rfl
  ·exact (aQ _).2 j9 h1
  rw [List.length_set, List.getD_eq_getElem?_getD]
  cases e : (m.counts.getD (a % (m.seen.length : Int)).toNat [])[((a.tdiv 3) % (m.words.length : Int)).toNat]? with
  | none => exact Nat.zero_le _
  | some j9 => exact (aQ _).2 j9 (List.mem_of_getElem? e)
 split
 ·exact ⟨h.words, h.seen, h.counts, h.rows⟩
 split
 ·exact ⟨by rw [List.length_set]; exact h.words, h.seen, h.counts, h.rows⟩
 split
 ·exact ⟨h.words, h.seen, by rw [List.length_set]; exact h.counts, dW h.rows ⟨by rw [List.length_drop]; have := (aQ (a % (m.seen.length : Int)).toNat).1; omega, fun j9 hc => (aQ _).2 j9 (List.mem_of_mem_drop hc)⟩⟩
 split
 ·exact ⟨h.words, by rw [List.length_drop]; have := h.seen; omega, h.counts, h.rows⟩
 split
 ·exact ⟨h.words, by rw [List.length_set]; exact h.seen, h.counts, h.rows⟩
 exact h
theorem Jum {m : BM} (h : QS 1000 m.smooth) (way a b : Int) : QS 1000 (Jo6 m way a b).smooth := by
 have hb : QS 1000 (((b % 9 - 2 : Int)) : Rat) := by
  have h0 : 0 <= b % 9 /\ b % 9 < 9 := by omega
  rcases Int.le_total 0 (b % 9 - 2) with h1 | h1
  ·exact (QS.cnt (k := 4) h1 (by omega) (by omega)).mono (by omega)
  have h2 := (QS.cnt (k := 4) (n := -(b % 9 - 2)) (by omega) (by omega) (by omega)).neg
  rw [show ((-(b % 9 - 2) : Int) : Rat) = -(((b % 9 - 2 : Int)) : Rat) from Rat.intCast_neg _, Rat.neg_neg] at h2
  exact h2.mono (by omega)
 unfold Jo6
 simp only
 split
 ·exact h
 split
 ·exact h
 split
 ·exact hb
 split
 ·exact h
 split
 ·exact h
 split
 ·exact h
 split
 ·exact h
 exact h
theorem Jud {ops : Array Oper} {tmps : Array Value} {o : Oper} {j : Nat} {t : Tmp} {b want : Bool} (hg : o.guard = some (j, want)) (hj : Ku ops j = some t) (hv : tmps[t]?.getD undef = .bool b) (hw : (b == want) = true) : Region.wanted o (yielded ops tmps) = true := by
 have h1 : tmps[t]? = some (.bool b) := by
  cases e : tmps[t]? with
  | none => rw [e] at hv; cases hv
  | some v => rw [e] at hv; exact congrArg some hv
 unfold Ku at hj
 unfold Region.wanted yielded
 rw [hg]
 simp only [hj, Option.bind_some, h1]
 cases b <;> cases want <;> first | rfl | cases hw
theorem Jue {ops : Array Oper} {tmps : Array Value} {o : Oper} {j : Nat} {t : Tmp} {b want : Bool} (hg : o.guard = some (j, want)) (hj : Ku ops j = some t) (hv : tmps[t]?.getD undef = .bool b) (hw : (b == want) = false) : Region.wanted o (yielded ops tmps) = false := by
 have h1 : tmps[t]? = some (.bool b) := by
  cases e : tmps[t]? with
  | none => rw [e] at hv; cases hv
  | some v => rw [e] at hv; exact congrArg some hv
 unfold Ku at hj
 unfold Region.wanted yielded
 rw [hg]
 simp only [hj, Option.bind_some, h1]
 cases b <;> cases want <;> first | rfl | cases hw
theorem Juj (w : World) : Calls Tryz.prog 22 #[.agg #[.bool false, .int .u64 0, .string ⟨#[]⟩, .int .u64 0, .string ⟨#[]⟩, .slice none 0 0, .slice none 0 0, .slice none 0 0]] w (Ret (.bool true) w) := by
 have fM := fun w => Vn 0 w ⟨by decide, by decide⟩
 rw [show qV 0 = .agg #[.bool false, .int .u64 0, .string ⟨#[]⟩, .int .u64 0, .string ⟨#[]⟩] from rfl] at fM
 have HSG := lh fM
 clear fM
 obtain ⟨b0, hB, hZ⟩ := bx1 w 43 #[.bool false, .int .u64 0, .string ⟨#[]⟩, .int .u64 0, .string ⟨#[]⟩, .slice none 0 0, .slice none 0 0, .slice none 0 0]
 go_enter Tryz.func22, Tryz.ntmps22
 go_upto_region 1 with fail
 generalize (w.alloc (.cells #[.bool false, .int .u64 0, .string ⟨#[]⟩, .int .u64 0, .string ⟨#[]⟩, .slice none 0 0, .slice none 0 0, .slice none 0 0] 43)) = W at *
 obtain ⟨x0, x1, x2, x3, x4, x5, x6, x7⟩ := b0.c8
 have B0' := lh b0
 have HB := lh hB
 clear b0 hB
 go_wp2_with fail
 refine (HSG.out _).mono ?_
 rintro e w1 ⟨rfl, q9⟩
 clear x0 x1 x2 x3 x4 x5 x6 x7
 obtain ⟨x0, x1, x2, x3, x4, x5, x6, x7⟩ := (B0'.out.below q9 B0'.out.lt).c8
 have HB1 := lh (HB.out.trans (q9.mono HB.out.size))
 clear q9
 go_wp2
 go_ret
 exact ⟨rfl, HB1.out⟩
def ckW (words : List Int) (k : Nat) : List Int := (List.range k).map fun i => words.getD i 0 % 16 - 1
theorem Jur (words : List Int) (k : Nat) : (ckW words k).length = k := by simp [ckW]
theorem Jup (words : List Int) (k : Nat) : ckW words (k + 1) = ckW words k ++ [words.getD k 0 % 16 - 1] := by
 unfold ckW
 rw [List.range_succ, List.map_append]
 rfl
theorem Juq (words : List Int) (k : Nat) : ∀ x ∈ ckW words k, -1 <= x /\ x <= 14 := fun x hx => by
 unfold ckW at hx
 obtain ⟨i, -, rfl⟩ := List.mem_map.1 hx
 omega
def CkM (f : Int) (D : BM) (g : Nat) (w : World) : Prop := (f = 0 /\ ∃ (W S C : SW), Blk w g 43 #[.bool (decide (D.smooth.num < 0)), .int .u64 (lo D.smooth.num.natAbs : Int), .string (mo D.smooth.num.natAbs), .int .u64 (lo ((qden D.smooth)) : Int), .string (mo ((qden D.smooth))), W.v, S.v, C.v] /\ RdB w w.heap.size W S C D) \/ (f ≠ 0 /\ Blk w g 43 #[.bool false, .int .u64 0, .string ⟨#[]⟩, .int .u64 0, .string ⟨#[]⟩, .slice none 0 0, .slice none 0 0, .slice none 0 0])
theorem CkM.next {f : Int} {D : BM} {g : Nat} {w w' : World} (h : CkM f D g w) (hb : Below w.heap.size w w') : CkM f D g w' := by
 rcases h with ⟨h0, W, S, C, hk, hr⟩ | ⟨h0, hk⟩
 ·exact .inl ⟨h0, W, S, C, hk.below hb hk.lt, (hr.below hb).more hb.size⟩
 exact .inr ⟨h0, hk.below hb hk.lt⟩
structure CkR (W : World) (M : BM) (FX : Nat -> Option Value) (d : Nat -> Bool) (val : Nat -> Value) (w : World) : Prop where
 bel : Below W.heap.size W w
 fx : Fixed FX d val
 v3 : d 3 = true -> ∃ (W' S C : SW), val 3 = .agg #[.bool (decide (M.smooth.num < 0)), .int .u64 (lo M.smooth.num.natAbs : Int), .string (mo M.smooth.num.natAbs), .int .u64 (lo ((qden M.smooth)) : Int), .string (mo ((qden M.smooth))), W'.v, S.v, C.v] /\ RdB w w.heap.size W' S C M
theorem CkR.next {W w w' : World} {M : BM} {FX : Nat -> Option Value} {d : Nat -> Bool} {val : Nat -> Value} (h : CkR W M FX d val w) (hb : Below w.heap.size w w') : CkR W M FX d val w' :=
 ⟨h.bel.trans (hb.mono h.bel.size), h.fx, fun h1 => by
  obtain ⟨W', S, C, e, hr⟩ := h.v3 h1
  exact ⟨W', S, C, e, (hr.below hb).more hb.size⟩⟩
theorem CkR.pure {W w : World} {M : BM} {FX : Nat -> Option Value} {d : Nat -> Bool} {val : Nat -> Value} {i : Nat} {x : Value} (h : CkR W M FX d val w) (hi : (3 == i) = false) (hx : FX i = some x) : CkR W M FX (upI d i) (Jf3 val i x) w :=
 ⟨h.bel, h.fx.step (.inr hx), fun h1 => by
  rw [Jkq hi] at h1
  rw [Jix hi]
  exact h.v3 h1⟩
theorem Slots.fx {ops : Array Oper} {a0 a : Act} {d : Nat -> Bool} {val : Nat -> Value} {FX : Nat -> Option Value} {j t : Nat} {v : Value} (h : Slots ops a0 d val a) (hf : Fixed FX d val) (hd : d j = true) (hj : Ku ops j = some t) (ht : Nat.blt t a0.tmps.size = true) (hv : FX j = some v) : a.tmps[t]?.getD undef = v := (h.res j t hd hj ht).trans (hf j v hv hd)
theorem Juf {ops : Array Oper} {tmps : Array Value} {o : Oper} {j : Nat} {t : Tmp} {want : Bool} (hg : o.guard = some (j, want)) (hj : Ku ops j = some t) (hv : tmps[t]?.getD undef = undef) : Region.wanted o (yielded ops tmps) = false := by
 unfold Ku at hj
 unfold Region.wanted yielded
 rw [hg]
 simp only [hj, Option.bind_some]
 cases e : tmps[t]? with
 | none => rfl
 | some v =>
  rw [e] at hv
  have hv : v = undef := hv
  subst hv
  rfl
theorem Jox (l : List Int) : ∀ (f : Nat) (m : BM) (i : Nat), (∃ n, DrawnB m n /\ n + f <= 1073741824) -> (Jop f m l i).smooth = m.smooth /\ (Jop f m l i).words = m.words
 | 0, m, i, _ => ⟨rfl, rfl⟩
 | f + 1, m, i, ⟨n, h, hn⟩ => by
  unfold Jop
  split
  ·obtain ⟨h1, h2⟩ := h.moved (h.rowOk (l.drop (i + 1))) (h.class_ (l.getD i 0)) (by omega)
   rw [h1, if_pos rfl]
   exact Jox l f _ _ ⟨n + 1, h2, by omega⟩
  exact ⟨rfl, rfl⟩
theorem Jqp (l : List Int) (classes cols smooth : Int) : QS 1000 (Jov l classes cols smooth).smooth := by
 have h := (Jox l 24 (Jo1 classes cols smooth) 0 ⟨0, Joz classes cols smooth, by omega⟩).1
 unfold Jov
 rw [h]
 show QS 1000 (((smooth % 4 + 1 : Int) : Rat) / (((smooth.tdiv 4) % 3 + 1 : Int) : Rat))
 rw [Rat.div_def]
 exact ((QS.cnt (k := 3) (by omega) (by omega) (by omega)).mul ((QS.cnt (k := 3) (by omega) (by omega) (by omega)).inv (by omega))).mono (by omega)
theorem Jpv (l : List Int) (classes cols smooth : Int) : LenB (Jov l classes cols smooth) := Za (Jpe l classes cols smooth).ok
theorem Jug (A : Option Addr) (n c : Nat) (l : List Int) (A' : Option Addr) (n' c' : Nat) (words : List Int) (classes cols smooth way at_ by_ num : Int) (w : World) (h : ReadsI w w.heap.size A n l) (eA : n <= c) (hc : c <= 9223372036854775807) (hl : ∀ x ∈ l, -9223372036854775808 <= x /\ x <= 9223372036854775807)
  (h' : ReadsI w w.heap.size A' n' words) (kH : n' <= 9223372036854775807) (iO : ∀ x ∈ words, -9223372036854775808 <= x /\ x <= 9223372036854775807) (i1 : -9223372036854775808 <= classes /\ classes <= 9223372036854775807) (i2 : -9223372036854775808 <= cols /\ cols <= 9223372036854775807) (i3 : -9223372036854775808 <= smooth /\ smooth <= 9223372036854775807) (i4 : -9223372036854775808 <= way /\ way <= 9223372036854775807) (i5 : -9223372036854775808 <= at_ /\ at_ <= 9223372036854775807) (i6 : -9223372036854775808 <= by_ /\ by_ <= 9223372036854775807) (i7 : -9223372036854775808 <= num /\ num <= 9223372036854775807) (hT : Tab w) :
  Calls Tryz.prog 3 #[.slice A n c, .slice A' n' c', .int .i64 classes, .int .i64 cols, .int .i64 smooth, .int .i64 way, .int .i64 at_, .int .i64 by_, .int .i64 num] w (Ret (.bool true) w) := by
 have t8 := Jpt A n c l classes cols smooth way at_ by_ w.heap.size w h zd eA hc hl i1 i2 i3 i4 i5 i6
 have bW := Jum (Jqp l classes cols smooth) way at_ by_
 have fN := Juk (Jpv l classes cols smooth) way at_ by_
 obtain ⟨M, hm⟩ : ∃ M, Jo6 (Jov l classes cols smooth) way at_ by_ = M := ⟨_, rfl⟩
 rw [hm] at t8 bW fN
 obtain ⟨K, hK⟩ : ∃ K, min n' 5 = K := ⟨_, rfl⟩
 have kI : K <= 5 /\ K <= n' := by omega
 have bA := fun w' => Jpd num 15 w' i7.1 i7.2 (by decide) (by decide)
 obtain ⟨tb, dL⟩ : ∃ tb, num % ((15 : Nat) : Int) = tb := ⟨_, rfl⟩
 rw [dL] at bA
 rw [show ((15 : Nat) : Int) = 15 from rfl] at dL bA
 have jT : 0 <= tb /\ tb < 15 := by omega
 obtain ⟨z, hz⟩ : ∃ z, tb - 1 = z := ⟨_, rfl⟩
 have kJ : IntKind.i64.wrap (tb - 1) = z := by rw [hz]; exact IntWalk.i64_in _ (by omega)
 have kK : -1 <= z /\ z <= 13 := by omega
 have hr := Jut smooth
 have fO := Jun smooth
 obtain ⟨q, hq⟩ : ∃ q, rOf smooth = q := ⟨_, rfl⟩
 rw [hq] at hr fO
 have bB := Jur words
 have bU := Juq words
 obtain ⟨WS, eE⟩ : ∃ WS, ckW words = WS := ⟨_, rfl⟩
 have bF : ∀ k, WS (k + 1) = WS k ++ [words.getD k 0 % 16 - 1] := fun k => by rw [<- eE]; exact Jup words k
 have dM : WS 0 = [] := by rw [<- eE]; rfl
 rw [eE] at bB bU
 have bV := Jul z (WS K) q
 have fP := Juo (n := z) (ws := WS K) (q := q) (by rw [bB]; omega)
 obtain ⟨D, hD⟩ : ∃ D, Jp6 z (WS K) q = D := ⟨_, rfl⟩
 obtain ⟨f, hf⟩ : ∃ f, Jk D = f := ⟨_, rfl⟩
 have iP : D.smooth = q := by rw [<- hD]; unfold Jp6; split <;> rfl
 obtain ⟨kM, iQ⟩ : ∃ kM, Jk M = kM := ⟨_, rfl⟩
 rw [hD, hf] at bV
 rw [hD] at fP
 have HDR := lh t8
 have HQ := lh (And.intro bW (And.intro fN iQ))
 have HD := lh (And.intro hD (And.intro hf (And.intro iP (And.intro bV fP))))
 have HP15 := lh bA
 have HR := lh (fun w => hr w i3.1 i3.2)
 have HRS := lh fO
 have HWS := lh (And.intro bB (And.intro bU (And.intro bF dM)))
 have HKK := lh hK
 have H' := lh (And.intro h' iO)
 have HT := lh hT
 have HKN := lh (fun w hT => Jgy w hT)
 clear t8 bW fN hm hK bA dL hz hr fO hq bB bU bF dM eE bV fP hD hf iP iQ h hl h' iO hT i1 i2 i3 i4 i5 i6 i7 eA hc
 go_enter Tryz.func3, Tryz.ntmps3
 go_wp2_with fail
 refine HDR.out.mono ?_
 rintro e w1 ⟨v, rfl, ⟨ng, A7, A8, l7, d7, l8, d8, ⟨X1, n1, c1⟩, ⟨X2, n2, c2⟩, ⟨X3, n3, c3⟩, rfl, aR, aA⟩, q9⟩
 simp only [SW.v]
 have HRD := lh (And.intro aR aA)
 have HB1 := lh q9
 clear aR aA q9 HDR
 go_upto_region 2 with fail
 have b19 := Blk.new w1 31 #[.bool ng, .slice A7 l7 d7, .slice A8 l8 d8, .slice X1 n1 c1, .slice X2 n2 c2, .slice X3 n3 c3]
 have j7 := Jb w1 (.cells #[.bool ng, .slice A7 l7 d7, .slice A8 l8 d8, .slice X1 n1 c1, .slice X2 n2 c2, .slice X3 n3 c3] 31)
 generalize w1.alloc (.cells #[.bool ng, .slice A7 l7 d7, .slice A8 l8 d8, .slice X1 n1 c1, .slice X2 n2 c2, .slice X3 n3 c3] 31) = w2 at *
 have HM2 := lh (And.intro ((HRD.out.1.below j7).more j7.size) ((HRD.out.2.below j7).more j7.size))
 have HB2 := lh (Ja HB1.out j7)
 have BK := lh b19
 have fQ := b19.lt
 clear j7 b19 HRD HB1
 generalize w1.heap.size = g19 at *
 go_upto_block 0 with fail
 go_cut [20] (fun v wc => ∃ AW cW, v = .slice AW K cW /\ Own wc 3 zv (.slice AW K cW) (WS K) /\ Below w2.heap.size w2 wc)
 case first =>
  as_aux_lemma =>
  go_wp2_with fail
  go_loopw [20, 21] (fun v p wr => ∃ k : Nat, k <= K /\ p = .int .i64 (k : Int) /\ Own wr 3 zv v (WS k) /\ (∀ b, v.ownBlock = some b -> w2.heap.size <= b) /\ Below w2.heap.size w2 wr) (fun _ p _ => K - (intOf p).toNat)
  case atStart => exact ⟨0, by omega, rfl, by rw [HWS.out.2.2.2]; exact Own.nil_ _ _ _, (fun b h => by cases h), Below.refl _ _⟩
  case round =>
   obtain ⟨k, hk, rfl, ho, aI, j6⟩ := hrel
   rename World => wr
   have HO := lh (And.intro ho (And.intro aI j6))
   obtain ⟨AV, cV, hv, -⟩ := ho.form
   rw [HWS.out.1] at hv
   subst hv
   by_cases gH : k < K
   ·have k1 : (k : Int) < (n' : Int) := by omega
    have k2 : (k : Int) < 5 := by omega
    obtain ⟨ad, x, rfl, aV, hx, aL⟩ := H'.out.1.at_ (show k < n' by omega)
    have jU := Qg (HB2.out.trans (j6.mono HB2.out.size)) aL aV
    have fR := H'.out.2 x (List.mem_of_getElem? hx)
    have eF := fun w' => Jpd x 16 w' fR.1 fR.2 (by decide) (by decide)
    rw [show ((16 : Nat) : Int) = 16 from rfl] at eF
    have bF := HWS.out.2.2.1 k
    rw [List.getD_eq_getElem?_getD, hx, Option.getD_some] at bF
    obtain ⟨y, hy⟩ : ∃ y, x % 16 = y := ⟨_, rfl⟩
    rw [hy] at eF bF
    have kL : 0 <= y /\ y < 16 := by omega
    obtain ⟨u, hu⟩ : ∃ u, y - 1 = u := ⟨_, rfl⟩
    have kN : IntKind.i64.wrap (y - 1) = u := by rw [hu]; exact IntWalk.i64_in _ (by omega)
    rw [hu] at bF
    have HPX := lh eF
    have HWN := lh bF
    clear eF bF hy hu hx aL fR ho aI j6
    go_wp2_with fail
    refine (HPX.out _).mono ?_
    rintro e w5 ⟨rfl, rfl⟩
    go_wp2_with (at_builtin; refine Joi (f := zv) Tryz.eltZ1 rfl (.tmp 45) (.tmp 52) rfl wr _ (WS k) u (.int .i64 u) rfl rfl HO.out.1 (by simp [Act.eval]) rfl (by rw [HWS.out.1]; unfold maxLen; omega) (by rw [HWS.out.1]; omega) ?_; intro v' w6 fS cA; have aK := HO.out.2.2.trans (cA.below HO.out.2.2.size HO.out.2.1); have iR := cA.fresh HO.out.2.2.size HO.out.2.1; rw [<- HWN.out] at fS; have H6 := lh (And.intro fS (And.intro iR aK)); clear aK iR fS cA)
    exact ⟨⟨k + 1, by omega, by go_num, H6.out.1, H6.out.2.1, H6.out.2.2⟩, by simp [intOf]; omega⟩
   obtain rfl : K = k := by omega
   clear ho aI j6
   by_cases kO : K < n'
   ·have k1 : (K : Int) < (n' : Int) := by omega
    have k2 : ¬ (K : Int) < 5 := by have := HKK.out; omega
    go_wp2_with fail
    go_meet
    exact ⟨_, _, rfl, HO.out.1, HO.out.2.2⟩
   have k1 : ¬ (K : Int) < (n' : Int) := by omega
   go_wp2_with fail
   go_meet
   exact ⟨_, _, rfl, HO.out.1, HO.out.2.2⟩
 case rest =>
  obtain ⟨AW, cW, rfl, ho, y9⟩ := hcut
  rename World => w3
  have HOW := lh (NRow.readsI (NRow.of ho))
  have HB3 := lh y9
  clear ho y9
  go_wp2_with fail
  refine (HP15.out _).mono ?_
  rintro e w4 ⟨rfl, rfl⟩
  rename World => w3
  go_wp2_with fail
  refine (HR.out _).mono ?_
  rintro e w4 ⟨v, rfl, aR, aU⟩
  obtain ⟨ng', Y7, m7, f7, Y8, m8, f8, rfl⟩ := aR.shape
  have HIQ := lh aR
  have HB4 := lh (HB3.out.trans (aU.mono HB3.out.size))
  have HOW4 := lh (rkindI.more (rkindI.below HOW.out aU) aU.size)
  clear aR aU HOW HB3
  go_upto_region 9 with fail
  have b22 := Blk.new w4 28 #[.bool ng', .slice Y7 m7 f7, .slice Y8 m8 f8]
  have l6 := Jb w4 (.cells #[.bool ng', .slice Y7 m7 f7, .slice Y8 m8 f8] 28)
  generalize w4.alloc (.cells #[.bool ng', .slice Y7 m7 f7, .slice Y8 m8 f8] 28) = w5 at *
  have HIQ5 := lh ((HIQ.out.below l6).more l6.size)
  have HB5 := lh (HB4.out.trans (l6.mono HB4.out.size))
  have HOW5 := lh (rkindI.more (rkindI.below HOW4.out l6) l6.size)
  have BQ := lh b22
  have fT := b22.lt
  obtain ⟨q0, q1, q2⟩ := b22.c3
  have HIN := lh (Jq2 q w5.heap.size (.agg #[.bool ng', .slice Y7 m7 f7, .slice Y8 m8 f8]) w5 HIQ5.out zd (HRS.out.mono (by omega)) (HT.out.next (HB2.out.trans (HB5.out.mono HB2.out.size))))
  clear l6 b22 HIQ HB4 HOW4
  generalize w4.heap.size = g22 at *
  go_cut [23, 24] (fun v u wc => ∃ g, v = .pointer (some ⟨g, 0, none⟩) /\ u = .int .i64 f /\ CkM f D g wc /\ Below w5.heap.size w5 wc)
  case first =>
   as_aux_lemma =>
   go_wp2_with fail
   refine HIN.out.mono ?_
   rintro e w6 ⟨rfl, aK⟩
   unfold qV
   have fU := Vp z AW K cW w6.heap.size (WS K) q w6 (rkindI.more (rkindI.below HOW5.out aK) aK.size) zd (by omega) (HRS.out.mono (by omega))
   obtain ⟨NB, aD⟩ : ∃ NB, Jdk z (WS K) q = NB := ⟨_, rfl⟩
   have bV := HD.out.2.2.2.1
   rw [aD] at fU bV
   have HNW := lh fU
   have HCK := lh bV
   have HB6 := lh aK
   clear fU bV aK aD
   go_wp2_with fail
   refine HNW.out.mono ?_
   rintro e w7 ⟨v, rfl, hv, aF⟩
   have HB7 := lh (HB6.out.trans (aF.mono HB6.out.size))
   rcases hv with ⟨h0, u, rfl, AV, cV, gS, gC, F, G, Hh, rfl, ho⟩ | ⟨h0, rfl⟩
   ·have aT : f = 0 := by rw [<- HCK.out.1]; exact h0
    have aD : NB.1 = D := HCK.out.2 aT
    rw [aD] at ho
    rw [aD]
    have HO := lh ho
    have HF0 := lh aT
    clear aF ho h0 aD aT
    go_wp2_with fail
    go_meet
    exact ⟨_, rfl, by rw [HF0.out], .inl ⟨HF0.out, _, _, _, Blk.new _ _ _, (HO.out.next (Jb _ _)).read⟩, HB7.out.trans ((Jb _ _).mono HB7.out.size)⟩
   have aT : f ≠ 0 := fun e => h0 (by rw [HCK.out.1]; exact e)
   have HF0 := lh aT
   rw [HCK.out.1]
   clear aF h0 aT
   go_wp2_with fail
   go_meet
   exact ⟨_, rfl, rfl, .inr ⟨HF0.out, Blk.new _ _ _⟩, HB7.out.trans ((Jb _ _).mono HB7.out.size)⟩
  case rest =>
   obtain ⟨g23, rfl, rfl, iS, y9⟩ := hcut
   rename World => w7
   have HCM := lh iS
   have HB7 := lh (HB5.out.trans (y9.mono HB5.out.size))
   clear q0 q1 q2 HIN
   obtain ⟨q0, q1, q2⟩ := (BQ.out.below y9 fT).c3
   have fV := Jqu z AW K cW (WS K) ng' Y7 Y8 m7 f7 m8 f8 w7.heap.size q w7 (rkindI.more (rkindI.below HOW5.out y9) y9.size) zd (by omega) (fun x hx => by have := HWS.out.2.1 K x hx; omega)
   rw [HD.out.1] at fV
   have HND := lh fV
   have HIQ7 := lh ((HIQ5.out.below y9).more y9.size)
   clear fV iS y9 HOW5 HIQ5
   go_wp2_with fail
   refine HND.out.mono ?_
   rintro e w8 ⟨v, rfl, ⟨⟨D1, v1, t1⟩, ⟨D2, v2, t2⟩, ⟨D3, v3, t3⟩, F, G, Hh, rfl, ho⟩, aH⟩
   simp only [SW.v]
   have HDO := lh ho
   have HCM8 := lh (HCM.out.next aH)
   have HB8 := lh (HB7.out.trans (aH.mono HB7.out.size))
   have HIQ8 := lh ((HIQ7.out.below aH).more aH.size)
   clear ho aH HND q0 q1 q2 HCM HIQ7
   go_upto_region 11 with fail
   have b25 := Blk.new w8 31 #[.bool ng', .slice Y7 m7 f7, .slice Y8 m8 f8, .slice D1 v1 t1, .slice D2 v2 t2, .slice D3 v3 t3]
   have s9 := Jb w8 (.cells #[.bool ng', .slice Y7 m7 f7, .slice Y8 m8 f8, .slice D1 v1 t1, .slice D2 v2 t2, .slice D3 v3 t3] 31)
   generalize w8.alloc (.cells #[.bool ng', .slice Y7 m7 f7, .slice Y8 m8 f8, .slice D1 v1 t1, .slice D2 v2 t2, .slice D3 v3 t3] 31) = w9 at *
   have HDR9 := lh ((HDO.out.next s9).read)
   have HCM9 := lh (HCM8.out.next s9)
   have HB9 := lh (HB8.out.trans (s9.mono HB8.out.size))
   have HIQ9 := lh ((HIQ8.out.below s9).more s9.size)
   have BD := lh b25
   have fW := b25.lt
   obtain ⟨y0, y1, y2, y3, y4, y5⟩ := b25.c6
   have fX := Jp2 ng' Y7 Y8 m7 f7 m8 f8 D1 D2 D3 v1 t1 v2 t2 v3 t3 w9.heap.size D w9 HDR9.out (by rw [HD.out.2.2.1]; exact HIQ9.out) zd HD.out.2.2.2.2
   rw [HD.out.2.1] at fX
   have HCD := lh fX
   clear s9 b25 fX HDO HCM8 HIQ8
   generalize w8.heap.size = g25 at *
   go_wp2_with fail
   refine HCD.out.mono ?_
   rintro e w10 ⟨rfl, t7⟩
   clear y0 y1 y2 y3 y4 y5
   have HCM := lh (HCM9.out.next t7)
   have HB10 := lh (HB9.out.trans (t7.mono HB9.out.size))
   have BKA := lh (BK.out.below HB10.out fQ)
   have eG := BKA.out.lt
   have BKD := lh (BD.out.below t7 fW)
   have jV := BKD.out.lt
   have HMA := lh (And.intro ((HM2.out.1.below HB10.out).more HB10.out.size) ((HM2.out.2.below HB10.out).more HB10.out.size))
   have HMD := lh (And.intro ((HIQ9.out.below t7).more t7.size) ((HDR9.out.below t7).more t7.size))
   have HTT := lh (HT.out.next (HB2.out.trans (HB10.out.mono HB2.out.size)))
   clear t7 HCD HCM9 HDR9 HIQ9 BD BK HB9
   go_wp2_with fail
   obtain ⟨b, B1, r1, B2, r2, B3, r3, kP⟩ : ∃ (b : Bool) (B1 : Option Addr) (r1 : Nat) (B2 : Option Addr) (r2 : Nat) (B3 : Option Addr) (r3 : Nat), (f != 0) = !b /\ (b = true -> f = 0 /\ Blk w10 g23 43 #[.bool (decide (D.smooth.num < 0)), .int .u64 (lo D.smooth.num.natAbs : Int), .string (mo D.smooth.num.natAbs), .int .u64 (lo ((qden D.smooth)) : Int), .string (mo ((qden D.smooth))), .slice B1 v1 r1, .slice B2 v2 r2, .slice B3 v3 r3] /\ RdB w10 w10.heap.size ⟨B1, v1, r1⟩ ⟨B2, v2, r2⟩ ⟨B3, v3, r3⟩ D) /\ (b = false -> Blk w10 g23 43 #[.bool false, .int .u64 0, .string ⟨#[]⟩, .int .u64 0, .string ⟨#[]⟩, .slice none 0 0, .slice none 0 0, .slice none 0 0]) := by
    rcases HCM.out with ⟨aT, ⟨B1, p1, r1⟩, ⟨B2, p2, r2⟩, ⟨B3, p3, r3⟩, hk, hr⟩ | ⟨aT, hk⟩
    ·simp only [SW.v] at hk
     obtain rfl : p1 = v1 := by
      have e1 : D.words.length = p1 := hr.words.len
      have e2 : D.words.length = v1 := HMD.out.2.words.len
      omega
     obtain rfl : p2 = v2 := by
      have e1 : D.seen.length = p2 := hr.seen.len
      have e2 : D.seen.length = v2 := HMD.out.2.seen.len
      omega
     obtain rfl : p3 = v3 := by
      have e1 : D.counts.length = p3 := ReadsS.len hr.counts
      have e2 : D.counts.length = v3 := ReadsS.len HMD.out.2.counts
      omega
     exact ⟨true, B1, r1, B2, r2, B3, r3, by rw [aT]; rfl, (fun _ => ⟨aT, hk, hr⟩), (fun h => by cases h)⟩
    exact ⟨false, none, 0, none, 0, none, 0, by simpa using aT, (fun h => by cases h), (fun _ => hk)⟩
   have HB := lh kP
   have u1 := kP.1
   have u2 : (f == f) = true := by simp
   clear kP HCM
   refine Je0 (CkR w10 M (fun j => ([some (.bool true), some (.bool true), some (.agg #[.bool ng, .slice A7 l7 d7, .slice A8 l8 d8, .slice X1 n1 c1, .slice X2 n2 c2, .slice X3 n3 c3]), none, some (.int .i64 kM), some (.agg #[.bool ng, .slice A7 l7 d7, .slice A8 l8 d8, .slice X1 n1 c1, .slice X2 n2 c2, .slice X3 n3 c3]), some (.int .i64 kM), some (.bool true), some (.bool true), some (.bool true), some (.int .i64 f), some (.int .i64 f), some (.bool true), some (.bool true), some (.bool true), some (.int .i64 f), some (.bool (!b)), some (.bool (!b)), some (bif b then undef else .agg #[.bool false, .int .u64 0, .string ⟨#[]⟩, .int .u64 0, .string ⟨#[]⟩, .slice none 0 0, .slice none 0 0, .slice none 0 0]), some (bif b then undef else .bool true), some (.bool (!b)), some (.bool (!b)), some (bif b then .int .i64 f else undef), some (bif b then .bool true else undef), some (bif b then .bool true else undef), some (bif b then .agg #[.bool (decide (D.smooth.num < 0)), .int .u64 (lo D.smooth.num.natAbs : Int), .string (mo D.smooth.num.natAbs), .int .u64 (lo ((qden D.smooth)) : Int), .string (mo ((qden D.smooth))), .slice B1 v1 r1, .slice B2 v2 r2, .slice B3 v3 r3] else undef), some (bif b then .agg #[.bool ng', .slice Y7 m7 f7, .slice Y8 m8 f8, .slice D1 v1 t1, .slice D2 v2 t2, .slice D3 v3 t3] else undef), some (bif b then .bool true else undef), some (bif b then .bool true else undef), some (.bool true), some (.bool true), some (.bool true)] : List (Option Value)).getD j none)) (by kernel_rfl) (by kernel_rfl) (by kernel_rfl) ?_ ?_ [some 73, some 74, some 75, some 76, some 77, some 78, some 79, some 80, some 81, some 82, some 83, some 84, some 85, some 86, some 87, some 88, some 89, some 90, some 91, some 92, some 93, some 94, some 95, some 96, some 97, some 98, some 99, some 100, some 101, some 102, some 103, some 18] rfl ?_
   ·constructor <;> first | exact Jt _ | exact Fixed.start _ _ | (intro h; cases h)
   ·refine ⟨⟨⟨⟨⟨⟨⟨⟨⟨⟨⟨⟨⟨⟨⟨⟨⟨⟨⟨⟨⟨⟨⟨⟨⟨⟨⟨⟨⟨⟨⟨⟨trivial, ?_⟩, ?_⟩, ?_⟩, ?_⟩, ?_⟩, ?_⟩, ?_⟩, ?_⟩, ?_⟩, ?_⟩, ?_⟩, ?_⟩, ?_⟩, ?_⟩, ?_⟩, ?_⟩, ?_⟩, ?_⟩, ?_⟩, ?_⟩, ?_⟩, ?_⟩, ?_⟩, ?_⟩, ?_⟩, ?_⟩, ?_⟩, ?_⟩, ?_⟩, ?_⟩, ?_⟩, ?_⟩ <;> intro d val a' w' hS hF hd hp
    case refine_1 =>
     refine Jjm (Ψ := fun v w'' => CkR w10 M _ (upI d 0) (Jf3 val 0 v) w'') _ rfl rfl (args := #[]) (w2 := w') (f := 19) ?_ ?_
     ·clear hF hS hd hp
      go_simp
     refine (HKN.out w' (HTT.out.next hF.bel)).mono ?_
     rintro e w3 ⟨rfl, j0⟩
     exact ⟨_, rfl, (hF.next j0).pure (i := 0) (by decide) rfl⟩
    case refine_2 =>
     have e1 := hS.fx hF.fx (j := 0) (t := 73) (hp 0 (by kernel_rfl)) rfl (by kernel_rfl) rfl
     refine Xa _ rfl rfl ?_ (hF.pure (i := 1) (by decide) rfl)
     clear hF hS hd hp
     go_simp
    case refine_3 =>
     have e9 := hS.fx hF.fx (j := 1) (t := 74) (hp 1 (by kernel_rfl)) rfl (by kernel_rfl) rfl
     have e8 : a'.tmps[19]?.getD undef = .pointer (some ⟨g19, 0, none⟩) := hS.arg 19 (by kernel_rfl)
     have b0' := BKA.out.below hF.bel eG
     obtain ⟨y0, y1, y2, y3, y4, y5⟩ := Blk.c6 b0'
     refine Xa _ rfl (Jud rfl rfl e9 rfl) ?_ (hF.pure (i := 2) (by decide) rfl)
     clear hF hS hd hp e9
     go_simp
    case refine_4 =>
     have e9 := hS.fx hF.fx (j := 1) (t := 74) (hp 1 (by kernel_rfl)) rfl (by kernel_rfl) rfl
     have e1 := hS.fx hF.fx (j := 2) (t := 75) (hp 2 (by kernel_rfl)) rfl (by kernel_rfl) rfl
     refine Jjm (Ψ := fun v w'' => CkR w10 M _ (upI d 3) (Jf3 val 3 v) w'') _ rfl (Jud rfl rfl e9 rfl) (args := #[.agg #[.bool ng, .slice A7 l7 d7, .slice A8 l8 d8, .slice X1 n1 c1, .slice X2 n2 c2, .slice X3 n3 c3]]) (w2 := w') (f := 21) ?_ ?_
     ·clear hF hS hd hp e9
      go_simp
     refine (Jqw ng A7 A8 l7 d7 l8 d8 X1 X2 X3 n1 c1 n2 c2 n3 c3 w'.heap.size M w' ((HMA.out.2.below hF.bel).more hF.bel.size) ((HMA.out.1.below hF.bel).more hF.bel.size) zd HQ.out.2.1 (HQ.out.1.mono (by omega)) (HTT.out.next hF.bel)).mono ?_
     rintro e w3 ⟨v, rfl, ⟨W', S, C, F1, G1, H1, rfl, ho⟩, j0⟩
     have hG := hF.next j0
     exact ⟨_, rfl, ⟨hG.bel, hG.fx.step (.inl rfl), fun _ => ⟨W', S, C, rfl, ho.read⟩⟩⟩
    case refine_5 =>
     have e9 := hS.fx hF.fx (j := 1) (t := 74) (hp 1 (by kernel_rfl)) rfl (by kernel_rfl) rfl
     have e1 := hS.res 3 76 (hp 3 (by kernel_rfl)) rfl (by kernel_rfl)
     obtain ⟨⟨Z1, z1, x1⟩, ⟨Z2, z2, x2⟩, ⟨Z3, z3, x3⟩, e3, aA⟩ := hF.v3 (hp 3 (by kernel_rfl))
     simp only [SW.v] at e3
     rw [e3] at e1
     refine Jjm (Ψ := fun v w'' => CkR w10 M _ (upI d 4) (Jf3 val 4 v) w'') _ rfl (Jud rfl rfl e9 rfl) (args := #[.agg #[.bool (decide (M.smooth.num < 0)), .int .u64 (lo M.smooth.num.natAbs : Int), .string (mo M.smooth.num.natAbs), .int .u64 (lo ((qden M.smooth)) : Int), .string (mo ((qden M.smooth))), .slice Z1 z1 x1, .slice Z2 z2 x2, .slice Z3 z3 x3]]) (w2 := w') (f := 20) ?_ ?_
     ·clear hF hS hd hp e9
      go_simp
     have y8 := Zm Z1 Z2 Z3 z1 x1 z2 x2 z3 x3 w'.heap.size M w' aA zd HQ.out.2.1 (HQ.out.1.mono (by omega))
     rw [HQ.out.2.2] at y8
     refine y8.mono ?_
     rintro e w3 ⟨rfl, j0⟩
     exact ⟨_, rfl, (hF.next j0).pure (i := 4) (by decide) rfl⟩
    case refine_6 =>
     have e9 := hS.fx hF.fx (j := 1) (t := 74) (hp 1 (by kernel_rfl)) rfl (by kernel_rfl) rfl
     have e8 : a'.tmps[19]?.getD undef = .pointer (some ⟨g19, 0, none⟩) := hS.arg 19 (by kernel_rfl)
     have b0' := BKA.out.below hF.bel eG
     obtain ⟨y0, y1, y2, y3, y4, y5⟩ := Blk.c6 b0'
     refine Xa _ rfl (Jud rfl rfl e9 rfl) ?_ (hF.pure (i := 5) (by decide) rfl)
     clear hF hS hd hp e9
     go_simp
    case refine_7 =>
     have e9 := hS.fx hF.fx (j := 1) (t := 74) (hp 1 (by kernel_rfl)) rfl (by kernel_rfl) rfl
     have e1 := hS.fx hF.fx (j := 5) (t := 78) (hp 5 (by kernel_rfl)) rfl (by kernel_rfl) rfl
     have y8 := Jp2 ng A7 A8 l7 d7 l8 d8 X1 X2 X3 n1 c1 n2 c2 n3 c3 w'.heap.size M w' ((HMA.out.2.below hF.bel).more hF.bel.size) ((HMA.out.1.below hF.bel).more hF.bel.size) zd HQ.out.2.1
     rw [HQ.out.2.2] at y8
     refine Jjm (Ψ := fun v w'' => CkR w10 M _ (upI d 6) (Jf3 val 6 v) w'') _ rfl (Jud rfl rfl e9 rfl) (args := #[.agg #[.bool ng, .slice A7 l7 d7, .slice A8 l8 d8, .slice X1 n1 c1, .slice X2 n2 c2, .slice X3 n3 c3]]) (w2 := w') (f := 18) ?_ ?_
     ·clear hF hS hd hp e9
      go_simp
     refine (y8).mono ?_
     rintro e w3 ⟨rfl, j0⟩
     exact ⟨_, rfl, (hF.next j0).pure (i := 6) (by decide) rfl⟩
    case refine_8 =>
     have e9 := hS.fx hF.fx (j := 1) (t := 74) (hp 1 (by kernel_rfl)) rfl (by kernel_rfl) rfl
     have e1 := hS.fx hF.fx (j := 4) (t := 77) (hp 4 (by kernel_rfl)) rfl (by kernel_rfl) rfl
     have e2 := hS.fx hF.fx (j := 6) (t := 79) (hp 6 (by kernel_rfl)) rfl (by kernel_rfl) rfl
     refine Xa _ rfl (Jud rfl rfl e9 rfl) ?_ (hF.pure (i := 7) (by decide) rfl)
     clear hF hS hd hp e9
     go_simp
    case refine_9 =>
     have e1 := hS.fx hF.fx (j := 1) (t := 74) (hp 1 (by kernel_rfl)) rfl (by kernel_rfl) rfl
     have e2 := hS.fx hF.fx (j := 7) (t := 80) (hp 7 (by kernel_rfl)) rfl (by kernel_rfl) rfl
     refine Xa _ rfl rfl ?_ (hF.pure (i := 8) (by decide) rfl)
     clear hF hS hd hp
     go_simp
    case refine_10 =>
     have e1 := hS.fx hF.fx (j := 8) (t := 81) (hp 8 (by kernel_rfl)) rfl (by kernel_rfl) rfl
     refine Xa _ rfl rfl ?_ (hF.pure (i := 9) (by decide) rfl)
     clear hF hS hd hp
     go_simp
    case refine_11 =>
     have e9 := hS.fx hF.fx (j := 9) (t := 82) (hp 9 (by kernel_rfl)) rfl (by kernel_rfl) rfl
     have e8 : a'.tmps[24]?.getD undef = .int .i64 f := hS.arg 24 (by kernel_rfl)
     refine Xa _ rfl (Jud rfl rfl e9 rfl) ?_ (hF.pure (i := 10) (by decide) rfl)
     clear hF hS hd hp e9
     go_simp
    case refine_12 =>
     have e9 := hS.fx hF.fx (j := 9) (t := 82) (hp 9 (by kernel_rfl)) rfl (by kernel_rfl) rfl
     have e8 : a'.tmps[26]?.getD undef = .int .i64 f := hS.arg 26 (by kernel_rfl)
     refine Xa _ rfl (Jud rfl rfl e9 rfl) ?_ (hF.pure (i := 11) (by decide) rfl)
     clear hF hS hd hp e9
     go_simp
    case refine_13 =>
     have e9 := hS.fx hF.fx (j := 9) (t := 82) (hp 9 (by kernel_rfl)) rfl (by kernel_rfl) rfl
     have e1 := hS.fx hF.fx (j := 10) (t := 83) (hp 10 (by kernel_rfl)) rfl (by kernel_rfl) rfl
     have e2 := hS.fx hF.fx (j := 11) (t := 84) (hp 11 (by kernel_rfl)) rfl (by kernel_rfl) rfl
     refine Xa _ rfl (Jud rfl rfl e9 rfl) ?_ (hF.pure (i := 12) (by decide) rfl)
     clear hF hS hd hp e9
     go_simp
    case refine_14 =>
     have e1 := hS.fx hF.fx (j := 9) (t := 82) (hp 9 (by kernel_rfl)) rfl (by kernel_rfl) rfl
     have e2 := hS.fx hF.fx (j := 12) (t := 85) (hp 12 (by kernel_rfl)) rfl (by kernel_rfl) rfl
     refine Xa _ rfl rfl ?_ (hF.pure (i := 13) (by decide) rfl)
     clear hF hS hd hp
     go_simp
    case refine_15 =>
     have e1 := hS.fx hF.fx (j := 13) (t := 86) (hp 13 (by kernel_rfl)) rfl (by kernel_rfl) rfl
     refine Xa _ rfl rfl ?_ (hF.pure (i := 14) (by decide) rfl)
     clear hF hS hd hp
     go_simp
    case refine_16 =>
     have e9 := hS.fx hF.fx (j := 14) (t := 87) (hp 14 (by kernel_rfl)) rfl (by kernel_rfl) rfl
     have e8 : a'.tmps[26]?.getD undef = .int .i64 f := hS.arg 26 (by kernel_rfl)
     refine Xa _ rfl (Jud rfl rfl e9 rfl) ?_ (hF.pure (i := 15) (by decide) rfl)
     clear hF hS hd hp e9
     go_simp
    case refine_17 =>
     have e9 := hS.fx hF.fx (j := 14) (t := 87) (hp 14 (by kernel_rfl)) rfl (by kernel_rfl) rfl
     have e1 := hS.fx hF.fx (j := 15) (t := 88) (hp 15 (by kernel_rfl)) rfl (by kernel_rfl) rfl
     refine Xa _ rfl (Jud rfl rfl e9 rfl) ?_ (hF.pure (i := 16) (by decide) rfl)
     clear hF hS hd hp e9
     go_simp
    case refine_18 =>
     have e9 := hS.fx hF.fx (j := 14) (t := 87) (hp 14 (by kernel_rfl)) rfl (by kernel_rfl) rfl
     have e1 := hS.fx hF.fx (j := 16) (t := 89) (hp 16 (by kernel_rfl)) rfl (by kernel_rfl) rfl
     refine Xa _ rfl (Jud rfl rfl e9 rfl) ?_ (hF.pure (i := 17) (by decide) rfl)
     clear hF hS hd hp e9
     go_simp
    case refine_19 =>
     cases b with
     | true =>
      have e9 := hS.fx hF.fx (j := 17) (t := 90) (hp 17 (by kernel_rfl)) rfl (by kernel_rfl) rfl
      exact Jo8 _ rfl (Jue rfl rfl e9 rfl) (hF.pure (i := 18) (by decide) rfl)
     | false =>
      have e9 := hS.fx hF.fx (j := 17) (t := 90) (hp 17 (by kernel_rfl)) rfl (by kernel_rfl) rfl
      have e8 : a'.tmps[23]?.getD undef = .pointer (some ⟨g23, 0, none⟩) := hS.arg 23 (by kernel_rfl)
      have b0' := Blk.below (HB.out.2.2 rfl) hF.bel (HB.out.2.2 rfl).lt
      obtain ⟨y0, y1, y2, y3, y4, y5, y6, y7⟩ := Blk.c8 b0'
      refine Xa _ rfl (Jud rfl rfl e9 rfl) ?_ (hF.pure (i := 18) (by decide) rfl)
      clear hF hS hd hp e9
      go_simp
    case refine_20 =>
     cases b with
     | true =>
      have e9 := hS.fx hF.fx (j := 17) (t := 90) (hp 17 (by kernel_rfl)) rfl (by kernel_rfl) rfl
      exact Jo8 _ rfl (Jue rfl rfl e9 rfl) (hF.pure (i := 19) (by decide) rfl)
     | false =>
      have e9 := hS.fx hF.fx (j := 17) (t := 90) (hp 17 (by kernel_rfl)) rfl (by kernel_rfl) rfl
      have e1 := hS.fx hF.fx (j := 18) (t := 91) (hp 18 (by kernel_rfl)) rfl (by kernel_rfl) rfl
      refine Jjm (Ψ := fun v w'' => CkR w10 M _ (upI d 19) (Jf3 val 19 v) w'') _ rfl (Jud rfl rfl e9 rfl) (args := #[.agg #[.bool false, .int .u64 0, .string ⟨#[]⟩, .int .u64 0, .string ⟨#[]⟩, .slice none 0 0, .slice none 0 0, .slice none 0 0]]) (w2 := w') (f := 22) ?_ ?_
      ·clear hF hS hd hp e9
       go_simp
      refine (Juj w').mono ?_
      rintro e w3 ⟨rfl, j0⟩
      exact ⟨_, rfl, (hF.next j0).pure (i := 19) (by decide) rfl⟩
    case refine_21 =>
     cases b with
     | true =>
      have e9 := hS.fx hF.fx (j := 14) (t := 87) (hp 14 (by kernel_rfl)) rfl (by kernel_rfl) rfl
      have e1 := hS.fx hF.fx (j := 17) (t := 90) (hp 17 (by kernel_rfl)) rfl (by kernel_rfl) rfl
      have e2 := hS.fx hF.fx (j := 19) (t := 92) (hp 19 (by kernel_rfl)) rfl (by kernel_rfl) rfl
      refine Xa _ rfl (Jud rfl rfl e9 rfl) ?_ (hF.pure (i := 20) (by decide) rfl)
      clear hF hS hd hp e9
      go_simp
     | false =>
      have e9 := hS.fx hF.fx (j := 14) (t := 87) (hp 14 (by kernel_rfl)) rfl (by kernel_rfl) rfl
      have e1 := hS.fx hF.fx (j := 17) (t := 90) (hp 17 (by kernel_rfl)) rfl (by kernel_rfl) rfl
      have e2 := hS.fx hF.fx (j := 19) (t := 92) (hp 19 (by kernel_rfl)) rfl (by kernel_rfl) rfl
      refine Xa _ rfl (Jud rfl rfl e9 rfl) ?_ (hF.pure (i := 20) (by decide) rfl)
      clear hF hS hd hp e9
      go_simp
    case refine_22 =>
     have e9 := hS.fx hF.fx (j := 14) (t := 87) (hp 14 (by kernel_rfl)) rfl (by kernel_rfl) rfl
     have e1 := hS.fx hF.fx (j := 20) (t := 93) (hp 20 (by kernel_rfl)) rfl (by kernel_rfl) rfl
     refine Xa _ rfl (Jud rfl rfl e9 rfl) ?_ (hF.pure (i := 21) (by decide) rfl)
     clear hF hS hd hp e9
     go_simp
    case refine_23 =>
     cases b with
     | true =>
      have e9 := hS.fx hF.fx (j := 21) (t := 94) (hp 21 (by kernel_rfl)) rfl (by kernel_rfl) rfl
      have e8 : a'.tmps[26]?.getD undef = .int .i64 f := hS.arg 26 (by kernel_rfl)
      refine Xa _ rfl (Jud rfl rfl e9 rfl) ?_ (hF.pure (i := 22) (by decide) rfl)
      clear hF hS hd hp e9
      go_simp
     | false =>
      have e9 := hS.fx hF.fx (j := 21) (t := 94) (hp 21 (by kernel_rfl)) rfl (by kernel_rfl) rfl
      exact Jo8 _ rfl (Jue rfl rfl e9 rfl) (hF.pure (i := 22) (by decide) rfl)
    case refine_24 =>
     cases b with
     | true =>
      have u3 := (HB.out.2.1 rfl).1
      have e9 := hS.fx hF.fx (j := 21) (t := 94) (hp 21 (by kernel_rfl)) rfl (by kernel_rfl) rfl
      have e1 := hS.fx hF.fx (j := 22) (t := 95) (hp 22 (by kernel_rfl)) rfl (by kernel_rfl) rfl
      refine Xa _ rfl (Jud rfl rfl e9 rfl) ?_ (hF.pure (i := 23) (by decide) rfl)
      clear hF hS hd hp e9
      go_simp
     | false =>
      have e9 := hS.fx hF.fx (j := 21) (t := 94) (hp 21 (by kernel_rfl)) rfl (by kernel_rfl) rfl
      exact Jo8 _ rfl (Jue rfl rfl e9 rfl) (hF.pure (i := 23) (by decide) rfl)
    case refine_25 =>
     cases b with
     | true =>
      have e9 := hS.fx hF.fx (j := 21) (t := 94) (hp 21 (by kernel_rfl)) rfl (by kernel_rfl) rfl
      have e1 := hS.fx hF.fx (j := 23) (t := 96) (hp 23 (by kernel_rfl)) rfl (by kernel_rfl) rfl
      refine Xa _ rfl (Jud rfl rfl e9 rfl) ?_ (hF.pure (i := 24) (by decide) rfl)
      clear hF hS hd hp e9
      go_simp
     | false =>
      have e9 := hS.fx hF.fx (j := 21) (t := 94) (hp 21 (by kernel_rfl)) rfl (by kernel_rfl) rfl
      exact Jo8 _ rfl (Jue rfl rfl e9 rfl) (hF.pure (i := 24) (by decide) rfl)
    case refine_26 =>
     cases b with
     | true =>
      have e9 := hS.fx hF.fx (j := 24) (t := 97) (hp 24 (by kernel_rfl)) rfl (by kernel_rfl) rfl
      have e8 : a'.tmps[23]?.getD undef = .pointer (some ⟨g23, 0, none⟩) := hS.arg 23 (by kernel_rfl)
      have b0' := Blk.below (HB.out.2.1 rfl).2.1 hF.bel (HB.out.2.1 rfl).2.1.lt
      obtain ⟨y0, y1, y2, y3, y4, y5, y6, y7⟩ := Blk.c8 b0'
      refine Xa _ rfl (Jud rfl rfl e9 rfl) ?_ (hF.pure (i := 25) (by decide) rfl)
      clear hF hS hd hp e9
      go_simp
     | false =>
      have e9 := hS.fx hF.fx (j := 24) (t := 97) (hp 24 (by kernel_rfl)) rfl (by kernel_rfl) rfl
      exact Jo8 _ rfl (Juf rfl rfl e9) (hF.pure (i := 25) (by decide) rfl)
    case refine_27 =>
     cases b with
     | true =>
      have e9 := hS.fx hF.fx (j := 24) (t := 97) (hp 24 (by kernel_rfl)) rfl (by kernel_rfl) rfl
      have e8 : a'.tmps[25]?.getD undef = .pointer (some ⟨g25, 0, none⟩) := hS.arg 25 (by kernel_rfl)
      have b0' := BKD.out.below hF.bel jV
      obtain ⟨y0, y1, y2, y3, y4, y5⟩ := Blk.c6 b0'
      refine Xa _ rfl (Jud rfl rfl e9 rfl) ?_ (hF.pure (i := 26) (by decide) rfl)
      clear hF hS hd hp e9
      go_simp
     | false =>
      have e9 := hS.fx hF.fx (j := 24) (t := 97) (hp 24 (by kernel_rfl)) rfl (by kernel_rfl) rfl
      exact Jo8 _ rfl (Juf rfl rfl e9) (hF.pure (i := 26) (by decide) rfl)
    case refine_28 =>
     cases b with
     | true =>
      have e9 := hS.fx hF.fx (j := 24) (t := 97) (hp 24 (by kernel_rfl)) rfl (by kernel_rfl) rfl
      have e1 := hS.fx hF.fx (j := 25) (t := 98) (hp 25 (by kernel_rfl)) rfl (by kernel_rfl) rfl
      have e2 := hS.fx hF.fx (j := 26) (t := 99) (hp 26 (by kernel_rfl)) rfl (by kernel_rfl) rfl
      refine Jjm (Ψ := fun v w'' => CkR w10 M _ (upI d 27) (Jf3 val 27 v) w'') _ rfl (Jud rfl rfl e9 rfl) (args := #[.agg #[.bool (decide (D.smooth.num < 0)), .int .u64 (lo D.smooth.num.natAbs : Int), .string (mo D.smooth.num.natAbs), .int .u64 (lo ((qden D.smooth)) : Int), .string (mo ((qden D.smooth))), .slice B1 v1 r1, .slice B2 v2 r2, .slice B3 v3 r3], .agg #[.bool ng', .slice Y7 m7 f7, .slice Y8 m8 f8, .slice D1 v1 t1, .slice D2 v2 t2, .slice D3 v3 t3]]) (w2 := w') (f := 23) ?_ ?_
      ·clear hF hS hd hp e9
       go_simp
      refine (Jrn B1 B2 B3 v1 r1 v2 r2 v3 r3 ng' Y7 Y8 m7 f7 m8 f8 D1 D2 D3 t1 t2 t3 w'.heap.size D w' (((HB.out.2.1 rfl).2.2.below hF.bel).more hF.bel.size) ((HMD.out.2.below hF.bel).more hF.bel.size) (by rw [HD.out.2.2.1]; exact (HMD.out.1.below hF.bel).more hF.bel.size) zd HD.out.2.2.2.2 (by rw [HD.out.2.2.1]; exact HRS.out.mono (by omega))).mono ?_
      rintro e w3 ⟨rfl, j0⟩
      exact ⟨_, rfl, (hF.next j0).pure (i := 27) (by decide) rfl⟩
     | false =>
      have e9 := hS.fx hF.fx (j := 24) (t := 97) (hp 24 (by kernel_rfl)) rfl (by kernel_rfl) rfl
      exact Jo8 _ rfl (Juf rfl rfl e9) (hF.pure (i := 27) (by decide) rfl)
    case refine_29 =>
     cases b with
     | true =>
      have e9 := hS.fx hF.fx (j := 21) (t := 94) (hp 21 (by kernel_rfl)) rfl (by kernel_rfl) rfl
      have e1 := hS.fx hF.fx (j := 24) (t := 97) (hp 24 (by kernel_rfl)) rfl (by kernel_rfl) rfl
      have e2 := hS.fx hF.fx (j := 27) (t := 100) (hp 27 (by kernel_rfl)) rfl (by kernel_rfl) rfl
      refine Xa _ rfl (Jud rfl rfl e9 rfl) ?_ (hF.pure (i := 28) (by decide) rfl)
      clear hF hS hd hp e9
      go_simp
     | false =>
      have e9 := hS.fx hF.fx (j := 21) (t := 94) (hp 21 (by kernel_rfl)) rfl (by kernel_rfl) rfl
      exact Jo8 _ rfl (Jue rfl rfl e9 rfl) (hF.pure (i := 28) (by decide) rfl)
    case refine_30 =>
     cases b with
     | true =>
      have e9 := hS.fx hF.fx (j := 14) (t := 87) (hp 14 (by kernel_rfl)) rfl (by kernel_rfl) rfl
      have e1 := hS.fx hF.fx (j := 21) (t := 94) (hp 21 (by kernel_rfl)) rfl (by kernel_rfl) rfl
      have e2 := hS.fx hF.fx (j := 28) (t := 101) (hp 28 (by kernel_rfl)) rfl (by kernel_rfl) rfl
      refine Xa _ rfl (Jud rfl rfl e9 rfl) ?_ (hF.pure (i := 29) (by decide) rfl)
      clear hF hS hd hp e9
      go_simp
     | false =>
      have e9 := hS.fx hF.fx (j := 14) (t := 87) (hp 14 (by kernel_rfl)) rfl (by kernel_rfl) rfl
      have e1 := hS.fx hF.fx (j := 21) (t := 94) (hp 21 (by kernel_rfl)) rfl (by kernel_rfl) rfl
      have e2 := hS.fx hF.fx (j := 28) (t := 101) (hp 28 (by kernel_rfl)) rfl (by kernel_rfl) rfl
      refine Xa _ rfl (Jud rfl rfl e9 rfl) ?_ (hF.pure (i := 29) (by decide) rfl)
      clear hF hS hd hp e9
      go_simp
    case refine_31 =>
     have e1 := hS.fx hF.fx (j := 14) (t := 87) (hp 14 (by kernel_rfl)) rfl (by kernel_rfl) rfl
     have e2 := hS.fx hF.fx (j := 29) (t := 102) (hp 29 (by kernel_rfl)) rfl (by kernel_rfl) rfl
     refine Xa _ rfl rfl ?_ (hF.pure (i := 30) (by decide) rfl)
     clear hF hS hd hp
     go_simp
    case refine_32 =>
     have e1 := hS.fx hF.fx (j := 30) (t := 103) (hp 30 (by kernel_rfl)) rfl (by kernel_rfl) rfl
     refine Xa _ rfl rfl ?_ (hF.pure (i := 31) (by decide) rfl)
     clear hF hS hd hp
     go_simp
   intro d val w' hF hd
   have e31 := hF.fx 31 _ rfl (hd 31 (by decide))
   simp only [Exit.inBlock, Exit.then, Jd7, Act.put, List.setIfInBounds_toArray, List.set_cons_succ, List.set_cons_zero]
   rw [e31]
   have HBL := lh (HB2.out.trans ((HB10.out.trans (hF.bel.mono HB10.out.size)).mono HB2.out.size))
   clear hF hd e31
   refine ‹∀ (a' : Act) (w' : World), _ -> _› _ _ ?_
   go_wp2_with fail
   go_ret
   exact ⟨rfl, HBL.out⟩
