import Derived.Test.YtcoloflmigcphaaGreatDoorBayesC
import Derived.Test.YtcoloflmigcphaaGreatDoorHandRows
import Derived.Test.YtcoloflmigcphaaGreatDoorBayesY
namespace Go.Proofs.YtcoloflmigcphaaGreatDoor
set_option maxRecDepth 100000
set_option maxHeartbeats 8000000
open Go.RowKit
set_option linter.all false
theorem Jlf : LenB kn0 := Za Jj0
theorem Jle : LenB kn1 := Za Jjz
theorem Jaj (w : World) (x : Int) : ReadsI (w.alloc (.cells #[.int .i64 x] 3)) (w.alloc (.cells #[.int .i64 x] 3)).heap.size (some ⟨w.heap.size, 0, none⟩) 1 [x] := rkindI.more (Reads.one w (zv x) _) (by show w.heap.size + 1 <= (w.heap.push _).size; rw [Array.size_push]; exact Nat.le_refl _)
theorem Jnm : ∃ (m0 m1 : BM) (a b : Rat), Jdk 2 [2] 1 = (m0, 0) /\ Xg m0 [0] 0 = (m1, 0) /\ Qo m1 [0] = ([a, b], 0) /\ LenB m0 /\ LenB m1 /\ QS 1000 m0.smooth /\ QS 1000 m1.smooth /\ QS 1000 a /\ QS 1000 b /\ a = Rat.divInt 8 11 /\ b = Rat.divInt 3 11 :=
 ⟨kn0, kn1, _, _, Jnl, Jld, Jh6, Jlf, Jle, ⟨Nat.le_of_ble_eq_true (by kernel_rfl), Nat.le_of_ble_eq_true (by kernel_rfl)⟩, ⟨Nat.le_of_ble_eq_true (by kernel_rfl), Nat.le_of_ble_eq_true (by kernel_rfl)⟩, ⟨Nat.le_of_ble_eq_true (by kernel_rfl), Nat.le_of_ble_eq_true (by kernel_rfl)⟩, ⟨Nat.le_of_ble_eq_true (by kernel_rfl), Nat.le_of_ble_eq_true (by kernel_rfl)⟩, by decide +kernel, by decide +kernel⟩
theorem Jgy (w : World) (hT : Tab w) : Calls Tryz.prog 19 #[] w (Ret (.bool true) w) := by
 obtain ⟨m0, m1, a, b, h1, h2, h3, h4, h5, h6, h7, h8, h9, bN, gL⟩ := Jnm
 have bO := fun w => Vo 1 w (by decide) (by decide)
 obtain ⟨q1, eL⟩ : ∃ q1 : Rat, ((1 : Int) : Rat) = q1 := ⟨_, rfl⟩
 have cU : (1 : Rat) = q1 := eL
 rw [cU] at h1
 rw [eL] at bO
 have cE : QS 1099511627776 q1 := by rw [<- eL]; exact (QS.cnt (k := 1) (by decide) (by decide) (by decide)).mono (by decide)
 unfold qV at bO
 have HOF := lh bO
 have HNW : Hid (∀ (w : World) (X : Addr), ReadsI w w.heap.size (some X) 1 [2] -> Calls Tryz.prog 15 #[.int .i64 2, .slice (some X) 1 1, .agg #[.bool (decide (q1.num < 0)), .int .u64 (lo q1.num.natAbs : Int), .string (mo q1.num.natAbs), .int .u64 (lo ((qden q1)) : Int), .string (mo ((qden q1)))]] w fun e w' => ∃ u, e = .returned (.tuple #[u, .int .i64 0]) /\ ModB w.heap.size 1 2 2 m0 u w' /\ Below w.heap.size w w') := lh fun w X h => by
  refine (Vp 2 (some X) 1 1 w.heap.size [2] q1 w h zd (by omega) cE).mono ?_
  rintro e w' ⟨v, rfl, hv, hb⟩
  rw [h1] at hv
  rcases hv with ⟨-, u, rfl, hm⟩ | ⟨h0, -⟩
  ·exact ⟨u, rfl, hm, hb⟩
  exact absurd rfl h0
 have HTE : Hid (∀ (w : World) (AW : Option Addr) (cW gS gC : Nat) (X : Addr), RdB w w.heap.size ⟨AW, 1, cW⟩ ⟨some ⟨gS, 0, none⟩, 2, 2⟩ ⟨some ⟨gC, 0, none⟩, 2, 2⟩ m0 -> ReadsI w w.heap.size (some X) 1 [0] -> Calls Tryz.prog 29 #[.agg #[.bool (decide (m0.smooth.num < 0)), .int .u64 (lo m0.smooth.num.natAbs : Int), .string (mo m0.smooth.num.natAbs), .int .u64 (lo ((qden m0.smooth)) : Int), .string (mo ((qden m0.smooth))), .slice AW 1 cW, .slice (some ⟨gS, 0, none⟩) 2 2, .slice (some ⟨gC, 0, none⟩) 2 2], .slice (some X) 1 1, .int .i64 0] w fun e w' => ∃ u, e = .returned (.tuple #[u, .int .i64 0]) /\ ModB w.heap.size 1 2 2 m1 u w' /\ Below w.heap.size w w') := lh fun w AW cW gS gC X h h' => by
  refine (Jb3 AW (some ⟨gS, 0, none⟩) (some ⟨gC, 0, none⟩) 1 cW 2 2 2 2 w.heap.size m0 (some X) 1 1 [0] 0 w h h' zd h4 (by omega) (h6.mono (by omega))).mono ?_
  rintro e w' ⟨v, rfl, hv, hb⟩
  rw [h2] at hv
  rcases hv with ⟨-, u, rfl, hm⟩ | ⟨h0, -⟩
  ·exact ⟨u, rfl, hm, hb⟩
  exact absurd rfl h0
 have HCH : Hid (∀ (w : World) (AW : Option Addr) (cW gS gC : Nat) (X : Addr), RdB w w.heap.size ⟨AW, 1, cW⟩ ⟨some ⟨gS, 0, none⟩, 2, 2⟩ ⟨some ⟨gC, 0, none⟩, 2, 2⟩ m1 -> ReadsI w w.heap.size (some X) 1 [0] -> Tab w -> Calls Tryz.prog 24 #[.agg #[.bool (decide (m1.smooth.num < 0)), .int .u64 (lo m1.smooth.num.natAbs : Int), .string (mo m1.smooth.num.natAbs), .int .u64 (lo ((qden m1.smooth)) : Int), .string (mo ((qden m1.smooth))), .slice AW 1 cW, .slice (some ⟨gS, 0, none⟩) 2 2, .slice (some ⟨gC, 0, none⟩) 2 2], .slice (some X) 1 1] w fun e w' => ∃ g, e = .returned (.tuple #[.slice (some ⟨g, 0, none⟩) 2 2, .int .i64 0]) /\ AtQ w' g 0 a /\ AtQ w' g 5 b /\ g < w'.heap.size /\ Below w.heap.size w w') := lh fun w AW cW gS gC X h h' hT => by
  refine (Vu AW (some ⟨gS, 0, none⟩) (some ⟨gC, 0, none⟩) 1 cW 2 2 2 2 w.heap.size m1 (some X) 1 1 [0] w h h' zd h5 (by omega) h7 hT).mono ?_
  rintro e w' ⟨v, rfl, hv, hb⟩
  rw [h3] at hv
  rcases hv with ⟨-, g, rfl, hg, ho⟩ | ⟨h0, -⟩
  ·have e0 := OwnQ.at_ ho (k := 0) rfl
   have e1 := OwnQ.at_ ho (k := 1) rfl
   exact ⟨g, rfl, e0, e1, Xw e0.c5.1, hb⟩
  exact absurd rfl h0
 have eY := fun w => Ji4 a 8 11 w (by omega) (by omega) (by omega) (by omega) (by omega) bN (h8.mono (by omega))
 have eZ := fun w => Ji4 b 3 11 w (by omega) (by omega) (by omega) (by omega) (by omega) gL (h9.mono (by omega))
 unfold qV at eY eZ
 have HI1 := lh eY
 have HI2 := lh eZ
 have HT := lh hT
 clear eY eZ hT bO h1 h2 h3 h4 h5 h6 h7 h8 h9 bN gL eL cU cE
 go_enter Tryz.func19, Tryz.ntmps19
 go_wp2_with fail
 refine (HOF.out _).mono ?_
 rintro e w1 ⟨rfl, j9⟩
 have hr := rkindI.below (Jaj w 2) j9
 have HR := lh (rkindI.more hr j9.size)
 have HB1 := lh (Ja (Jb w (.cells #[.int .i64 2] 3)) j9)
 clear j9 hr
 go_wp2_with fail
 refine (HNW.out w1 _ HR.out).mono ?_
 rintro e w2 ⟨u, rfl, ⟨AW, cW, gS, gC, F, G, H, rfl, ho⟩, j7⟩
 have HB2 := lh (Ja HB1.out j7)
 have HO := lh ho
 clear j7 ho HR HB1 HNW HOF
 go_upto_region 2 with fail
 have b0 := Blk.new w2 43 #[.bool (decide (m0.smooth.num < 0)), .int .u64 (lo m0.smooth.num.natAbs : Int), .string (mo m0.smooth.num.natAbs), .int .u64 (lo ((qden m0.smooth)) : Int), .string (mo ((qden m0.smooth))), .slice AW 1 cW, .slice (some ⟨gS, 0, none⟩) 2 2, .slice (some ⟨gC, 0, none⟩) 2 2]
 have y9 := Jb w2 (.cells #[.bool (decide (m0.smooth.num < 0)), .int .u64 (lo m0.smooth.num.natAbs : Int), .string (mo m0.smooth.num.natAbs), .int .u64 (lo ((qden m0.smooth)) : Int), .string (mo ((qden m0.smooth))), .slice AW 1 cW, .slice (some ⟨gS, 0, none⟩) 2 2, .slice (some ⟨gC, 0, none⟩) 2 2] 43)
 generalize w2.alloc (.cells #[.bool (decide (m0.smooth.num < 0)), .int .u64 (lo m0.smooth.num.natAbs : Int), .string (mo m0.smooth.num.natAbs), .int .u64 (lo ((qden m0.smooth)) : Int), .string (mo ((qden m0.smooth))), .slice AW 1 cW, .slice (some ⟨gS, 0, none⟩) 2 2, .slice (some ⟨gC, 0, none⟩) 2 2] 43) = w3 at *
 have cZ : w.heap.size <= w2.heap.size := HB2.out.size
 have gO := HO.out.next y9
 have HB3 := lh (Ja HB2.out y9)
 generalize w2.heap.size = g at *
 have hr := Jaj w3 0
 have aE := Jb w3 (.cells #[.int .i64 0] 3)
 have aO := (gO.next aE).read
 have b4 := b0.below aE b0.lt
 have HTE2 := lh (HTE.out _ AW cW gS gC _ aO hr)
 have HB4 := lh (Ja HB3.out aE)
 have eM := b4.lt
 obtain ⟨x0, x1, x2, x3, x4, x5, x6, x7⟩ := b0.c8
 have B4 := lh (And.intro b4 eM)
 clear gO y9 hr aE aO HTE HO HB2 HB3 b4 eM b0
 go_wp2_with fail
 refine HTE2.out.mono ?_
 rintro e w5 ⟨u, rfl, ⟨AW5, cW5, gS5, gC5, F5, G5, H5, rfl, dA⟩, j0⟩
 have HB5 := lh (Ja HB4.out j0)
 have B5 := lh (B4.out.1.below j0 B4.out.2)
 have HN5 := lh (show ¬ F5 g /\ ¬ G5 g /\ ¬ H5 g from ⟨fun e => by have := dA.from1 _ e; have := B4.out.2; omega, fun e => by have := dA.from2 _ e; have := B4.out.2; omega, fun e => by have := dA.from3 _ e; have := B4.out.2; omega⟩)
 have HO5 := lh dA
 clear j0 dA HTE2 HB4 B4 x0 x1 x2 x3 x4 x5 x6 x7
 go_wp2_with (refine Jr rfl _ (.tmp 1) (.tmp 16) rfl g #[.bool (decide (m1.smooth.num < 0)), .int .u64 (lo m1.smooth.num.natAbs : Int), .string (mo m1.smooth.num.natAbs), .int .u64 (lo ((qden m1.smooth)) : Int), .string (mo ((qden m1.smooth))), .slice AW5 1 cW5, .slice (some ⟨gS5, 0, none⟩) 2 2, .slice (some ⟨gC5, 0, none⟩) 2 2] _ rfl rfl _ B5.out (by kernel_rfl) rfl (by simp [Value.oneCell']) ?_; intro w7 l6 p9; have HX7 := lh p9; have B7 := lh l6; obtain ⟨x0, x1, x2, x3, x4, x5, x6, x7⟩ := l6.c8; clear l6 p9)
 have dB := HO5.out.exc HX7.out HN5.out.1 HN5.out.2.1 HN5.out.2.2
 have HB7 := lh (HB5.out.trans (HX7.out.below HB5.out.size cZ))
 have hr := Jaj w7 0
 have cF := Jb w7 (.cells #[.int .i64 0] 3)
 have aO := (dB.next cF).read
 have HB8 := lh (Ja HB7.out cF)
 have HCH2 := lh (HCH.out _ AW5 cW5 gS5 gC5 _ aO hr (HT.out.next HB8.out))
 clear dB hr cF aO HCH HB7 HB5 HN5 HX7 B5 B7 HO5
 refine HCH2.out.mono ?_
 rintro e w9 ⟨g9, rfl, d0, d1, eM, aV⟩
 have HB9 := lh (Ja HB8.out aV)
 clear HCH2 aV HB8 x0 x1 x2 x3 x4 x5 x6 x7
 obtain ⟨x0, x1, x2, x3, x4⟩ := d0.c5
 obtain ⟨y0, y1, y2, y3, y4⟩ := d1.c5
 go_wp2_with fail
 refine (HI1.out _).mono ?_
 rintro e wa ⟨rfl, aG⟩
 have d1 := d1.below aG eM
 have HBA := lh (Ja HB9.out aG)
 clear aG x0 x1 x2 x3 x4 y0 y1 y2 y3 y4 HI1 HB9 d0
 obtain ⟨y0, y1, y2, y3, y4⟩ := d1.c5
 go_wp2_with fail
 refine (HI2.out _).mono ?_
 rintro e wb ⟨rfl, fA⟩
 have HBB := lh (Ja HBA.out fA)
 clear fA y0 y1 y2 y3 y4 HI2 HBA d1
 go_wp2
 go_ret
 exact ⟨rfl, HBB.out⟩
theorem Jq8 (A A' : Option Addr) (n c c' : Nat) (l : List Int) (B B' : Nat) (w : World) (h : ReadsI w B A n l) (h' : ReadsI w B' A' n l) (hn : n <= 9223372036854775807) :
  Calls Tryz.prog 106 #[.slice A n c, .slice A' n c'] w fun e w' => e = .returned (.bool true) /\ ∃ k, w' = w.drewN k := by
 have q1 : ((n : Int) != (n : Int)) = false := by simp
 have q2 : ((n : Int) == (n : Int)) = true := by simp
 go_enter Tryz.func106, Tryz.ntmps106
 go_wp2
 go_loopw [5] (fun i wr => ∃ k : Nat, k <= n /\ i = .int .i64 k /\ ∃ d, wr = w.drewN d) (fun i _ => n - (intOf i).toNat)
 case atStart => exact ⟨0, Nat.zero_le _, rfl, 0, rfl⟩
 case round =>
  obtain ⟨k, hk, rfl, d, rfl⟩ := hrel
  by_cases aX : k < n
  ·obtain ⟨ad, x, hA, hb, hx, hc⟩ := h.at_ aX
   obtain ⟨ad', x', jM, gP, gQ, eN⟩ := h'.at_ aX
   have jN : x = x' := Option.some.inj (hx.symm.trans gQ)
   subst jN
   clear hx gQ
   subst hA jM
   have jO : (k : Int) < (n : Int) := by omega
   have q3 : (x != x) = false := by simp
   have q4 : (x == x) = true := by simp
   go_wp2
   go_quiet (fail)
   go_wp2
   exact ⟨⟨k + 1, by omega, by go_num, _, rfl⟩, by simp [intOf]; omega⟩
  go_wp2
  go_ret
  exact ⟨rfl, d, rfl⟩
def RdX (g : Nat) (m : BM) (W S C : SW) (w : World) : Prop := ∀ w', Exc g w w' -> RdB w' w'.heap.size W S C m
theorem OwB.rdx {e T T2 : TypeId} {L g : Nat} {w : World} {W S C : SW} {F G H : Nat -> Prop} {m : BM} (h : OwB e T T2 L w W S C F G H m) (hg : g < L) : RdX g m W S C w := fun w' hx =>
 (h.exc hx (fun e => by have := h.from1 _ e; omega) (fun e => by have := h.from2 _ e; omega) (fun e => by have := h.from3 _ e; omega)).read
theorem Jui {w : World} {B n c : Nat} {A : Option Addr} {l : List Int} (h : ReadsI w B A n l) (hn : 1 <= n) (hc : n <= c) : ReadsI w B (Jg4 A c 1 1) (n - 1) (l.drop 1) := by
 have h1 := Reads.cut h hn hc
 show Reads _ _ _ _ _ ((l.drop 1).map zv)
 rw [List.map_drop]
 simpa [Jg4] using h1
theorem Juh {β : Type} {R : World -> Nat -> Option Addr -> Nat -> β -> Prop} {w : World} {B n c : Nat} {A : Option Addr} {l : List β} (h : ReadsS R w B A n l) (hn : 1 <= n) (hc : n <= c) : ReadsS R w B (Jg4 A c 1 1) (n - 1) (l.drop 1) := by
 obtain ⟨rl, h1, h2, h3⟩ := h
 refine ⟨rl.drop 1, ?_, by simp [h2], fun i r b hr hb => ?_⟩
 ·have h4 := Reads.cut h1 hn hc
  rw [List.map_drop]
  simpa [Jg4] using h4
 rw [List.getElem?_drop] at hr hb
 exact h3 _ r b hr hb
theorem RdX.seen1 {g : Nat} {m : BM} {W C : SW} {A : Option Addr} {n c : Nat} {w : World} (h : RdX g m W ⟨A, n, c⟩ C w) (hn : 1 <= n) (hc : n <= c) : RdX g { m with seen := m.seen.drop 1 } W ⟨Jg4 A c 1 1, n - 1, c - 1⟩ C w := fun w' hx =>
 ⟨(h w' hx).words, Jui (h w' hx).seen hn hc, (h w' hx).counts⟩
theorem OwB.rdxTab {e T T2 : TypeId} {L g' : Nat} {w : World} {W S : SW} {F G H : Nat -> Prop} {m : BM} {g n c k : Nat} {t : List (List Int)} (h : OwB e T T2 L w W S ⟨some ⟨g, 0, none⟩, n, c⟩ F G H m) (hg : g' < L) (ht : m.counts[k]? = some t) (h1 : 1 <= t.length) :
  ∃ A c1, w.cell? ⟨g, k, none⟩ = some (.slice A t.length c1) /\ t.length <= c1 /\ w.frozen? ⟨g, k, none⟩ = false /\ L <= g /\ H g /\
   RdX g' { m with counts := m.counts.set k (t.drop 1) } W S ⟨some ⟨g, 0, none⟩, n, c⟩ (w.setCell ⟨g, k, none⟩ (.slice (Jg4 A c1 1 1) (t.length - 1) (c1 - 1))) := by
 have hr := Js e zv
 have fB := Xt hr T
 have hH : H g := h.tabs
 obtain ⟨A, k0, c1, F', q1, q2, q3, q4, -⟩ := h.counts.at_ fB ht
 obtain ⟨A2, c2, hf⟩ := q2.form
 injection hf with e1 e2 e3
 subst e2 e3
 have dC : t.length <= c1 := by
  obtain ⟨rl, F1, r1, r2, -⟩ := q2
  obtain ⟨A0, c0, e0, r3, -⟩ := Own.form r1
  injection e0 with e1 e2 e3
  omega
 refine ⟨A, c1, q1, dC, h.counts.frozen k, h.from3 g hH, hH, fun w' hx => ?_⟩
 have t7 : Exc g w (w.setCell ⟨g, k, none⟩ (.slice (Jg4 A c1 1 1) (t.length - 1) (c1 - 1))) := (Exc.refl g w).set_ k _
 obtain ⟨o1, o2, o3⟩ := h.old
 have hs := nt t7.size hx.size
 have far : ∀ x, x < w.heap.size -> L <= x -> x ≠ g -> w'.heap[x]? = w.heap[x]? := fun x t8 hL jP => (hx.block x (Nat.lt_of_lt_of_le t8 t7.size) (by omega)).trans (t7.block x t8 jP)
 have hw := hr.loc h.words hs fun x t8 => far x (o1 x t8) (h.from1 x t8) fun e => h.ap13 x t8 (by rw [e]; exact hH)
 have jQ := hr.loc h.seen hs fun x t8 => far x (o2 x t8) (h.from2 x t8) fun e => h.ap23 x t8 (by rw [e]; exact hH)
 refine ⟨hw.readsI, jQ.readsI, ?_⟩
 have jR := fB.loc q2 hs fun x t8 => far x (o3 x (q3 x t8).1) (h.from3 x (q3 x t8).1) (q3 x t8).2
 obtain ⟨rl, F1, r1, r2, r3, r4, r5, r6, r7⟩ := h.counts
 have cG : k < rl.length := by rw [r2]; exact (List.getElem?_eq_some_iff.1 ht).1
 have hn : n = rl.length := by
  obtain ⟨A', c', h4, _, _⟩ := Own.form r1
  injection h4
 subst hn
 have dD := World.ownsRow.stored r1 k (.slice (Jg4 A c1 1 1) (t.length - 1) (c1 - 1))
 have fC : Own (w.setCell ⟨g, k, none⟩ (.slice (Jg4 A c1 1 1) (t.length - 1) (c1 - 1))) T2 SW.v (.slice (some ⟨g, 0, none⟩) rl.length c) (rl.set k ⟨Jg4 A c1 1 1, t.length - 1, c1 - 1⟩) := by
  unfold Own
  rw [List.length_set, List.map_set]
  exact dD.1
 have dE := fC.loc (w' := w') fun x t8 => by
  have e1 : g = x := by simpa [Value.ownBlock] using t8
  subst e1
  exact hx.block g (Nat.lt_of_lt_of_le (o3 g hH) t7.size) (by have := h.from3 g hH; omega)
 have aO := Own.reads dE
 rw [List.length_set] at aO
 refine ⟨_, aO, by simp [r2], fun i r b jS hb => ?_⟩
 rcases getElem?_set_cases jS with ⟨e1, e2⟩ | ⟨hj, dF⟩
 ·subst e1 e2
  have eb : b = t.drop 1 := by
   rw [List.getElem?_set, if_pos rfl] at hb
   split at hb
   ·exact (Option.some.inj hb).symm
   cases hb
  subst eb
  exact Juh (Nest.reads (fun hq => NRow.readsI hq) jR) h1 dC
 rw [List.getElem?_set, if_neg (fun e => hj e.symm)] at hb
 have fD := (List.getElem?_eq_some_iff.1 dF).1
 have hm := fB.loc (r3 i r b dF hb) hs fun x t8 => far x (o3 x (r4 i fD x t8).1) (h.from3 x (r4 i fD x t8).1) fun e => (r4 i fD x t8).2 (by rw [e]; rfl)
 exact Nest.reads (fun hq => NRow.readsI hq) hm
def DocQ (m : BM) (v : Value) (w : World) : Prop := ∃ (ng : Bool) (A7 A8 : Option Addr) (l7 d7 l8 d8 : Nat) (W S C : SW), v = .agg #[.bool ng, .slice A7 l7 d7, .slice A8 l8 d8, W.v, S.v, C.v] /\ IsQ w w.heap.size (.agg #[.bool ng, .slice A7 l7 d7, .slice A8 l8 d8]) m.smooth /\ RdB w w.heap.size W S C m
def Joq (cols : Int) (k : Nat) : List Int := (List.range k).map fun (c : Nat) => (cols.tdiv 3 + (c : Int)) % 3 + 1
theorem Jpg (cols : Int) (k : Nat) : Joq cols (k + 1) = Joq cols k ++ [(cols.tdiv 3 + (k : Int)) % 3 + 1] := by
 unfold Joq
 rw [List.range_succ, List.map_append]
 rfl
theorem Jow (cols : Int) (k : Nat) : (Joq cols k).length = k := by simp [Joq]
theorem Jph {x : Int} (h : -9223372036854775808 <= x /\ x <= 9223372036854775807) : (-4611686018427387904 <= x.tdiv 3 /\ x.tdiv 3 <= 4611686018427387904) /\ -4611686018427387904 <= x.tdiv 4 /\ x.tdiv 4 <= 4611686018427387904 := by
 rcases Int.le_total 0 x with h0 | h0
 ·rw [Int.tdiv_eq_ediv_of_nonneg h0, Int.tdiv_eq_ediv_of_nonneg h0]
  omega
 have e : x.tdiv 4 = -((-x).tdiv 4) := by rw [Int.neg_tdiv]; omega
 have e' : x.tdiv 3 = -((-x).tdiv 3) := by rw [Int.neg_tdiv]; omega
 rw [e, e', Int.tdiv_eq_ediv_of_nonneg (by omega), Int.tdiv_eq_ediv_of_nonneg (by omega)]
 omega
theorem Jpk {f : Nat} {m : BM} {l : List Int} {i : Nat} (h : ¬ (i + m.words.length < l.length /\ i < 24)) : Jop f m l i = m := by
 cases f with
 | zero => rfl
 | succ f => unfold Jop; rw [if_neg h]
theorem Jpl {f n : Nat} {m : BM} {l : List Int} {i : Nat} (hd : DrawnB m n) (hn : n < 1073741824) (h : i + m.words.length < l.length /\ i < 24) (hf : 24 <= f + i) :
  ∃ (f' : Nat), f = f' + 1 /\ Xg m (Jkx (l.drop (i + 1)) m.words) (l.getD i 0 % (m.seen.length : Int)) = (Jn m (Jkx (l.drop (i + 1)) m.words) (l.getD i 0 % (m.seen.length : Int)).toNat 1, 0) /\ DrawnB (Jn m (Jkx (l.drop (i + 1)) m.words) (l.getD i 0 % (m.seen.length : Int)).toNat 1) (n + 1) /\ Jop f m l i = Jop f' (Jn m (Jkx (l.drop (i + 1)) m.words) (l.getD i 0 % (m.seen.length : Int)).toNat 1) l (i + m.words.length + 1) := by
 obtain ⟨h1, h2⟩ := hd.moved (hd.rowOk (l.drop (i + 1))) (hd.class_ (l.getD i 0)) hn
 obtain ⟨f', rfl⟩ : ∃ f', f = f' + 1 := ⟨f - 1, by omega⟩
 refine ⟨f', rfl, h1, h2, ?_⟩
 rw [Jop, if_pos h, h1, if_pos rfl]
def DrS (L : Nat) (g : Nat) (x0 x1 x2 : Value) (m : BM) (w : World) : Prop := ∃ (W S C : SW) (F G H : Nat -> Prop), Blk w g 31 #[x0, x1, x2, W.v, S.v, C.v] /\ OwB 3 22 65 L w W S C F G H m /\ (¬ F g /\ ¬ G g /\ ¬ H g)
def DrI (ws : List Int) (q : Rat) (l : List Int) (M0 : BM) (L g : Nat) (x0 x1 x2 : Value) (w5 : World) (i : Nat) (w : World) : Prop := ∃ (f nT : Nat) (mm : BM), i <= 40 /\ 24 <= f + i /\ Jop f mm l i = M0 /\ DrawnB mm nT /\ nT <= i /\ mm.words = ws /\ mm.smooth = q /\ DrS L g x0 x1 x2 mm w /\ Below L w5 w
def Jpi (m : BM) (y : Int) (k c : Nat) (b : Int) : BM :=
 if y = 0 then { m with seen := m.seen.set k b }
 else if y = 1 then { m with counts := m.counts.set k ((m.counts.getD k []).set c (((m.counts.getD k []).getD c []).set 0 b)) }
 else if y = 2 then { m with smooth := (b : Rat) }
 else if y = 3 then { m with words := m.words.set c b }
 else if y = 4 then { m with counts := m.counts.set k ((m.counts.getD k []).drop 1) }
 else if y = 5 then { m with seen := m.seen.drop 1 }
 else if y = 6 then { m with seen := m.seen.set k 1073741824 }
 else m
theorem Jpo (m : BM) (way at_ by_ : Int) : Jo6 m way at_ by_ = Jpi m (way % 14) (at_ % (m.seen.length : Int)).toNat ((at_.tdiv 3) % (m.words.length : Int)).toNat (by_ % 9 - 2) := rfl
theorem Jo2 {m : BM} {y : Int} {k c : Nat} {b : Int} (h : ¬ (y = 0 \/ y = 1 \/ y = 2 \/ y = 3 \/ y = 4 \/ y = 5 \/ y = 6)) : Jpi m y k c b = m := by
 unfold Jpi
 rw [if_neg (by omega), if_neg (by omega), if_neg (by omega), if_neg (by omega), if_neg (by omega), if_neg (by omega), if_neg (by omega)]
def DrQ (g g' : Nat) (m : BM) (w : World) : Prop := ∃ (ng : Bool) (A7 A8 : Option Addr) (l7 d7 l8 d8 : Nat) (W S C : SW), Blk w g 31 #[.bool ng, .slice A7 l7 d7, .slice A8 l8 d8, W.v, S.v, C.v] /\ ∀ w', Exc g' w w' -> IsQ w' w'.heap.size (.agg #[.bool ng, .slice A7 l7 d7, .slice A8 l8 d8]) m.smooth /\ RdB w' w'.heap.size W S C m
theorem Jq1 {a : Bool} {A1 A2 A3 A4 A5 : Option Addr} {l1 c1 l2 c2 l3 c3 l4 c4 l5 c5 : Nat} : ∀ i x : Nat, (#[Value.bool a, .slice A1 l1 c1, .slice A2 l2 c2, .slice A3 l3 c3, .slice A4 l4 c4, .slice A5 l5 c5])[i]? ≠ some (Ju x) := by
 intro i x h
 match i with
 | 0 => simp [Ju] at h
 | 1 => simp [Ju] at h
 | 2 => simp [Ju] at h
 | 3 => simp [Ju] at h
 | 4 => simp [Ju] at h
 | 5 => simp [Ju] at h
 | n + 6 => simp at h
def DrF (ws : List Int) (q : Rat) (M0 : BM) (L g : Nat) (x0 x1 x2 : Value) (w5 : World) (w : World) : Prop := ∃ nT : Nat, nT <= 40 /\ DrawnB M0 nT /\ M0.words = ws /\ M0.smooth = q /\ DrS L g x0 x1 x2 M0 w /\ Below L w5 w
def DrM (L : Nat) (x0 x1 x2 xw : Value) (m : BM) (u : Value) (w : World) (X : Nat -> Prop) : Prop := ∃ (S C : SW) (G H : Nat -> Prop), u = .agg #[x0, x1, x2, xw, S.v, C.v] /\ NRow 3 zv w G S.v m.seen /\ Nest 65 (Nest 22 (NRow 3 zv)) w H C.v m.counts /\ (∀ k, G k -> L <= k /\ ¬ H k) /\ (∀ k, H k -> L <= k) /\ ∀ g, X g -> ¬ G g /\ ¬ H g
theorem DrM.next {L : Nat} {x0 x1 x2 xw u : Value} {m : BM} {w w' : World} {X Y : Nat -> Prop} (h : DrM L x0 x1 x2 xw m u w X) (hb : Below w.heap.size w w') (hY : ∀ g, Y g -> X g \/ w.heap.size <= g) : DrM L x0 x1 x2 xw m u w' Y := by
 obtain ⟨S, C, G, H, e, hs, hc, h1, h2, h3⟩ := h
 have hr := Js 3 zv
 refine ⟨S, C, G, H, e, hr.loc hs hb.size fun k hk => hb.block k (hr.lt hs hk), hc.next (Xt hr _) hb, h1, h2, fun g hg => ?_⟩
 rcases hY g hg with h | h
 ·exact h3 g h
 exact ⟨fun e => by have := hr.lt hs e; omega, fun e => by have := hc.lt (Xt hr _) e; omega⟩
theorem DrM.exc {L g : Nat} {x0 x1 x2 xw u : Value} {m : BM} {w w' : World} {X : Nat -> Prop} (h : DrM L x0 x1 x2 xw m u w X) (hx : Exc g w w') (hg : X g) : DrM L x0 x1 x2 xw m u w' X := by
 obtain ⟨S, C, G, H, e, hs, hc, h1, h2, h3⟩ := h
 have hr := Js 3 zv
 exact ⟨S, C, G, H, e, hr.loc hs hx.size fun k hk => hx.block k (hr.lt hs hk) fun e => (h3 g hg).1 (by rw [<- e]; exact hk), hc.loc (Xt hr _) hx.size fun k hk => hx.block k (hc.lt (Xt hr _) hk) fun e => (h3 g hg).2 (by rw [<- e]; exact hk), h1, h2, h3⟩
structure DrR (W : World) (x0 x1 x2 xw : Value) (n1 : Nat) (row : List Int) (m : BM) (FX : Nat -> Option Value) (d : Nat -> Bool) (val : Nat -> Value) (w : World) : Prop where
 bel : Below W.heap.size W w
 fx : Fixed FX d val
 v6 : d 6 = true -> ∃ A c, val 6 = .slice A n1 c /\ (d 15 = false -> ReadsI w w.heap.size A n1 row)
 v15 : d 15 = true -> ∃ c0 c1 c2 c3 c4 c5, val 15 = .tuple #[.agg #[c0, c1, c2, c3, c4, c5], .int .i64 0] /\ (#[c0, c1, c2, c3, c4, c5].all (·.oneCell') = true) /\ DrM W.heap.size x0 x1 x2 xw m (.agg #[c0, c1, c2, c3, c4, c5]) w fun g => d 19 = true /\ val 19 = .pointer (some ⟨g, 0, none⟩)
 v16 : d 16 = true -> d 15 = true /\ val 16 = val 15
 v17 : d 17 = true -> d 15 = true /\ ∀ u y, val 15 = .tuple #[u, y] -> val 17 = u
 v18 : d 18 = true -> d 15 = true /\ ∀ u y, val 15 = .tuple #[u, y] -> val 18 = y
 v19 : d 19 = true -> ∃ g y0 y1 y2 y3 y4 y5, val 19 = .pointer (some ⟨g, 0, none⟩) /\ W.heap.size <= g /\ Blk w g 31 #[y0, y1, y2, y3, y4, y5] /\ (d 20 = true -> d 17 = true /\ val 17 = .agg #[y0, y1, y2, y3, y4, y5])
 v20 : d 20 = true -> d 19 = true
 v21 : d 21 = true -> d 18 = true /\ val 21 = val 18
theorem DrR.next {W w w' : World} {x0 x1 x2 xw : Value} {n1 : Nat} {row : List Int} {m : BM} {FX : Nat -> Option Value} {d : Nat -> Bool} {val : Nat -> Value} (h : DrR W x0 x1 x2 xw n1 row m FX d val w) (hb : Below w.heap.size w w') : DrR W x0 x1 x2 xw n1 row m FX d val w' where
 bel := h.bel.trans (hb.mono h.bel.size)
 fx := h.fx
 v6 := fun h1 => (h.v6 h1).imp fun A h2 => h2.imp fun c h3 => ⟨h3.1, fun h4 => rkindI.more (rkindI.below (h3.2 h4) hb) hb.size⟩
 v15 := fun h1 => by
  obtain ⟨c0, c1, c2, c3, c4, c5, e, ho, hm⟩ := h.v15 h1
  exact ⟨c0, c1, c2, c3, c4, c5, e, ho, hm.next hb fun g hg => .inl hg⟩
 v16 := h.v16
 v17 := h.v17
 v18 := h.v18
 v19 := fun h1 => by
  obtain ⟨g, y0, y1, y2, y3, y4, y5, e, hg, hk, h2⟩ := h.v19 h1
  exact ⟨g, y0, y1, y2, y3, y4, y5, e, hg, hk.below hb hk.lt, h2⟩
 v20 := h.v20
 v21 := h.v21
theorem Jq6 {a b u y : Value} (h : #[a, b] = #[u, y]) : a = u /\ b = y := by simpa using h
theorem Jps {g g' : Nat} (h : Value.pointer (some ⟨g, 0, none⟩) = .pointer (some ⟨g', 0, none⟩)) : g = g' := by
 injection h with h
 injection h with h
 injection h with h
def DrC (L : Nat) (x0 x1 x2 xw : Value) (m : BM) (W : World) (v v20 : Value) (w : World) : Prop := ∃ (g : Nat) (S C : SW) (G H : Nat -> Prop), v = .pointer (some ⟨g, 0, none⟩) /\ v20 = .int .i64 0 /\ Blk w g 31 #[x0, x1, x2, xw, S.v, C.v] /\ NRow 3 zv w G S.v m.seen /\ Nest 65 (Nest 22 (NRow 3 zv)) w H C.v m.counts /\ (∀ k, G k -> L <= k /\ ¬ H k) /\ (∀ k, H k -> L <= k) /\ Below W.heap.size W w
theorem DrR.end_ {W w : World} {x0 x1 x2 xw : Value} {n1 : Nat} {row : List Int} {m : BM} {FX : Nat -> Option Value} {d : Nat -> Bool} {val : Nat -> Value} (hF : DrR W x0 x1 x2 xw n1 row m FX d val w) (hd : ∀ i, i < 22 -> d i = true) : DrC W.heap.size x0 x1 x2 xw m W (val 19) (val 21) w := by
 obtain ⟨c0, c1, c2, c3, c4, c5, e15, -, S, C, G, H, e0, hs, hc, h1, h2, -⟩ := hF.v15 (hd 15 (by decide))
 obtain ⟨g, y0, y1, y2, y3, y4, y5, e19, hg, hk, jT⟩ := hF.v19 (hd 19 (by decide))
 have e8 := ((jT (hd 20 (by decide))).2.symm.trans ((hF.v17 (hd 17 (by decide))).2 _ _ e15)).trans e0
 injection e8 with e8
 rw [e8] at hk
 exact ⟨g, S, C, G, H, e19, (hF.v21 (hd 21 (by decide))).2.trans ((hF.v18 (hd 18 (by decide))).2 _ _ e15), hk, hs, hc, h1, h2, hF.bel⟩
theorem Jqh {L : Nat} {x0 x1 x2 xw : Value} {m : BM} {v : Value} {w : World} (h : Jq7 L x0 x1 x2 xw (m, 0) v w) : ∃ u, v = .tuple #[u, .int .i64 0] /\ Jq3 L x0 x1 x2 xw m u w := by
 rcases h with ⟨-, u, rfl, hm⟩ | ⟨h0, -⟩
 ·exact ⟨u, rfl, hm⟩
 exact absurd rfl h0
theorem DrQ.of {g g' : Nat} {m : BM} {ng : Bool} {A7 A8 : Option Addr} {l7 d7 l8 d8 : Nat} {W S C : SW} {w : World} (bk : Blk w g 31 #[.bool ng, .slice A7 l7 d7, .slice A8 l8 d8, W.v, S.v, C.v]) (hq : ∀ w', Exc g' w w' -> IsQ w' w'.heap.size (.agg #[.bool ng, .slice A7 l7 d7, .slice A8 l8 d8]) m.smooth) (hx : RdX g' m W S C w) : DrQ g g' m w :=
 ⟨ng, A7, A8, l7, d7, l8, d8, W, S, C, bk, fun w' h => ⟨hq w' h, hx w' h⟩⟩
theorem OwB.newWords {e T T2 : TypeId} {L : Nat} {w w' : World} {W W' S C : SW} {F G H : Nat -> Prop} {m : BM} {ws : List Int} (h : OwB e T T2 L w W S C F G H m) (hb : Below w.heap.size w w') (hL : L <= w.heap.size) (ho : Own w' e zv W'.v ws) (hf : ∀ b, W'.v.ownBlock = some b -> w.heap.size <= b) : OwB e T T2 L w' W' S C (fun k => W'.v.ownBlock = some k) G H { m with words := ws } := by
 obtain ⟨o1, o2, o3⟩ := h.old
 have h2 := h.next hb
 exact ⟨NRow.of ho, h2.seen, h2.counts, fun k hk => nt hL (hf k hk), h.from2, h.from3, fun k hk bP => by have := hf k hk; have := o2 k bP; omega, fun k hk bP => by have := hf k hk; have := o3 k bP; omega, h.ap23⟩
theorem OwB.setWordsD {e T T2 : TypeId} {L : Nat} {w : World} {S C : SW} {F G H : Nat -> Prop} {m : BM} {g n c : Nat} (h : OwB e T T2 L w ⟨some ⟨g, 0, none⟩, n, c⟩ S C F G H m) (k : Nat) (y : Int) : OwB e T T2 L (w.setCell ⟨g, k, none⟩ (zv y)) ⟨some ⟨g, 0, none⟩, n, c⟩ S C F G H { m with words := m.words.set k y } := by
 have hF : F g := (h.words.2 g).2 rfl
 have t7 : Exc g w (w.setCell ⟨g, k, none⟩ (zv y)) := (Exc.refl g w).set_ k _
 exact ⟨NRow.store h.words k y, (Js e zv).loc h.seen t7.size fun z hz => t7.block z ((Js e zv).lt h.seen hz) fun e => h.ap12 g hF (by rw [<- e]; exact hz),
  h.counts.loc (Xt (Js _ zv) T) t7.size fun z hz => t7.block z (h.counts.lt (Xt (Js _ zv) T) hz) fun e => h.ap13 g hF (by rw [<- e]; exact hz), h.from1, h.from2, h.from3, h.ap12, h.ap13, h.ap23⟩
theorem Jpt (A : Option Addr) (n c : Nat) (l : List Int) (classes cols smooth way at_ by_ : Int) (B : Nat) (w : World) (h : ReadsI w B A n l) (hB : B <= w.heap.size) (eO : n <= c) (hc : c <= 9223372036854775807) (hl : ∀ x ∈ l, -9223372036854775808 <= x /\ x <= 9223372036854775807)
  (i1 : -9223372036854775808 <= classes /\ classes <= 9223372036854775807) (i2 : -9223372036854775808 <= cols /\ cols <= 9223372036854775807) (i3 : -9223372036854775808 <= smooth /\ smooth <= 9223372036854775807) (i4 : -9223372036854775808 <= way /\ way <= 9223372036854775807) (i5 : -9223372036854775808 <= at_ /\ at_ <= 9223372036854775807) (i6 : -9223372036854775808 <= by_ /\ by_ <= 9223372036854775807) :
  Calls Tryz.prog 12 #[.slice A n c, .int .i64 classes, .int .i64 cols, .int .i64 smooth, .int .i64 way, .int .i64 at_, .int .i64 by_] w fun e w' => ∃ v, e = .returned v /\ DocQ (Jo6 (Jov l classes cols smooth) way at_ by_) v w' /\ Below w.heap.size w w' := by
 have dG : l.length = n := h.len
 have fE : ∀ (M : Nat), 1 <= M -> M <= 1000 -> ∀ (y : Int) (w' : World), -9223372036854775808 <= y -> y <= 9223372036854775807 -> Calls Tryz.prog 13 #[.int .i64 y, .int .i64 (M : Int)] w' fun e w'' => e = .returned (.int .i64 (y % (M : Int))) /\ w' = w'' := fun M h1 h2 y w' h3 h4 => Jpd y M w' h3 h4 h1 (by omega)
 have HPK := lh fE
 obtain ⟨N, hN⟩ : ∃ N : Nat, cols % 3 + 1 = (N : Int) := ⟨(cols % 3 + 1).toNat, by omega⟩
 have kS : 1 <= N /\ N <= 3 := by omega
 obtain ⟨NC, gU⟩ : ∃ NC : Nat, classes % 3 + 1 = (NC : Int) := ⟨(classes % 3 + 1).toNat, by omega⟩
 have jU : 1 <= NC /\ NC <= 3 := by omega
 have gV : Joq cols N = Jon cols := by unfold Joq Jon; rw [show (cols % 3).toNat + 1 = N by omega]
 obtain ⟨M0, fF⟩ : ∃ M0, Jov l classes cols smooth = M0 := ⟨_, rfl⟩
 rw [fF]
 obtain ⟨M1, cH⟩ : ∃ M1, Jo6 M0 way at_ by_ = M1 := ⟨_, rfl⟩
 rw [cH]
 have HM := lh (And.intro fF cH)
 have HN := lh (And.intro hN (And.intro gU gV))
 have H := lh h
 have HL := lh hl
 have HI := lh (And.intro i1 (And.intro i2 (And.intro i3 (And.intro i4 (And.intro i5 i6)))))
 have HBB := lh hB
 have HLN := lh dG
 have HP1 : Hid (∀ w', Calls Tryz.prog 13 #[.int .i64 cols, .int .i64 3] w' fun e w'' => e = .returned (.int .i64 ((N : Int) - 1)) /\ w' = w'') := lh fun w' => by
  have h1 := fE 3 (by decide) (by decide) cols w' i2.1 i2.2
  rw [show cols % ((3 : Nat) : Int) = (N : Int) - 1 by omega] at h1
  exact h1
 clear h hl i1 i2 i3 i4 i5 i6 hB dG fF cH hN gU fE gV
 obtain ⟨b0, hB, hZ⟩ := bx1 w 31 #[.bool false, .slice none 0 0, .slice none 0 0, .slice none 0 0, .slice none 0 0, .slice none 0 0]
 go_enter Tryz.func12, Tryz.ntmps12
 go_upto_region 1 with fail
 generalize (w.alloc (.cells #[.bool false, .slice none 0 0, .slice none 0 0, .slice none 0 0, .slice none 0 0, .slice none 0 0] 31)) = W at *
 have HBW := lh hB
 have HZ := lh hZ.out
 have B0 := lh b0
 clear hB hZ b0
 go_wp2_with fail
 go_loopw [15, 16] (fun v p wr => ∃ k : Nat, k <= N /\ p = .int .i64 (k : Int) /\ Own wr 3 zv v (Joq cols k) /\ (∀ b, v.ownBlock = some b -> W.heap.size <= b) /\ Below W.heap.size W wr) (fun _ p _ => N - (intOf p).toNat)
 case atStart => exact ⟨0, by omega, rfl, Own.nil_ _ _ _, (fun b h => by cases h), Below.refl _ _⟩
 case round =>
  obtain ⟨k, hk, rfl, ho, aH, j8⟩ := hrel
  rename World => wr
  have q1 : (N : Int) - 1 + 1 = N := by omega
  by_cases fG : k < N
  ·as_aux_lemma =>
   have k1 : (k : Int) < (N : Int) := by omega
   have cI := (Jph HI.out.2.1).1
   obtain ⟨cq, jV⟩ : ∃ cq, cols.tdiv 3 = cq := ⟨_, rfl⟩
   have dH := Jpg cols k
   rw [jV] at cI dH
   have bF := Jfv (x := cq) (by omega) (by omega)
   obtain ⟨y, hy⟩ : ∃ y, cq + (k : Int) = y := ⟨_, rfl⟩
   have bG := Jfv (x := y) (by omega) (by omega)
   rw [hy] at dH
   obtain ⟨t, ht⟩ : ∃ t, y % 3 = t := ⟨_, rfl⟩
   have HP2 : Hid (Calls Tryz.prog 13 #[.int .i64 y, .int .i64 3] wr fun e w'' => e = .returned (.int .i64 t) /\ wr = w'') := lh (by
    have h1 := HPK.out 3 (by decide) (by decide) y wr (by omega) (by omega)
    rw [show y % ((3 : Nat) : Int) = t by omega] at h1
    exact h1)
   rw [ht] at dH
   have kT : 0 <= t /\ t < 3 := by omega
   have HO := lh ho
   have HFR := lh (And.intro aH j8)
   have HSN := lh dH
   clear ho aH j8 dH ht HPK
   go_wp2_with fail
   refine (HP1.out _).mono ?_
   rintro e w1 ⟨rfl, rfl⟩
   go_wp2_with fail
   refine HP2.out.mono ?_
   rintro e w1 ⟨rfl, rfl⟩
   go_wp2_with (at_builtin; refine Joi (f := zv) Tryz.eltZ1 rfl (.tmp 30) (.tmp 37) rfl wr _ (Joq cols k) (t + 1) (.int .i64 (t + 1)) rfl rfl HO.out (by simp [Act.eval]) rfl (by rw [Jow]; unfold maxLen; omega) (by rw [Jow]; omega) ?_; intro v' w2 eP cJ)
   have dI := HFR.out.2.trans (cJ.below HFR.out.2.size HFR.out.1)
   have fH := cJ.fresh HFR.out.2.size HFR.out.1
   rw [<- HSN.out] at eP
   exact ⟨⟨k + 1, by omega, by go_num, eP, fH, dI⟩, by simp [intOf]; omega⟩
  as_aux_lemma =>
  obtain rfl : k = N := by omega
  have k1 : ¬ (k : Int) < (k : Int) := by omega
  rw [HN.out.2.2] at ho
  have aL : (Jon cols).length = k := by rw [<- HN.out.2.2, Jow]
  have HWL := lh aL
  obtain ⟨AW, cW, hv, -⟩ := ho.form
  rw [aL] at hv
  subst hv
  clear aL
  have HO := lh ho
  have HFR := lh (And.intro aH j8)
  clear ho aH j8
  obtain ⟨t4, gW⟩ : ∃ t4, smooth % 4 = t4 := ⟨_, rfl⟩
  obtain ⟨sq, gY⟩ : ∃ sq, smooth.tdiv 4 = sq := ⟨_, rfl⟩
  have gZ := (Jph HI.out.2.2.1).2
  rw [gY] at gZ
  obtain ⟨t5, hJ⟩ : ∃ t5, sq % 3 = t5 := ⟨_, rfl⟩
  have kU := Jfv (x := sq) (by omega) (by omega)
  have kV : (0 <= t4 /\ t4 < 4) /\ 0 <= t5 /\ t5 < 3 := by omega
  obtain ⟨q, hq⟩ : ∃ q, Rat.divInt (t4 + 1) (t5 + 1) = q := ⟨_, rfl⟩
  have dD : Jo1 classes cols smooth = Uw NC (Jon cols) q := by
   unfold Jo1
   rw [show (classes % 3).toNat + 1 = NC by have := HN.out.2.1; omega, gY, gW, hJ, <- Rat.divInt_eq_div, hq]
  have iA : Jp6 (NC : Int) (Jon cols) q = Uw NC (Jon cols) q := Jp5 (by
   have h1 := (Joz classes cols smooth).ok
   rw [dD, Kv, Yf] at h1
   have h2 := h1.1.1
   simpa [Uw] using h2)
  have HPC : Hid (∀ w', Calls Tryz.prog 13 #[.int .i64 classes, .int .i64 3] w' fun e w'' => e = .returned (.int .i64 ((NC : Int) - 1)) /\ w' = w'') := lh fun w' => by
   have h1 := HPK.out 3 (by decide) (by decide) classes w' HI.out.1.1 HI.out.1.2
   rw [show classes % ((3 : Nat) : Int) = (NC : Int) - 1 by have := HN.out.2.1; omega] at h1
   exact h1
  have HPS : Hid (∀ w', Calls Tryz.prog 13 #[.int .i64 smooth, .int .i64 4] w' fun e w'' => e = .returned (.int .i64 t4) /\ w' = w'') := lh fun w' => by
   have h1 := HPK.out 4 (by decide) (by decide) smooth w' HI.out.2.2.1.1 HI.out.2.2.1.2
   rw [show smooth % ((4 : Nat) : Int) = t4 by omega] at h1
   exact h1
  have HPT : Hid (∀ w', Calls Tryz.prog 13 #[.int .i64 sq, .int .i64 3] w' fun e w'' => e = .returned (.int .i64 t5) /\ w' = w'') := lh fun w' => by
   have h1 := HPK.out 3 (by decide) (by decide) sq w' (by omega) (by omega)
   rw [show sq % ((3 : Nat) : Int) = t5 by omega] at h1
   exact h1
  have HOV : Hid (∀ w', Calls Tryz.prog 47 #[.int .i64 (t4 + 1), .int .i64 (t5 + 1)] w' (Jmv q w')) := lh fun w' => by
   have h1 := Jk0 (t4 + 1) (t5 + 1) w' (by omega) (by omega) (by omega) (by omega) (by omega)
   rw [hq] at h1
   exact h1
  have q2 : (NC : Int) - 1 + 1 = NC := by omega
  have HST := lh (And.intro dD iA)
  clear gW hJ hq dD iA gZ
  go_wp2_with fail
  refine (HP1.out _).mono ?_
  rintro e w1 ⟨rfl, rfl⟩
  go_upto_region 6 with fail
  go_wp2_with fail
  refine (HPC.out _).mono ?_
  rintro e w1 ⟨rfl, rfl⟩
  go_wp2_with fail
  refine (HPS.out _).mono ?_
  rintro e w1 ⟨rfl, rfl⟩
  go_wp2_with fail
  refine (HPT.out _).mono ?_
  rintro e w1 ⟨rfl, rfl⟩
  go_wp2_with fail
  refine (HOV.out _).mono ?_
  rintro e w5 ⟨V, rfl, cK, j0⟩
  obtain ⟨ng, A7, l7, d7, A8, l8, d8, rfl⟩ := cK.shape
  have fI : ReadsI w5 w5.heap.size AW k (Jon cols) := rkindI.more (rkindI.below (NRow.readsI (NRow.of HO.out)) j0) j0.size
  have HNW := lh (Jqu (NC : Int) AW k cW (Jon cols) ng A7 A8 l7 d7 l8 d8 w5.heap.size q w5 fI zd (by omega) (fun x hx => by have := Jou hx; omega))
  have HB5 := lh (HFR.out.2.trans (j0.mono HFR.out.2.size))
  have HIQ := lh cK
  have HRW := lh fI
  clear j0 cK fI HPC HPS HPT HOV HP1
  rw [HST.out.2] at HNW
  go_wp2_with fail
  refine HNW.out.mono ?_
  rintro e w6 ⟨v, rfl, ⟨⟨A1, n1, c1⟩, ⟨A2, n2, c2⟩, ⟨A3, n3, c3⟩, F, G, Hh, rfl, ho⟩, q9⟩
  simp only [SW.v] at *
  go_upto_region 7 with fail
  have b17 := Blk.new w6 31 #[.bool ng, .slice A7 l7 d7, .slice A8 l8 d8, .slice A1 n1 c1, .slice A2 n2 c2, .slice A3 n3 c3]
  have l6 := Ja q9 (Jb w6 (.cells #[.bool ng, .slice A7 l7 d7, .slice A8 l8 d8, .slice A1 n1 c1, .slice A2 n2 c2, .slice A3 n3 c3] 31))
  have dB := ho.next (Jb w6 (.cells #[.bool ng, .slice A7 l7 d7, .slice A8 l8 d8, .slice A1 n1 c1, .slice A2 n2 c2, .slice A3 n3 c3] 31))
  generalize w6.alloc (.cells #[.bool ng, .slice A7 l7 d7, .slice A8 l8 d8, .slice A1 n1 c1, .slice A2 n2 c2, .slice A3 n3 c3] 31) = w7 at *
  obtain ⟨o1, o2, o3⟩ := ho.old
  have dJ : w5.heap.size <= w6.heap.size := q9.size
  generalize w6.heap.size = g at *
  have dK : DrS w5.heap.size g (.bool ng) (.slice A7 l7 d7) (.slice A8 l8 d8) (Uw NC (Jon cols) q) w7 := ⟨⟨A1, n1, c1⟩, ⟨A2, n2, c2⟩, ⟨A3, n3, c3⟩, F, G, Hh, b17, dB, fun e => by have := o1 _ e; omega, fun e => by have := o2 _ e; omega, fun e => by have := o3 _ e; omega⟩
  have HDI : Hid (DrI (Jon cols) q l M0 w5.heap.size g (.bool ng) (.slice A7 l7 d7) (.slice A8 l8 d8) w5 0 w7) := lh ⟨24, 0, _, by omega, by omega, by rw [<- HM.out.1]; unfold Jov; rw [HST.out.1], by rw [<- HST.out.1]; exact Joz classes cols smooth, by omega, rfl, rfl, dK, l6⟩
  clear l6 q9 ho dB b17 dK o1 o2 o3 HNW HST HO HFR
  go_upto_block 2 with fail
  go_cut [18] (fun v wc => (∃ i : Int, v = .int .i64 i) /\ DrF (Jon cols) q M0 w5.heap.size g (.bool ng) (.slice A7 l7 d7) (.slice A8 l8 d8) w5 wc)
  case first =>
   go_wp2_with fail
   go_loopw [18] (fun p wr => ∃ i : Nat, p = .int .i64 (i : Int) /\ DrI (Jon cols) q l M0 w5.heap.size g (.bool ng) (.slice A7 l7 d7) (.slice A8 l8 d8) w5 i wr) (fun p _ => 1000 - (intOf p).toNat)
   case atStart => exact ⟨0, rfl, HDI.out⟩
   case round =>
    obtain ⟨i, rfl, f, nT, mm, jW, jX, dL, aB, fJ, aC, aW, bQ, j8⟩ := hrel
    clear HDI
    rename World => wr
    have y8 := @Jpk f mm l i
    rw [aC, HWL.out, HLN.out, dL] at y8
    by_cases aM : i + k < n
    case neg =>
     have k2 : ¬ (i : Int) + (k : Int) < (n : Int) := by omega
     have e0 := y8 fun h => aM h.1
     subst e0
     have HDF : Hid (DrF (Jon cols) q M0 w5.heap.size g (.bool ng) (.slice A7 l7 d7) (.slice A8 l8 d8) w5 wr) := lh ⟨nT, by omega, aB, aC, aW, bQ, j8⟩
     clear y8 dL aB aC aW bQ j8
     go_wp2_with fail
     go_meet
     exact ⟨⟨_, rfl⟩, HDF.out⟩
    have k2 : (i : Int) + (k : Int) < (n : Int) := by omega
    by_cases cL : i < 24
    case neg =>
     have k3 : ¬ (i : Int) < 24 := by omega
     have e0 := y8 fun h => cL h.2
     subst e0
     have HDF : Hid (DrF (Jon cols) q M0 w5.heap.size g (.bool ng) (.slice A7 l7 d7) (.slice A8 l8 d8) w5 wr) := lh ⟨nT, by omega, aB, aC, aW, bQ, j8⟩
     clear y8 dL aB aC aW bQ j8
     go_wp2_with fail
     go_meet
     exact ⟨⟨_, rfl⟩, HDF.out⟩
    have k3 : (i : Int) < 24 := by omega
    clear y8
    obtain ⟨f', rfl, aD, bR, bH⟩ := Jpl (l := l) aB (by omega) (by rw [aC, HWL.out, HLN.out]; exact ⟨aM, cL⟩) jX
    rw [aC] at aD bR bH
    rw [HWL.out] at bH
    obtain ⟨row, bS⟩ : ∃ row, Jkx (l.drop (i + 1)) (Jon cols) = row := ⟨_, rfl⟩
    obtain ⟨⟨A1, n1, c1⟩, ⟨A2, n2, c2⟩, ⟨A3, n3, c3⟩, F, G, Hh, bk, ho, dM⟩ := bQ
    simp only [SW.v] at bk
    obtain ⟨ad, g5, o5, y, rfl, jY, eQ, hy, b5⟩ := H.out.spot (k := i) (by omega)
    have iB : l.getD i 0 = y := by rw [List.getD_eq_getElem?_getD, hy]; rfl
    have fK := (ho.read).seen.len
    have bT : mm.seen.length = n2 := ho.read.seen.len
    rw [iB, bT, bS] at aD bR bH
    have fL : 1 <= n2 /\ n2 <= 3 := by have := aB.classes; omega
    obtain ⟨cn, dN⟩ : ∃ cn : Nat, y % (n2 : Int) = (cn : Int) := ⟨(y % (n2 : Int)).toNat, by have := Int.emod_nonneg y (show (n2 : Int) ≠ 0 by omega); omega⟩
    rw [dN] at aD bR bH
    rw [Int.toNat_natCast] at aD bR bH
    obtain ⟨m', dO⟩ : ∃ m', Jn mm row cn 1 = m' := ⟨_, rfl⟩
    have bU : m'.words = Jon cols := by rw [<- dO]; exact aC
    have dP : m'.smooth = q := by rw [<- dO]; exact aW
    rw [dO] at aD bR bH
    obtain ⟨A9, fM⟩ : ∃ A9, Jg4 (some ad) c (i + 1) 1 = A9 := ⟨_, rfl⟩
    obtain ⟨n9, bV⟩ : ∃ n9, n - (i + 1) = n9 := ⟨_, rfl⟩
    obtain ⟨c9, iC⟩ : ∃ c9, c - (i + 1) = c9 := ⟨_, rfl⟩
    have dQ : ∀ w' : World, (Instr.slice 22 (.slice (some ad) n c) (some (.int .i64 ((i : Int) + 1))) none none).run Tryz.prog w' = .ok (.slice A9 n9 c9) w' := fun w' => by
     have := Ji0 (P := Tryz.prog) (Tryz.eltZ1).under (Tryz.eltZ1).info (some ad) n c .i64 ((i : Int) + 1) (by omega) (by omega) w'
     rw [show ((i : Int) + 1).toNat = i + 1 by omega, fM, bV, iC] at this
     exact this
    have aI : Below w5.heap.size w5 wr := j8
    have iD : Below w.heap.size w wr := HBW.out.trans ((HB5.out.trans (j8.mono HB5.out.size)).mono HBW.out.size)
    have bI : ReadsI w5 w5.heap.size A9 n9 (l.drop (i + 1)) := by
     have h1 : Reads w B 1 (Jg4 (some ad) c (i + 1) 1) (n - (i + 1)) ((l.map zv).drop ((i + 1) * 1)) := Reads.cut H.out (show i + 1 <= n by omega) eO
     rw [fM, bV, Nat.mul_one] at h1
     have h2 := rkindI.below (show ReadsI w B A9 n9 (l.drop (i + 1)) by unfold ReadsI; rw [List.map_drop]; exact h1) ((HBW.out.trans (HB5.out.mono HBW.out.size)).mono HBB.out)
     exact rkindI.more h2 (nt HBB.out (HBW.out.trans (HB5.out.mono HBW.out.size)).size)
    have dR : ∀ w', Below wr.heap.size wr w' -> ∀ A6 c6, ReadsI w' w'.heap.size A6 k row -> Calls Tryz.prog 31 #[.agg #[.bool ng, .slice A7 l7 d7, .slice A8 l8 d8, .slice A1 n1 c1, .slice A2 n2 c2, .slice A3 n3 c3], .slice A6 k c6, .int .i64 (cn : Int)] w' fun e w'' => ∃ v, e = .returned v /\ (∃ u, v = .tuple #[u, .int .i64 0] /\ Jq3 w'.heap.size (.bool ng) (.slice A7 l7 d7) (.slice A8 l8 d8) (.slice A1 n1 c1) m' u w'') /\ Below w'.heap.size w' w'' := fun w' hb A6 c6 h6 => by
     refine (Jp3 ng A7 A8 l7 d7 l8 d8 A1 A2 A3 n1 c1 n2 c2 n3 c3 w'.heap.size mm A6 k c6 row cn w' (ho.next hb).read (by rw [aW]; exact (HIQ.out.below (j8.trans (hb.mono j8.size))).more (nt j8.size hb.size)) h6 zd (Za aB.ok) (by omega)).mono ?_
     rintro e w'' ⟨v, rfl, hv, gP⟩
     rw [aD] at hv
     exact ⟨v, rfl, Jqh hv, gP⟩
    have jZ : n9 <= 9223372036854775807 := by omega
    have fN : IntKind.i64.wrap ((i : Int) + 1) = (i : Int) + 1 := IntWalk.i64_in _ (by omega)
    have HTE := lh dR
    have BK := lh bk
    have HBX := lh aI
    have HBY := lh iD
    have HCUT := lh bI
    have HGO := lh (And.intro dL (And.intro bH (And.intro bR (And.intro bU (And.intro dP fJ)))))
    have HOA := lh (And.intro ho dM)
    have HMW := lh (show mm.words = m'.words by rw [bU, aC])
    have k5 : (i : Int) < (n : Int) := by omega
    have fO : m'.seen.length = n2 /\ True := ⟨by rw [<- dO, Yt]; exact bT, trivial⟩
    clear dR bk aI iD bI dL bH bR bU dP fJ ho dM fM bV iC aD aB aC aW j8 fK bT dO iB
    go_upto_region 10 with fail
    go_cut [19, 20] (fun v v20 wc => DrC wr.heap.size (.bool ng) (.slice A7 l7 d7) (.slice A8 l8 d8) (.slice A1 n1 c1) m' wr v v20 wc)
    case first =>
     refine Je0 (DrR wr (.bool ng) (.slice A7 l7 d7) (.slice A8 l8 d8) (.slice A1 n1 c1) k row m' (fun j => ([some (.agg #[.bool ng, .slice A7 l7 d7, .slice A8 l8 d8, .slice A1 n1 c1, .slice A2 n2 c2, .slice A3 n3 c3]), some (.slice (some ad) n c), some (.int .i64 (i : Int)), some (.int .i64 ((i : Int) + 1)), some (.slice A9 n9 c9), some (.slice AW k cW), none, some (.slice (some ad) n c), some (.int .i64 (i : Int)), some (.pointer (some (ad.add i))), some (.int .i64 y), some (.pointer (some ⟨g, 4, none⟩)), some (.slice A2 n2 c2), some (.int .i64 (n2 : Int)), some (.int .i64 (cn : Int)), none, none, none, none, none, none, none] : List (Option Value)).getD j none)) (by kernel_rfl) (by kernel_rfl) (by kernel_rfl) ?_ ?_ [some 69, some 70, some 71, some 72, some 73, some 74, some 75, some 76, some 77, some 78, some 79, some 80, some 81, some 82, some 83, some 84, some 68, some 85, some 86, some 19, none, some 20] rfl ?_
     ·constructor <;> first | exact Jt _ | exact Fixed.start _ _ | (intro h; cases h)
     ·refine ⟨⟨⟨⟨⟨⟨⟨⟨⟨⟨⟨⟨⟨⟨⟨⟨⟨⟨⟨⟨⟨⟨trivial, ?_⟩, ?_⟩, ?_⟩, ?_⟩, ?_⟩, ?_⟩, ?_⟩, ?_⟩, ?_⟩, ?_⟩, ?_⟩, ?_⟩, ?_⟩, ?_⟩, ?_⟩, ?_⟩, ?_⟩, ?_⟩, ?_⟩, ?_⟩, ?_⟩, ?_⟩ <;> intro d val a' w' hS hF hd hp
      ·have e8 : a'.tmps[17]?.getD undef = .pointer (some ⟨g, 0, none⟩) := hS.arg 17 (by kernel_rfl)
       have b0' := BK.out.below hF.bel BK.out.lt
       obtain ⟨y0, y1, y2, y3, y4, y5⟩ := b0'.c6
       refine Xa (v := .agg #[.bool ng, .slice A7 l7 d7, .slice A8 l8 d8, .slice A1 n1 c1, .slice A2 n2 c2, .slice A3 n3 c3]) _ rfl rfl ?_ (show DrR _ _ _ _ _ _ _ _ _ _ _ _ from ⟨hF.bel, hF.fx.step (.inr rfl), hF.v6, hF.v15, hF.v16, hF.v17, hF.v18, hF.v19, hF.v20, hF.v21⟩)
       clear hF hS hd hp
       go_simp
      ·have e8 : a'.tmps[0]?.getD undef = .slice (some ad) n c := hS.arg 0 (by kernel_rfl)
       refine Xa (v := .slice (some ad) n c) _ rfl rfl ?_ (show DrR _ _ _ _ _ _ _ _ _ _ _ _ from ⟨hF.bel, hF.fx.step (.inr rfl), hF.v6, hF.v15, hF.v16, hF.v17, hF.v18, hF.v19, hF.v20, hF.v21⟩)
       clear hF hS hd hp
       go_simp
      ·have e8 : a'.tmps[18]?.getD undef = .int .i64 (i : Int) := hS.arg 18 (by kernel_rfl)
       refine Xa (v := .int .i64 (i : Int)) _ rfl rfl ?_ (show DrR _ _ _ _ _ _ _ _ _ _ _ _ from ⟨hF.bel, hF.fx.step (.inr rfl), hF.v6, hF.v15, hF.v16, hF.v17, hF.v18, hF.v19, hF.v20, hF.v21⟩)
       clear hF hS hd hp
       go_simp
      ·have e1 : a'.tmps[71]?.getD undef = .int .i64 (i : Int) := (hS.res 2 71 (hp 2 (by kernel_rfl)) rfl (by kernel_rfl)).trans (hF.fx 2 _ rfl (hp 2 (by kernel_rfl)))
       refine Xa (v := .int .i64 ((i : Int) + 1)) _ rfl rfl ?_ (show DrR _ _ _ _ _ _ _ _ _ _ _ _ from ⟨hF.bel, hF.fx.step (.inr rfl), hF.v6, hF.v15, hF.v16, hF.v17, hF.v18, hF.v19, hF.v20, hF.v21⟩)
       clear hF hS hd hp
       go_simp
      ·have e1 : a'.tmps[70]?.getD undef = .slice (some ad) n c := (hS.res 1 70 (hp 1 (by kernel_rfl)) rfl (by kernel_rfl)).trans (hF.fx 1 _ rfl (hp 1 (by kernel_rfl)))
       have e2 : a'.tmps[72]?.getD undef = .int .i64 ((i : Int) + 1) := (hS.res 3 72 (hp 3 (by kernel_rfl)) rfl (by kernel_rfl)).trans (hF.fx 3 _ rfl (hp 3 (by kernel_rfl)))
       refine Xa (v := .slice A9 n9 c9) _ rfl rfl ?_ (show DrR _ _ _ _ _ _ _ _ _ _ _ _ from ⟨hF.bel, hF.fx.step (.inr rfl), hF.v6, hF.v15, hF.v16, hF.v17, hF.v18, hF.v19, hF.v20, hF.v21⟩)
       clear hF hS hd hp
       go_simp
      ·have e8 : a'.tmps[15]?.getD undef = .slice AW k cW := hS.arg 15 (by kernel_rfl)
       refine Xa (v := .slice AW k cW) _ rfl rfl ?_ (show DrR _ _ _ _ _ _ _ _ _ _ _ _ from ⟨hF.bel, hF.fx.step (.inr rfl), hF.v6, hF.v15, hF.v16, hF.v17, hF.v18, hF.v19, hF.v20, hF.v21⟩)
       clear hF hS hd hp
       go_simp
      ·have e1 : a'.tmps[73]?.getD undef = .slice A9 n9 c9 := (hS.res 4 73 (hp 4 (by kernel_rfl)) rfl (by kernel_rfl)).trans (hF.fx 4 _ rfl (hp 4 (by kernel_rfl)))
       have e2 : a'.tmps[74]?.getD undef = .slice AW k cW := (hS.res 5 74 (hp 5 (by kernel_rfl)) rfl (by kernel_rfl)).trans (hF.fx 5 _ rfl (hp 5 (by kernel_rfl)))
       have aI := HBX.out.trans (hF.bel.mono HBX.out.size)
       refine Jjm (Ψ := fun v w'' => DrR wr _ _ _ _ _ _ _ _ (upI d 6) (Jf3 val 6 v) w'') _ rfl rfl (args := #[.slice A9 n9 c9, .slice AW k cW]) (w2 := w') (f := 25) ?_ ?_
       ·clear hF hS hd hp
        go_simp
       refine (Jpc A9 n9 c9 (l.drop (i + 1)) AW k cW (Jon cols) w5.heap.size w' (rkindI.below HCUT.out aI) (rkindI.below HRW.out aI) aI.size (by omega) (fun x hx => HL.out x (List.mem_of_mem_drop hx)) (by omega) (fun x hx => by have := Jou hx; omega)).mono ?_
       rintro e w2 ⟨v, rfl, bW, -, j7⟩
       have hG := hF.next j7
       rw [bS] at bW
       obtain ⟨A6, c6, iE, -⟩ := bW.form
       rw [show row.length = k by rw [<- bS, Jkw]; exact HWL.out] at iE
       subst iE
       exact ⟨_, rfl, ⟨hG.bel, hG.fx.step (.inl rfl), fun _ => ⟨A6, c6, rfl, fun _ => NRow.readsI (NRow.of bW)⟩, hG.v15, hG.v16, hG.v17, hG.v18, hG.v19, hG.v20, hG.v21⟩⟩
      ·have e8 : a'.tmps[0]?.getD undef = .slice (some ad) n c := hS.arg 0 (by kernel_rfl)
       refine Xa (v := .slice (some ad) n c) _ rfl rfl ?_ (show DrR _ _ _ _ _ _ _ _ _ _ _ _ from ⟨hF.bel, hF.fx.step (.inr rfl), hF.v6, hF.v15, hF.v16, hF.v17, hF.v18, hF.v19, hF.v20, hF.v21⟩)
       clear hF hS hd hp
       go_simp
      ·have e8 : a'.tmps[18]?.getD undef = .int .i64 (i : Int) := hS.arg 18 (by kernel_rfl)
       refine Xa (v := .int .i64 (i : Int)) _ rfl rfl ?_ (show DrR _ _ _ _ _ _ _ _ _ _ _ _ from ⟨hF.bel, hF.fx.step (.inr rfl), hF.v6, hF.v15, hF.v16, hF.v17, hF.v18, hF.v19, hF.v20, hF.v21⟩)
       clear hF hS hd hp
       go_simp
      ·have e1 : a'.tmps[76]?.getD undef = .slice (some ad) n c := (hS.res 7 76 (hp 7 (by kernel_rfl)) rfl (by kernel_rfl)).trans (hF.fx 7 _ rfl (hp 7 (by kernel_rfl)))
       have e2 : a'.tmps[77]?.getD undef = .int .i64 (i : Int) := (hS.res 8 77 (hp 8 (by kernel_rfl)) rfl (by kernel_rfl)).trans (hF.fx 8 _ rfl (hp 8 (by kernel_rfl)))
       refine Xa (v := .pointer (some (ad.add i))) _ rfl rfl ?_ (show DrR _ _ _ _ _ _ _ _ _ _ _ _ from ⟨hF.bel, hF.fx.step (.inr rfl), hF.v6, hF.v15, hF.v16, hF.v17, hF.v18, hF.v19, hF.v20, hF.v21⟩)
       clear hF hS hd hp
       go_simp
      ·have e1 : a'.tmps[78]?.getD undef = .pointer (some (ad.add i)) := (hS.res 9 78 (hp 9 (by kernel_rfl)) rfl (by kernel_rfl)).trans (hF.fx 9 _ rfl (hp 9 (by kernel_rfl)))
       rw [jY] at e1
       have j0 := b5.below (HBY.out.trans (hF.bel.mono HBY.out.size)) (Nat.lt_of_lt_of_le eQ HBB.out)
       have q9 := j0.1
       refine Xa (v := .int .i64 y) _ rfl rfl ?_ (show DrR _ _ _ _ _ _ _ _ _ _ _ _ from ⟨hF.bel, hF.fx.step (.inr rfl), hF.v6, hF.v15, hF.v16, hF.v17, hF.v18, hF.v19, hF.v20, hF.v21⟩)
       clear hF hS hd hp
       go_simp
      ·have e8 : a'.tmps[17]?.getD undef = .pointer (some ⟨g, 0, none⟩) := hS.arg 17 (by kernel_rfl)
       refine Xa (v := .pointer (some ⟨g, 4, none⟩)) _ rfl rfl ?_ (show DrR _ _ _ _ _ _ _ _ _ _ _ _ from ⟨hF.bel, hF.fx.step (.inr rfl), hF.v6, hF.v15, hF.v16, hF.v17, hF.v18, hF.v19, hF.v20, hF.v21⟩)
       clear hF hS hd hp
       go_simp
      ·have e1 : a'.tmps[80]?.getD undef = .pointer (some ⟨g, 4, none⟩) := (hS.res 11 80 (hp 11 (by kernel_rfl)) rfl (by kernel_rfl)).trans (hF.fx 11 _ rfl (hp 11 (by kernel_rfl)))
       have b0' := BK.out.below hF.bel BK.out.lt
       obtain ⟨y0, y1, y2, y3, y4, y5⟩ := b0'.c6
       refine Xa (v := .slice A2 n2 c2) _ rfl rfl ?_ (show DrR _ _ _ _ _ _ _ _ _ _ _ _ from ⟨hF.bel, hF.fx.step (.inr rfl), hF.v6, hF.v15, hF.v16, hF.v17, hF.v18, hF.v19, hF.v20, hF.v21⟩)
       clear hF hS hd hp
       go_simp
      ·have e1 : a'.tmps[81]?.getD undef = .slice A2 n2 c2 := (hS.res 12 81 (hp 12 (by kernel_rfl)) rfl (by kernel_rfl)).trans (hF.fx 12 _ rfl (hp 12 (by kernel_rfl)))
       refine Xa (v := .int .i64 (n2 : Int)) _ rfl rfl ?_ (show DrR _ _ _ _ _ _ _ _ _ _ _ _ from ⟨hF.bel, hF.fx.step (.inr rfl), hF.v6, hF.v15, hF.v16, hF.v17, hF.v18, hF.v19, hF.v20, hF.v21⟩)
       clear hF hS hd hp
       go_simp
      ·have e1 : a'.tmps[79]?.getD undef = .int .i64 y := (hS.res 10 79 (hp 10 (by kernel_rfl)) rfl (by kernel_rfl)).trans (hF.fx 10 _ rfl (hp 10 (by kernel_rfl)))
       have e2 : a'.tmps[82]?.getD undef = .int .i64 (n2 : Int) := (hS.res 13 82 (hp 13 (by kernel_rfl)) rfl (by kernel_rfl)).trans (hF.fx 13 _ rfl (hp 13 (by kernel_rfl)))
       refine Jjm (Ψ := fun v w'' => DrR wr _ _ _ _ _ _ _ _ (upI d 14) (Jf3 val 14 v) w'') _ rfl rfl (args := #[.int .i64 y, .int .i64 (n2 : Int)]) (w2 := w') (f := 13) ?_ ?_
       ·clear hF hS hd hp
        go_simp
       refine (HPK.out n2 fL.1 (by omega) y w' (HL.out y (List.mem_of_getElem? hy)).1 (HL.out y (List.mem_of_getElem? hy)).2).mono ?_
       rintro e w2 ⟨rfl, rfl⟩
       rw [dN]
       exact ⟨_, rfl, ⟨hF.bel, hF.fx.step (.inr rfl), hF.v6, hF.v15, hF.v16, hF.v17, hF.v18, hF.v19, hF.v20, hF.v21⟩⟩
      ·have e1 : a'.tmps[69]?.getD undef = .agg #[.bool ng, .slice A7 l7 d7, .slice A8 l8 d8, .slice A1 n1 c1, .slice A2 n2 c2, .slice A3 n3 c3] := (hS.res 0 69 (hp 0 (by kernel_rfl)) rfl (by kernel_rfl)).trans (hF.fx 0 _ rfl (hp 0 (by kernel_rfl)))
       have e3 : a'.tmps[83]?.getD undef = .int .i64 (cn : Int) := (hS.res 14 83 (hp 14 (by kernel_rfl)) rfl (by kernel_rfl)).trans (hF.fx 14 _ rfl (hp 14 (by kernel_rfl)))
       have e2 := hS.res 6 75 (hp 6 (by kernel_rfl)) rfl (by kernel_rfl)
       obtain ⟨A6, c6, e6, h6⟩ := hF.v6 (hp 6 (by kernel_rfl))
       rw [e6] at e2
       have h6 := h6 hd
       refine Jjm (Ψ := fun v w'' => DrR wr _ _ _ _ _ _ _ _ (upI d 15) (Jf3 val 15 v) w'') _ rfl rfl (args := #[.agg #[.bool ng, .slice A7 l7 d7, .slice A8 l8 d8, .slice A1 n1 c1, .slice A2 n2 c2, .slice A3 n3 c3], .slice A6 k c6, .int .i64 (cn : Int)]) (w2 := w') (f := 31) ?_ ?_
       ·clear hF hS hd hp
        go_simp
       refine (HTE.out w' hF.bel A6 c6 h6).mono ?_
       rintro e w2 ⟨v, rfl, ⟨u, rfl, S, C, G', H', rfl, hs, aJ, aA, aP⟩, j7⟩
       have hG := hF.next j7
       have dS := hF.bel.size
       refine ⟨_, rfl, ⟨hG.bel, hG.fx.step (.inl rfl), fun h => (hG.v6 h).imp fun A h => h.imp fun c h => ⟨h.1, fun h' => Bool.noConfusion (show true = false from h')⟩, fun _ => ⟨_, _, _, _, _, _, rfl, by simp [Value.oneCell', SW.v], S, C, G', H', rfl, hs, aJ, fun x hx => ⟨nt dS (aA x hx).1, (aA x hx).2⟩, fun x hx => nt dS (aP x hx), fun x hx => ?_⟩, fun h => absurd ((hF.v16 h).1) (by rw [hd]; decide), fun h => absurd ((hF.v17 h).1) (by rw [hd]; decide), fun h => absurd ((hF.v18 h).1) (by rw [hd]; decide), hG.v19, hG.v20, hG.v21⟩⟩
       obtain ⟨g', z0, z1, z2, z3, z4, z5, e11, kA, cZ, -⟩ := hF.v19 hx.1
       have e12 := Jps (e11.symm.trans hx.2)
       subst e12
       have aX := cZ.lt
       exact ⟨fun e => by have := (aA _ e).1; omega, fun e => by have := aP _ e; omega⟩
      ·have e1 := hS.res 15 84 (hp 15 (by kernel_rfl)) rfl (by kernel_rfl)
       have h6 := hp 15 (by kernel_rfl)
       refine Xa (v := val 15) _ rfl rfl ?_ (show DrR _ _ _ _ _ _ _ _ _ _ _ _ from ⟨hF.bel, hF.fx.step (.inl rfl), hF.v6, hF.v15, fun _ => ⟨h6, rfl⟩, hF.v17, hF.v18, hF.v19, hF.v20, hF.v21⟩)
       clear hF hS hd hp
       go_simp
      ·have e1 := hS.res 16 68 (hp 16 (by kernel_rfl)) rfl (by kernel_rfl)
       obtain ⟨h6, h7⟩ := hF.v16 (hp 16 (by kernel_rfl))
       obtain ⟨q0, q1', q2', q3, q4, q5, e6, -⟩ := hF.v15 h6
       rw [h7, e6] at e1
       refine Xa (v := .agg #[q0, q1', q2', q3, q4, q5]) _ rfl rfl ?_ (show DrR _ _ _ _ _ _ _ _ _ _ _ _ from ⟨hF.bel, hF.fx.step (.inl rfl), hF.v6, hF.v15, hF.v16, fun _ => ⟨h6, fun u y (e : val 15 = _) => by rw [e6] at e; injection e with e; exact (Jq6 e).1⟩, hF.v18, fun h => (hF.v19 h).imp fun g h => h.imp fun y0 h => h.imp fun y1 h => h.imp fun y2 h => h.imp fun y3 h => h.imp fun y4 h => h.imp fun y5 h => ⟨h.1, h.2.1, h.2.2.1, fun h' => absurd (h.2.2.2 h').1 (by rw [hd]; decide)⟩, hF.v20, hF.v21⟩)
       clear hF hS hd hp
       go_simp
      ·have e1 := hS.res 16 68 (hp 16 (by kernel_rfl)) rfl (by kernel_rfl)
       obtain ⟨h6, h7⟩ := hF.v16 (hp 16 (by kernel_rfl))
       obtain ⟨q0, q1', q2', q3, q4, q5, e6, -⟩ := hF.v15 h6
       rw [h7, e6] at e1
       refine Xa (v := .int .i64 0) _ rfl rfl ?_ (show DrR _ _ _ _ _ _ _ _ _ _ _ _ from ⟨hF.bel, hF.fx.step (.inl rfl), hF.v6, hF.v15, hF.v16, hF.v17, fun _ => ⟨h6, fun u y (e : val 15 = _) => by rw [e6] at e; injection e with e; exact (Jq6 e).2⟩, hF.v19, hF.v20, fun h => absurd ((hF.v21 h).1) (by rw [hd]; decide)⟩)
       clear hF hS hd hp
       go_simp
      ·have hG := hF.next (Jb w' (.cells #[.bool false, .slice none 0 0, .slice none 0 0, .slice none 0 0, .slice none 0 0, .slice none 0 0] 31))
       have dS := hF.bel.size
       refine Xa (v := .pointer (some ⟨w'.heap.size, 0, none⟩)) (w2 := w'.alloc (.cells #[.bool false, .slice none 0 0, .slice none 0 0, .slice none 0 0, .slice none 0 0, .slice none 0 0] 31)) _ rfl rfl ?_ (show DrR _ _ _ _ _ _ _ _ _ _ _ _ from ⟨hG.bel, hG.fx.step (.inl rfl), hG.v6, fun h => ?_, hG.v16, hG.v17, hG.v18, fun _ => ⟨_, _, _, _, _, _, _, rfl, dS, Blk.new _ _ _, fun h => absurd (hF.v20 h) (by rw [hd]; decide)⟩, fun _ => rfl, hG.v21⟩)
       ·clear hG hF hS hd hp
        go_simp
       obtain ⟨q0, q1', q2', q3, q4, q5, e6, aY, fP⟩ := hF.v15 h
       exact ⟨q0, q1', q2', q3, q4, q5, e6, aY, fP.next (Jb _ _) fun g hg => .inr (by rw [<- Jps (show Value.pointer (some ⟨w'.heap.size, 0, none⟩) = .pointer (some ⟨g, 0, none⟩) from hg.2)]; exact Nat.le_refl _)⟩
      ·obtain ⟨h6, h8⟩ := hF.v17 (hp 17 (by kernel_rfl))
       have bN := hp 19 (by kernel_rfl)
       obtain ⟨g', z0, z1, z2, z3, z4, z5, e11, aA, cZ, -⟩ := hF.v19 bN
       obtain ⟨q0, q1', q2', q3, q4, q5, e6, aY, fP⟩ := hF.v15 h6
       have e8 := h8 _ _ e6
       exact Jde _ rfl rfl _ _ _ rfl rfl g' #[q0, q1', q2', q3, q4, q5] _ ((hS.got 19 19 bN rfl (Nat.le_of_ble_eq_true (by kernel_rfl))).trans e11) ((hS.got 17 85 (hp 17 (by kernel_rfl)) rfl (Nat.le_of_ble_eq_true (by kernel_rfl))).trans e8) _ cZ (by kernel_rfl) rfl aY fun w2 j7 iF => show DrR _ _ _ _ _ _ _ _ _ _ _ _ from ⟨hF.bel.trans (iF.below hF.bel.size aA), hF.fx.step (.inl rfl), fun h => (hF.v6 h).imp fun A h => h.imp fun c h => ⟨h.1, fun h' => absurd (show d 15 = false from h') (by rw [h6]; decide)⟩, fun h => ⟨q0, q1', q2', q3, q4, q5, e6, aY, fP.exc iF ⟨bN, e11⟩⟩, hF.v16, hF.v17, hF.v18, fun _ => ⟨g', _, _, _, _, _, _, e11, aA, j7, fun _ => ⟨hp 17 (by kernel_rfl), e8⟩⟩, fun _ => bN, hF.v21⟩
      ·have e1 := hS.res 18 86 (hp 18 (by kernel_rfl)) rfl (by kernel_rfl)
       have h9 := hp 18 (by kernel_rfl)
       refine Xa (v := val 18) _ rfl rfl ?_ (show DrR _ _ _ _ _ _ _ _ _ _ _ _ from ⟨hF.bel, hF.fx.step (.inl rfl), hF.v6, hF.v15, hF.v16, hF.v17, hF.v18, hF.v19, hF.v20, fun _ => ⟨h9, rfl⟩⟩)
       clear hF hS hd hp
       go_simp
     intro d val w' hF hd
     simp only [Exit.then, Jd7, Act.put, List.setIfInBounds_toArray, List.set_cons_succ, List.set_cons_zero]
     refine ‹∀ a' w', Met _ a' w' -> _› _ _ ?_
     go_meet
     exact hF.end_ hd
    case rest =>
     obtain ⟨g', S, C, G', H', rfl, rfl, bk', hs, aJ, aA, aP, hb⟩ := hcut
     rename World => wc
     have kB := BK.out.lt
     have bkc := BK.out.below hb kB
     have hr := Js 3 zv
     have fQ := hr.loc HOA.out.1.words hb.size fun x hx => hb.block x (hr.lt HOA.out.1.words hx)
     rw [HMW.out] at fQ
     have fR := fun x (hx : F x) => hr.lt HOA.out.1.words hx
     have HX := lh (And.intro (show ∀ x, F x -> x ≠ g from fun x hx e => HOA.out.2.1 (by rw [<- e]; exact hx)) (And.intro (show ∀ x, G' x -> x ≠ g from fun x hx e => by have := (aA x hx).1; omega) (show ∀ x, H' x -> x ≠ g from fun x hx e => by have := aP x hx; omega)))
     have iG : OwB 3 22 65 w5.heap.size wc ⟨A1, n1, c1⟩ S C F G' H' m' := ⟨fQ, hs, aJ, HOA.out.1.from1, fun x hx => nt HBX.out.size (aA x hx).1, fun x hx => nt HBX.out.size (aP x hx), fun x hx e => by have := fR x hx; have := (aA x e).1; omega, fun x hx e => by have := fR x hx; have := aP x e; omega, fun x hx => (aA x hx).2⟩
     have HO' := lh iG
     have HBC := lh (HBX.out.trans (hb.mono HBX.out.size))
     have BKC := lh bkc
     obtain ⟨x0, x1, x2, x3, x4, x5⟩ := bk'.c6
     clear iG fQ fR hs aJ aA aP hb bkc bk' hr HTE HPK dQ
     go_wp2_with (refine Jr rfl _ (.tmp 17) (.tmp 89) rfl g #[.bool ng, .slice A7 l7 d7, .slice A8 l8 d8, .slice A1 n1 c1, .slice S.A S.n S.c, .slice C.A C.n C.c] _ rfl rfl _ BKC.out (by kernel_rfl) rfl (by simp [Value.oneCell']) ?_; intro w8 cF iH; have HX8 := lh iH; have HB8 := lh cF; clear iH cF x0 x1 x2 x3 x4 x5)
     have kW : (i : Int) + (k : Int) + 1 = ((i + k + 1 : Nat) : Int) := by omega
     have dT : DrI (Jon cols) q l M0 w5.heap.size g (.bool ng) (.slice A7 l7 d7) (.slice A8 l8 d8) w5 (i + k + 1) w8 := ⟨f', nT + 1, m', by omega, by omega, HGO.out.2.1.symm.trans HGO.out.1, HGO.out.2.2.1, by have := HGO.out.2.2.2.2.2; omega, HGO.out.2.2.2.1, HGO.out.2.2.2.2.1, ⟨⟨A1, n1, c1⟩, S, C, F, G', H', HB8.out, HO'.out.exc HX8.out (fun e => HX.out.1 g e rfl) (fun e => HX.out.2.1 g e rfl) (fun e => HX.out.2.2 g e rfl), fun e => HX.out.1 g e rfl, fun e => HX.out.2.1 g e rfl, fun e => HX.out.2.2 g e rfl⟩, HBC.out.trans (HX8.out.below HBC.out.size dJ)⟩
     have HFIN := lh dT
     clear dT
     go_roundw
     case rel => exact ⟨i + k + 1, by go_num, HFIN.out⟩
     case measure => simp [intOf]; omega
  case rest =>
   obtain ⟨⟨iv, rfl⟩, nT, fJ, aB, aC, aW, bQ, j0⟩ := hcut
   rename World => wc
   obtain ⟨⟨A1, n1, c1⟩, ⟨A2, n2, c2⟩, ⟨A3, n3, c3⟩, F, G, Hh, bk, ho, dM⟩ := bQ
   simp only [SW.v] at bk
   have kC : n1 = k := by have h1 : M0.words.length = n1 := ho.read.words.len; rw [<- h1, aC]; exact HWL.out
   subst kC
   have bT : M0.seen.length = n2 := ho.read.seen.len
   have fL : 1 <= n2 /\ n2 <= 3 := by have := aB.classes; omega
   obtain ⟨kk, iI⟩ : ∃ kk : Nat, at_ % (n2 : Int) = (kk : Int) := ⟨(at_ % (n2 : Int)).toNat, by have := Int.emod_nonneg at_ (show (n2 : Int) ≠ 0 by omega); omega⟩
   have dU : kk < n2 := by have := Int.emod_lt_of_pos at_ (show (0 : Int) < n2 by omega); omega
   obtain ⟨aq, iJ⟩ : ∃ aq, at_.tdiv 3 = aq := ⟨_, rfl⟩
   have dV := (Jph HI.out.2.2.2.2.1).1
   rw [iJ] at dV
   have kX := Jfv (x := aq) (by omega) (by omega)
   obtain ⟨cc, iK⟩ : ∃ cc : Nat, aq % (n1 : Int) = (cc : Int) := ⟨(aq % (n1 : Int)).toNat, by have := Int.emod_nonneg aq (show (n1 : Int) ≠ 0 by omega); omega⟩
   have kD : cc < n1 := by have := Int.emod_lt_of_pos aq (show (0 : Int) < n1 by omega); omega
   obtain ⟨tb, eR⟩ : ∃ tb, by_ % 9 = tb := ⟨_, rfl⟩
   have kE : 0 <= tb /\ tb < 9 := by omega
   obtain ⟨wy, iL⟩ : ∃ wy, way % 14 = wy := ⟨_, rfl⟩
   have iM : 0 <= wy /\ wy < 14 := by omega
   have HP3 : Hid (∀ w', Calls Tryz.prog 13 #[.int .i64 at_, .int .i64 (n2 : Int)] w' fun e w'' => e = .returned (.int .i64 (kk : Int)) /\ w' = w'') := lh fun w' => by
    have h1 := HPK.out n2 (by omega) (by omega) at_ w' HI.out.2.2.2.2.1.1 HI.out.2.2.2.2.1.2
    rw [iI] at h1
    exact h1
   have HP4 : Hid (∀ w', Calls Tryz.prog 13 #[.int .i64 aq, .int .i64 (n1 : Int)] w' fun e w'' => e = .returned (.int .i64 (cc : Int)) /\ w' = w'') := lh fun w' => by
    have h1 := HPK.out n1 (by omega) (by omega) aq w' (by omega) (by omega)
    rw [iK] at h1
    exact h1
   have HP5 : Hid (∀ w', Calls Tryz.prog 13 #[.int .i64 by_, .int .i64 9] w' fun e w'' => e = .returned (.int .i64 tb) /\ w' = w'') := lh fun w' => by
    have h1 := HPK.out 9 (by decide) (by decide) by_ w' HI.out.2.2.2.2.2.1 HI.out.2.2.2.2.2.2
    rw [show by_ % ((9 : Nat) : Int) = tb by omega] at h1
    exact h1
   have HP6 : Hid (∀ w', Calls Tryz.prog 13 #[.int .i64 way, .int .i64 14] w' fun e w'' => e = .returned (.int .i64 wy) /\ w' = w'') := lh fun w' => by
    have h1 := HPK.out 14 (by decide) (by decide) way w' HI.out.2.2.2.1.1 HI.out.2.2.2.1.2
    rw [show way % ((14 : Nat) : Int) = wy by omega] at h1
    exact h1
   obtain ⟨bb, fA⟩ : ∃ bb, tb - 2 = bb := ⟨_, rfl⟩
   have kF : -2 <= bb /\ bb <= 6 := by omega
   have kY := Jfv (x := bb) (by omega) (by omega)
   have aF : Hid (Jo6 M0 way at_ by_ = M1 /\ (at_ % (M0.seen.length : Int)).toNat = kk /\ ((at_.tdiv 3) % (M0.words.length : Int)).toNat = cc /\ by_ % 9 - 2 = bb /\ way % 14 = wy) := lh ⟨HM.out.2, by rw [bT]; omega, by rw [aC, HWL.out, iJ]; omega, by omega, iL⟩
   have BK := lh bk
   have HO := lh (And.intro ho dM)
   have HDR := lh (And.intro aB (And.intro aC (And.intro aW bT)))
   have HB6 := lh j0
   obtain ⟨x0, x1, x2, x3, x4, x5⟩ := bk.c6
   clear iI iK eR iL aB aC aW bT ho dM j0 bk HPK dV
   go_wp2_with fail
   refine (HP3.out _).mono ?_
   rintro e w1 ⟨rfl, rfl⟩
   go_wp2_with fail
   refine (HP4.out _).mono ?_
   rintro e w1 ⟨rfl, rfl⟩
   go_wp2_with fail
   refine (HP5.out _).mono ?_
   rintro e w1 ⟨rfl, rfl⟩
   go_wp2_with fail
   refine (HP6.out _).mono ?_
   rintro e w1 ⟨rfl, rfl⟩
   go_upto_block 4 with fail
   go_cut [17] (fun v wd => v = .pointer (some ⟨g, 0, none⟩) /\ DrQ g w.heap.size M1 wd /\ Below W.heap.size W wd)
   case first =>
    have cH : Jpi M0 wy kk cc bb = M1 := by rw [<- aF.out.1, Jpo, aF.out.2.1, aF.out.2.2.1, aF.out.2.2.2.1, aF.out.2.2.2.2]
    have HM1 := lh cH
    have iN : Below W.heap.size W wc := HB5.out.trans (HB6.out.mono HB5.out.size)
    have HBV := lh iN
    clear cH iN
    have bX : w.heap.size < w5.heap.size := Nat.lt_of_lt_of_le B0.out.lt HB5.out.size
    have HZQ : Hid (∀ wd, Below w5.heap.size w5 wd -> ∀ w', Exc w.heap.size wd w' -> IsQ w' w'.heap.size (.agg #[.bool ng, .slice A7 l7 d7, .slice A8 l8 d8]) M0.smooth) := lh fun wd hd w' hx => by
     rw [HDR.out.2.2.1]
     exact ((HIQ.out.below hd).more hd.size).excB (B0.out.below (HB5.out.trans (hd.mono HB5.out.size)) B0.out.lt) Jq1 hx
    have HWS := lh (show ∀ x, w5.heap.size <= x -> W.heap.size <= x from fun x hx => nt HB5.out.size hx)
    by_cases iO : wy = 0
    ·subst iO
     have e0 := HM1.out
     unfold Jpi at e0
     rw [if_pos rfl] at e0
     have HE := lh e0
     clear e0 aF HM1
     obtain ⟨gS, rfl⟩ := HO.out.1.seen.blk (by rw [HDR.out.2.2.2]; omega)
     obtain ⟨x, hx⟩ : ∃ x, M0.seen[kk]? = some x := ⟨_, List.getElem?_eq_getElem (by rw [HDR.out.2.2.2]; omega)⟩
     have aN := HO.out.1.seen.cell hx
     unfold zv at aN
     have fS := HO.out.1.seen.frozen kk
     have dW : w5.heap.size <= gS := HO.out.1.from2 gS ((HO.out.1.seen.2 gS).2 rfl)
     have dX : g ≠ gS := fun e => HO.out.2.2.1 (by rw [e]; exact (HO.out.1.seen.2 gS).2 rfl)
     have k1 : (kk : Int) < (n2 : Int) := by omega
     have HS := lh (And.intro dW dX)
     clear hx dW dX
     go_wp2_with fail
     go_meet
     rw [<- HE.out]
     exact ⟨rfl, DrQ.of (W := ⟨A1, n1, c1⟩) (S := ⟨some ⟨gS, 0, none⟩, n2, c2⟩) (C := ⟨A3, n3, c3⟩) (BK.out.far HS.out.2 _) (HZQ.out _ (HB6.out.setCell HS.out.1 _)) ((HO.out.1.setSeen kk bb).rdx bX), HBV.out.setCell (HWS.out _ HS.out.1) _⟩
    by_cases iP : wy = 6
    ·subst iP
     have e0 := HM1.out
     unfold Jpi at e0
     rw [if_neg (by decide), if_neg (by decide), if_neg (by decide), if_neg (by decide), if_neg (by decide), if_neg (by decide), if_pos rfl] at e0
     have HE := lh e0
     clear e0 aF HM1
     obtain ⟨gS, rfl⟩ := HO.out.1.seen.blk (by rw [HDR.out.2.2.2]; omega)
     obtain ⟨x, hx⟩ : ∃ x, M0.seen[kk]? = some x := ⟨_, List.getElem?_eq_getElem (by rw [HDR.out.2.2.2]; omega)⟩
     have aN := HO.out.1.seen.cell hx
     unfold zv at aN
     have fS := HO.out.1.seen.frozen kk
     have dW : w5.heap.size <= gS := HO.out.1.from2 gS ((HO.out.1.seen.2 gS).2 rfl)
     have dX : g ≠ gS := fun e => HO.out.2.2.1 (by rw [e]; exact (HO.out.1.seen.2 gS).2 rfl)
     have k1 : (kk : Int) < (n2 : Int) := by omega
     have HS := lh (And.intro dW dX)
     clear hx dW dX
     go_wp2_with fail
     go_meet
     rw [<- HE.out]
     exact ⟨rfl, DrQ.of (W := ⟨A1, n1, c1⟩) (S := ⟨some ⟨gS, 0, none⟩, n2, c2⟩) (C := ⟨A3, n3, c3⟩) (BK.out.far HS.out.2 _) (HZQ.out _ (HB6.out.setCell HS.out.1 _)) ((HO.out.1.setSeen kk 1073741824).rdx bX), HBV.out.setCell (HWS.out _ HS.out.1) _⟩
    by_cases bF : wy = 1
    ·subst bF
     have e0 := HM1.out
     unfold Jpi at e0
     rw [if_neg (by decide), if_pos rfl] at e0
     have HE := lh e0
     clear e0 aF HM1
     have bJ := Qy HDR.out.1.ok
     have cG : kk < M0.counts.length := by rw [bJ.tabs, HDR.out.2.2.2]; exact dU
     have fT : M0.counts.length = n3 := ReadsS.len HO.out.1.read.counts
     obtain ⟨gT, rfl⟩ := HO.out.1.counts.addr (by omega)
     obtain ⟨t, ht⟩ : ∃ t, M0.counts[kk]? = some t := ⟨_, List.getElem?_eq_getElem cG⟩
     have aL : M0.words.length = n1 := HO.out.1.read.words.len
     have cI : t.length = n1 := by rw [(bJ.fits t (List.mem_of_getElem? ht)).1, aL]
     obtain ⟨b, hb⟩ : ∃ b, t[cc]? = some b := ⟨_, List.getElem?_eq_getElem (by omega)⟩
     have kG := (bJ.nums t (List.mem_of_getElem? ht) b (List.mem_of_getElem? hb)).2.2.2.1
     obtain ⟨y, hy⟩ : ∃ y, b[0]? = some y := ⟨_, List.getElem?_eq_getElem (by omega)⟩
     obtain ⟨u, q1, x, q2, d1, d2, d3, d4⟩ := HO.out.1.deep ht hb hy
     obtain ⟨H', r1, r2, r3⟩ := HO.out.1.setCount ht hb d1 d2 0 bb
     unfold zv at d3
     rw [cI] at d1
     have iQ := HO.out.1.from3 x r3
     have dY : g ≠ x := fun e => HO.out.2.2.2 (by rw [e]; exact r3)
     have k1 : (kk : Int) < (n3 : Int) := by omega
     have k2 : (cc : Int) < (n1 : Int) := by omega
     have k3 : (0 : Int) < (b.length : Int) := by omega
     have e9 : ({ M0 with counts := M0.counts.set kk (t.set cc (b.set 0 bb)) } : BM) = M1 := by rw [<- HE.out, List.getD_eq_getElem?_getD, ht, Option.getD_some, List.getD_eq_getElem?_getD, hb, Option.getD_some]
     have HS := lh (And.intro iQ (And.intro dY (And.intro r1 e9)))
     clear iQ dY r1 r2 r3 e9 bJ ht hb hy fT aL cI kG cG
     go_wp2_with fail
     go_meet
     rw [<- HS.out.2.2.2]
     exact ⟨rfl, DrQ.of (W := ⟨A1, n1, c1⟩) (S := ⟨A2, n2, c2⟩) (C := ⟨some ⟨gT, 0, none⟩, n3, c3⟩) (BK.out.far HS.out.2.1 _) (HZQ.out _ (HB6.out.setCell HS.out.1 _)) (HS.out.2.2.1.rdx bX), HBV.out.setCell (HWS.out _ HS.out.1) _⟩
    by_cases iR : wy = 5
    ·subst iR
     have e0 := HM1.out
     unfold Jpi at e0
     rw [if_neg (by decide), if_neg (by decide), if_neg (by decide), if_neg (by decide), if_neg (by decide), if_pos rfl] at e0
     have HE := lh e0
     clear e0 aF HM1
     have kH := HDR.out.2.2.2
     have iS : n2 <= c2 := by
      obtain ⟨A0, c0, e, h1, -⟩ := Own.form HO.out.1.seen.1
      injection (show Value.slice A2 n2 c2 = _ from e) with e1 e2 e3
      omega
     obtain ⟨Ad, bY⟩ : ∃ Ad, Jg4 A2 c2 1 1 = Ad := ⟨_, rfl⟩
     have hcut : ∀ w' : World, (Instr.slice 22 (.slice A2 n2 c2) (some (.int .i64 1)) none none).run Tryz.prog w' = .ok (.slice Ad (n2 - 1) (c2 - 1)) w' := fun w' => by
      have := Ji0 (P := Tryz.prog) (Tryz.eltZ1).under (Tryz.eltZ1).info A2 n2 c2 .i64 1 (by omega) (by omega) w'
      rw [show (1 : Int).toNat = 1 from rfl, bY] at this
      exact this
     have fS := BK.out.frozen 4
     have t7 := (Exc.refl g wc).set_ 4 (.slice Ad (n2 - 1) (c2 - 1))
     have iT : W.heap.size <= g := nt HB5.out.size dJ
     have HS := lh (And.intro iS (And.intro bY (And.intro t7 iT)))
     clear kH iS bY t7 iT
     go_wp2_with fail
     go_meet
     rw [<- HE.out]
     have eP := HO.out.1.exc HS.out.2.2.1 HO.out.2.1 HO.out.2.2.1 HO.out.2.2.2
     have bk2 : Blk (wc.setCell ⟨g, 4, none⟩ (.slice Ad (n2 - 1) (c2 - 1))) g 31 #[.bool ng, .slice A7 l7 d7, .slice A8 l8 d8, .slice A1 n1 c1, .slice Ad (n2 - 1) (c2 - 1), .slice A3 n3 c3] := by simpa using BK.out.set_ 4 (.slice Ad (n2 - 1) (c2 - 1))
     have dF := RdX.seen1 (eP.rdx bX) fL.1 HS.out.1
     rw [HS.out.2.1] at dF
     exact ⟨rfl, DrQ.of (W := ⟨A1, n1, c1⟩) (S := ⟨Ad, n2 - 1, c2 - 1⟩) (C := ⟨A3, n3, c3⟩) bk2 (HZQ.out _ (HB6.out.setCell dJ _)) dF, HBV.out.setCell HS.out.2.2.2 _⟩
    by_cases bG : wy = 2
    ·subst bG
     have e0 := HM1.out
     unfold Jpi at e0
     rw [if_neg (by decide), if_neg (by decide), if_pos rfl] at e0
     have HE := lh e0
     clear e0 aF HM1
     have bO := fun w' => Jus bb w' (by omega) (by omega)
     have HOF := lh bO
     clear bO
     go_wp2_with fail
     refine (HOF.out _).mono ?_
     rintro e w9 ⟨v, rfl, bZ, aV⟩
     obtain ⟨ng9, B7, m7, f7, B8, m8, f8, rfl⟩ := bZ.shape
     have bk9 := BK.out.below aV BK.out.lt
     clear x0 x1 x2 x3 x4 x5
     obtain ⟨x0, x1, x2, x3, x4, x5⟩ := bk9.c6
     have z0 := bk9.frozen 0
     have z1 := bk9.frozen 1
     have z2 := bk9.frozen 2
     have H9 := lh (And.intro bk9 (And.intro bZ aV))
     clear bk9 bZ aV HOF
     go_wp2_with fail
     go_meet
     rw [<- HE.out]
     have t7 : Exc g w9 (((w9.setCell ⟨g, 0, none⟩ (.bool ng9)).setCell ⟨g, 1, none⟩ (.slice B7 m7 f7)).setCell ⟨g, 2, none⟩ (.slice B8 m8 f8)) := (((Exc.refl g w9).set_ 0 _).set_ 1 _).set_ 2 _
     have bk2 : Blk (((w9.setCell ⟨g, 0, none⟩ (.bool ng9)).setCell ⟨g, 1, none⟩ (.slice B7 m7 f7)).setCell ⟨g, 2, none⟩ (.slice B8 m8 f8)) g 31 #[.bool ng9, .slice B7 m7 f7, .slice B8 m8 f8, .slice A1 n1 c1, .slice A2 n2 c2, .slice A3 n3 c3] := by simpa using ((H9.out.1.set_ 0 (.bool ng9)).set_ 1 (.slice B7 m7 f7)).set_ 2 (.slice B8 m8 f8)
     have aQ := (HBV.out.trans (H9.out.2.2.mono HBV.out.size)).trans (t7.below (HBV.out.trans (H9.out.2.2.mono HBV.out.size)).size (nt HB5.out.size dJ))
     have fU := ((HO.out.1.next H9.out.2.2).exc t7 HO.out.2.1 HO.out.2.2.1 HO.out.2.2.2).rdx bX
     exact ⟨rfl, DrQ.of (W := ⟨A1, n1, c1⟩) (S := ⟨A2, n2, c2⟩) (C := ⟨A3, n3, c3⟩) bk2 (fun w' hx => (H9.out.2.1.excB H9.out.1 Jq1 t7).excB (B0.out.below aQ B0.out.lt) Jq1 hx) (fun w' hx => ⟨(fU w' hx).words, (fU w' hx).seen, (fU w' hx).counts⟩), aQ⟩
    by_cases bK : wy = 3
    ·subst bK
     have e0 := HM1.out
     unfold Jpi at e0
     rw [if_neg (by decide), if_neg (by decide), if_neg (by decide), if_pos rfl] at e0
     have HE := lh e0
     clear e0 aF HM1
     have aL : M0.words.length = n1 := HO.out.1.read.words.len
     have HRC := lh (Reads.alloc HO.out.1.read.words zd (.cells #[] 3))
     have HE0 := lh (Jpb wc)
     have HWN := lh aL
     have bkA := BK.out.alloc (.cells #[] 3)
     clear x0 x1 x2 x3 x4 x5
     obtain ⟨x0, x1, x2, x3, x4, x5⟩ := bkA.c6
     clear bkA aL
     go_upto_region 25 with (at_builtin; refine Jnx Tryz.eltZ1 rfl (.tmp 131) (.tmp 133) rfl (wc.alloc (.cells #[] 3)) _ [] wc.heap.size A1 n1 c1 M0.words rfl HE0.out rfl HRC.out (fun _ => rfl) (by unfold maxLen; simp; omega) (by simp; omega) ?_; intro v' w9 iU aA; obtain ⟨A6, c6, rfl, fV, aH, aV⟩ := Jpf iU aA; rw [HWN.out] at fV aH ⊢; have bk9 := BK.out.below aV BK.out.lt; have kI := bk9.frozen 3; have kJ := bk9.cell 3; have H9 := lh (And.intro bk9 (And.intro fV (And.intro aH aV))); clear iU aA fV aH aV bk9 x0 x1 x2 x3 x4 x5)
     obtain ⟨g9, rfl⟩ := Own.addr H9.out.2.1 (by rw [HWN.out]; omega)
     have iV : wc.heap.size <= g9 := H9.out.2.2.1 g9 rfl
     have bV : g ≠ g9 := by have := BK.out.lt; omega
     have t7 := (Exc.refl g w9).set_ 3 (.slice (some ⟨g9, 0, none⟩) n1 c6)
     have aZ := (HO.out.1.newWords (W' := ⟨some ⟨g9, 0, none⟩, n1, c6⟩) H9.out.2.2.2 HB6.out.size H9.out.2.1 H9.out.2.2.1).exc t7 (fun e => bV (Option.some.inj e).symm) HO.out.2.2.1 HO.out.2.2.2
     have bk10 : Blk (w9.setCell ⟨g, 3, none⟩ (.slice (some ⟨g9, 0, none⟩) n1 c6)) g 31 #[.bool ng, .slice A7 l7 d7, .slice A8 l8 d8, .slice (some ⟨g9, 0, none⟩) n1 c6, .slice A2 n2 c2, .slice A3 n3 c3] := by simpa using H9.out.1.set_ 3 (.slice (some ⟨g9, 0, none⟩) n1 c6)
     have dZ := (HB6.out.trans (H9.out.2.2.2.mono HB6.out.size)).trans (t7.below (HB6.out.trans (H9.out.2.2.2.mono HB6.out.size)).size dJ)
     have eQ : w5.heap.size <= g9 := nt HB6.out.size iV
     clear kI kJ t7 H9
     generalize w9.setCell ⟨g, 3, none⟩ (.slice (some ⟨g9, 0, none⟩) n1 c6) = w10 at *
     obtain ⟨x, hx⟩ : ∃ x, M0.words[cc]? = some x := ⟨_, List.getElem?_eq_getElem (by rw [HWN.out]; omega)⟩
     have aN := aZ.words.cell hx
     unfold zv at aN
     have fS := aZ.words.frozen cc
     obtain ⟨x0, x1, x2, x3, x4, x5⟩ := bk10.c6
     have k1 : (cc : Int) < (n1 : Int) := by omega
     have H10 := lh (And.intro bk10 (And.intro aZ (And.intro dZ (And.intro bV eQ))))
     clear bk10 aZ dZ bV eQ iV hx HRC HE0
     go_wp2_with fail
     go_meet
     rw [<- HE.out]
     have aQ := (HB5.out.trans (H10.out.2.2.1.mono HB5.out.size))
     exact ⟨rfl, DrQ.of (W := ⟨some ⟨g9, 0, none⟩, n1, c6⟩) (S := ⟨A2, n2, c2⟩) (C := ⟨A3, n3, c3⟩) (H10.out.1.far H10.out.2.2.2.1 _) (HZQ.out _ (H10.out.2.2.1.setCell H10.out.2.2.2.2 _)) ((H10.out.2.1.setWordsD cc bb).rdx bX), aQ.setCell (HWS.out _ H10.out.2.2.2.2) _⟩
    by_cases eA : wy = 4
    ·subst eA
     have e0 := HM1.out
     unfold Jpi at e0
     rw [if_neg (by decide), if_neg (by decide), if_neg (by decide), if_neg (by decide), if_pos rfl] at e0
     have HE := lh e0
     clear e0 aF HM1
     have bJ := Qy HDR.out.1.ok
     have cG : kk < M0.counts.length := by rw [bJ.tabs, HDR.out.2.2.2]; exact dU
     have fT : M0.counts.length = n3 := ReadsS.len HO.out.1.read.counts
     obtain ⟨gT, rfl⟩ := HO.out.1.counts.addr (by omega)
     obtain ⟨t, ht⟩ : ∃ t, M0.counts[kk]? = some t := ⟨_, List.getElem?_eq_getElem cG⟩
     have aL : M0.words.length = n1 := HO.out.1.read.words.len
     have cI : 1 <= t.length := by rw [(bJ.fits t (List.mem_of_getElem? ht)).1, aL]; omega
     obtain ⟨At, ct, d1, d2, d3, d4, d5, d6⟩ := (HO.out.1.next (Jt wc)).rdxTab bX ht cI
     obtain ⟨Ad, bY⟩ : ∃ Ad, Jg4 At ct 1 1 = Ad := ⟨_, rfl⟩
     rw [bY] at d6
     have hcut : ∀ w' : World, (Instr.slice 65 (.slice At t.length ct) (some (.int .i64 1)) none none).run Tryz.prog w' = .ok (.slice Ad (t.length - 1) (ct - 1)) w' := fun w' => by
      have := Ji0 (P := Tryz.prog) (Tryz.eltZ2).under (Tryz.eltZ2).info At t.length ct .i64 1 (by omega) (by omega) w'
      rw [show (1 : Int).toNat = 1 from rfl, bY] at this
      exact this
     have k1 : (kk : Int) < (n3 : Int) := by omega
     have dY : g ≠ gT := fun e => HO.out.2.2.2 (by rw [e]; exact d5)
     have e9 : ({ M0 with counts := M0.counts.set kk (t.drop 1) } : BM) = M1 := by rw [<- HE.out, List.getD_eq_getElem?_getD, ht, Option.getD_some]
     have HS := lh (And.intro d4 (And.intro dY (And.intro d6 e9)))
     clear d4 d5 d6 d2 dY e9 bJ ht fT aL cG bY
     go_wp2_with fail
     refine Jo4 10 (fun i => ([.pointer (some ⟨g, 5, none⟩), .slice (some ⟨gT, 0, none⟩) n3 c3, .int .i64 (kk : Int), .pointer (some ⟨g, 5, none⟩), .slice (some ⟨gT, 0, none⟩) n3 c3, .int .i64 (kk : Int), .pointer (some ⟨gT, kk, none⟩), .slice At t.length ct, .slice Ad (t.length - 1) (ct - 1), .pointer (some ⟨gT, kk, none⟩)] : List Value).getD i undef) (wc.drew.setCell ⟨gT, kk, none⟩ (.slice Ad (t.length - 1) (ct - 1))) (by kernel_rfl) (by kernel_rfl) (by kernel_rfl) (by kernel_rfl) ?_ ?_ [some 143, some 144, some 145, some 146, some 147, some 148, some 149, some 150, some 151, some 152, none] rfl ?_
     ·refine ⟨⟨⟨⟨⟨⟨⟨⟨⟨⟨trivial, ?_⟩, ?_⟩, ?_⟩, ?_⟩, ?_⟩, ?_⟩, ?_⟩, ?_⟩, ?_⟩, ?_⟩ <;> intro d a' hS hp
      ·have e1 : a'.tmps[17]?.getD undef = .pointer (some ⟨g, 0, none⟩) := hS.arg 17 (by kernel_rfl)
       refine ⟨_, rfl, .inl ⟨rfl, (show _ = Result.ok (Next.value (.pointer (some ⟨g, 5, none⟩))) _ from ?_)⟩⟩
       clear hS hp
       go_simp
      ·have e1 : a'.tmps[143]?.getD undef = .pointer (some ⟨g, 5, none⟩) := hS.res 0 143 (hp 0 (by kernel_rfl)) rfl (by kernel_rfl)
       refine ⟨_, rfl, .inl ⟨rfl, (show _ = Result.ok (Next.value (.slice (some ⟨gT, 0, none⟩) n3 c3)) _ from ?_)⟩⟩
       clear hS hp
       go_simp
      ·have e1 : a'.tmps[21]?.getD undef = .int .i64 (kk : Int) := hS.arg 21 (by kernel_rfl)
       refine ⟨_, rfl, .inl ⟨rfl, (show _ = Result.ok (Next.value (.int .i64 (kk : Int))) _ from ?_)⟩⟩
       clear hS hp
       go_simp
      ·have e1 : a'.tmps[17]?.getD undef = .pointer (some ⟨g, 0, none⟩) := hS.arg 17 (by kernel_rfl)
       refine ⟨_, rfl, .inl ⟨rfl, (show _ = Result.ok (Next.value (.pointer (some ⟨g, 5, none⟩))) _ from ?_)⟩⟩
       clear hS hp
       go_simp
      ·have e1 : a'.tmps[146]?.getD undef = .pointer (some ⟨g, 5, none⟩) := hS.res 3 146 (hp 3 (by kernel_rfl)) rfl (by kernel_rfl)
       refine ⟨_, rfl, .inl ⟨rfl, (show _ = Result.ok (Next.value (.slice (some ⟨gT, 0, none⟩) n3 c3)) _ from ?_)⟩⟩
       clear hS hp
       go_simp
      ·have e1 : a'.tmps[21]?.getD undef = .int .i64 (kk : Int) := hS.arg 21 (by kernel_rfl)
       refine ⟨_, rfl, .inl ⟨rfl, (show _ = Result.ok (Next.value (.int .i64 (kk : Int))) _ from ?_)⟩⟩
       clear hS hp
       go_simp
      ·have e1 : a'.tmps[147]?.getD undef = .slice (some ⟨gT, 0, none⟩) n3 c3 := hS.res 4 147 (hp 4 (by kernel_rfl)) rfl (by kernel_rfl)
       have e2 : a'.tmps[148]?.getD undef = .int .i64 (kk : Int) := hS.res 5 148 (hp 5 (by kernel_rfl)) rfl (by kernel_rfl)
       refine ⟨_, rfl, .inl ⟨rfl, (show _ = Result.ok (Next.value (.pointer (some ⟨gT, kk, none⟩))) _ from ?_)⟩⟩
       clear hS hp
       go_simp
      ·have e1 : a'.tmps[149]?.getD undef = .pointer (some ⟨gT, kk, none⟩) := hS.res 6 149 (hp 6 (by kernel_rfl)) rfl (by kernel_rfl)
       refine ⟨_, rfl, .inl ⟨rfl, (show _ = Result.ok (Next.value (.slice At t.length ct)) _ from ?_)⟩⟩
       clear hS hp
       go_simp
      ·have e1 : a'.tmps[150]?.getD undef = .slice At t.length ct := hS.res 7 150 (hp 7 (by kernel_rfl)) rfl (by kernel_rfl)
       refine ⟨_, rfl, .inl ⟨rfl, (show _ = Result.ok (Next.value (.slice Ad (t.length - 1) (ct - 1))) _ from ?_)⟩⟩
       clear hS hp
       go_simp
      ·have e1 : a'.tmps[144]?.getD undef = .slice (some ⟨gT, 0, none⟩) n3 c3 := hS.res 1 144 (hp 1 (by kernel_rfl)) rfl (by kernel_rfl)
       have e2 : a'.tmps[145]?.getD undef = .int .i64 (kk : Int) := hS.res 2 145 (hp 2 (by kernel_rfl)) rfl (by kernel_rfl)
       refine ⟨_, rfl, .inl ⟨rfl, (show _ = Result.ok (Next.value (.pointer (some ⟨gT, kk, none⟩))) _ from ?_)⟩⟩
       clear hS hp
       go_simp
     ·intro d a' hS hd
      have e1 : a'.tmps[152]?.getD undef = .pointer (some ⟨gT, kk, none⟩) := hS.res 9 152 (hd 9 (by decide)) rfl (by kernel_rfl)
      have e2 : a'.tmps[151]?.getD undef = .slice Ad (t.length - 1) (ct - 1) := hS.res 8 151 (hd 8 (by decide)) rfl (by kernel_rfl)
      refine ⟨_, rfl, rfl, .inl ⟨?_, rfl⟩⟩
      clear hS hd
      go_simp
     simp only [Exit.inBlock, Exit.then, Jd7, Act.put, List.setIfInBounds_toArray, List.set_cons_succ, List.set_cons_zero]
     refine ‹∀ (a' : Act) (w' : World), _ -> _› _ _ ?_
     go_wp2_with fail
     go_meet
     rw [<- HS.out.2.2.2]
     exact ⟨rfl, DrQ.of (W := ⟨A1, n1, c1⟩) (S := ⟨A2, n2, c2⟩) (C := ⟨some ⟨gT, 0, none⟩, n3, c3⟩) (BK.out.drew.far HS.out.2.1 _) (HZQ.out _ ((HB6.out.trans ((Jt wc).mono HB6.out.size)).setCell HS.out.1 _)) HS.out.2.2.1, (HBV.out.trans ((Jt wc).mono HBV.out.size)).setCell (HWS.out _ HS.out.1) _⟩
    have aR : ¬ (wy = 0 \/ wy = 1 \/ wy = 2 \/ wy = 3 \/ wy = 4 \/ wy = 5 \/ wy = 6) := by omega
    have kK : 7 <= wy := by omega
    clear iO bF bG bK eA iR iP
    have e0 := HM1.out
    rw [Jo2 aR] at e0
    have HE := lh e0
    have p0 : (wy == 0) = false := by simp; omega
    have p1 : (wy == 1) = false := by simp; omega
    have p2 : (wy == 2) = false := by simp; omega
    have p3 : (wy == 3) = false := by simp; omega
    have p4 : (wy == 4) = false := by simp; omega
    have p5 : (wy == 5) = false := by simp; omega
    have p6 : (wy == 6) = false := by simp; omega
    have r0 : ¬ wy = 0 := by omega
    have r1 : ¬ wy = 1 := by omega
    have r2 : ¬ wy = 2 := by omega
    have r3 : ¬ wy = 3 := by omega
    have r4 : ¬ wy = 4 := by omega
    have r5 : ¬ wy = 5 := by omega
    have r6 : ¬ wy = 6 := by omega
    clear e0 aR aF HM1
    go_wp2_with fail
    go_meet
    rw [<- HE.out]
    have b0c := B0.out.below HBV.out B0.out.lt
    exact ⟨rfl, ⟨ng, A7, A8, l7, d7, l8, d8, ⟨A1, n1, c1⟩, ⟨A2, n2, c2⟩, ⟨A3, n3, c3⟩, BK.out, fun w' hx => ⟨by rw [HDR.out.2.2.1]; exact ((HIQ.out.below HB6.out).more HB6.out.size).excB b0c Jq1 hx, (HO.out.1.exc hx (fun e => by have := HO.out.1.from1 _ e; omega) (fun e => by have := HO.out.1.from2 _ e; omega) (fun e => by have := HO.out.1.from3 _ e; omega)).read⟩⟩, HBV.out⟩
   case rest =>
    obtain ⟨rfl, ⟨ng', A7', A8', l7', d7', l8', d8', W', S', C', bk, hq⟩, aQ⟩ := hcut
    rename World => wd
    obtain ⟨y0, y1, y2, y3, y4, y5⟩ := bk.c6
    have BR := lh (B0.out.below aQ B0.out.lt)
    have HQ := lh hq
    have HBD := lh (HBW.out.trans (aQ.mono HBW.out.size))
    clear bk hq aQ HP3 HP4 HP5 HP6 x0 x1 x2 x3 x4 x5 HDR HO BK HB6 HRW HIQ HB5 aF HI HL H HWL HN HM
    simp only [SW.v] at y3 y4 y5
    generalize hgR : w.heap.size = gR at BR HQ ⊢
    go_wp2_with (refine Jr rfl _ (.tmp 14) (.tmp 165) rfl gR #[.bool ng', .slice A7' l7' d7', .slice A8' l8' d8', .slice W'.A W'.n W'.c, .slice S'.A S'.n S'.c, .slice C'.A C'.n C'.c] _ rfl rfl _ BR.out (by kernel_rfl) rfl (by simp [Value.oneCell']) ?_; intro w7 l6 p9; have HX7 := lh p9; have HB7 := lh l6; clear p9 l6 y0 y1 y2 y3 y4 y5)
    obtain ⟨p0, p1, p2, p3, p4, p5⟩ := HB7.out.c6
    refine bodyPost_ret (v := .agg #[.bool ng', .slice A7' l7' d7', .slice A8' l8' d8', .slice W'.A W'.n W'.c, .slice S'.A S'.n S'.c, .slice C'.A C'.n C'.c]) (by simp [results, Tryz.results12, go_sem, p0, p1, p2, p3, p4, p5]) rfl ?_
    exact ⟨_, rfl, ⟨ng', A7', A8', l7', d7', l8', d8', W', S', C', rfl, (HQ.out w7 HX7.out).1, (HQ.out w7 HX7.out).2⟩, HBD.out.trans (HX7.out.below HBD.out.size (Nat.le_of_eq hgR))⟩
theorem Jrt (a : Rat) : Jc2 a a = 0 := by
 unfold Jc2
 rw [if_neg Rat.lt_irrefl, if_neg Rat.lt_irrefl]
def FixR (W : World) (FX : Nat -> Option Value) (d : Nat -> Bool) (val : Nat -> Value) (w : World) : Prop := Below W.heap.size W w /\ Fixed FX d val
theorem FixR.one {W w : World} {FX : Nat -> Option Value} {d : Nat -> Bool} {val : Nat -> Value} {i : Nat} {x : Value} (h : FixR W FX d val w) (hx : FX i = some x) : FixR W FX (upI d i) (Jf3 val i x) w := ⟨h.1, h.2.step (.inr hx)⟩
theorem FixR.call {W w w' : World} {FX : Nat -> Option Value} {d : Nat -> Bool} {val : Nat -> Value} {i : Nat} {x : Value} (h : FixR W FX d val w) (hb : Below w.heap.size w w') (hx : FX i = some x) : FixR W FX (upI d i) (Jf3 val i x) w' := ⟨h.1.trans (hb.mono h.1.size), h.2.step (.inr hx)⟩
theorem Jrr (ng : Bool) (A7 A8 : Option Addr) (l7 d7 l8 d8 : Nat) (A1 A2 A3 : Option Addr) (n1 c1 n2 c2 n3 c3 : Nat) (ng' : Bool) (Y7 Y8 : Option Addr) (l7' d7' l8' d8' : Nat) (Y1 Y2 Y3 : Option Addr) (c1' c2' c3' B : Nat) (m : BM) (w : World) (h : RdB w B ⟨A1, n1, c1⟩ ⟨A2, n2, c2⟩ ⟨A3, n3, c3⟩ m) (hq : IsQ w B (.agg #[.bool ng, .slice A7 l7 d7, .slice A8 l8 d8]) m.smooth)
  (h' : RdB w B ⟨Y1, n1, c1'⟩ ⟨Y2, n2, c2'⟩ ⟨Y3, n3, c3'⟩ m) (cN : IsQ w B (.agg #[.bool ng', .slice Y7 l7' d7', .slice Y8 l8' d8']) m.smooth) (hB : B <= w.heap.size) (hL : LenB m) (hs : QS 68719476736 m.smooth) :
  Calls Tryz.prog 59 #[.agg #[.bool ng, .slice A7 l7 d7, .slice A8 l8 d8, .slice A1 n1 c1, .slice A2 n2 c2, .slice A3 n3 c3], .agg #[.bool ng', .slice Y7 l7' d7', .slice Y8 l8' d8', .slice Y1 n1 c1', .slice Y2 n2 c2', .slice Y3 n3 c3']] w (Ret (.bool true) w) := by
 have bF : m.words.length = n1 := h.words.len
 have bG : m.seen.length = n2 := h.seen.len
 have bK : m.counts.length = n3 := ReadsS.len h.counts
 have hn : n1 <= 1000 /\ n2 <= 1000 /\ n3 <= 1000 := by have := hL.words; have := hL.seen; have := hL.counts; omega
 obtain ⟨b0, b1, hB, hZ⟩ := bx2 w 31 #[.bool ng, .slice A7 l7 d7, .slice A8 l8 d8, .slice A1 n1 c1, .slice A2 n2 c2, .slice A3 n3 c3] 31 #[.bool ng', .slice Y7 l7' d7', .slice Y8 l8' d8', .slice Y1 n1 c1', .slice Y2 n2 c2', .slice Y3 n3 c3']
 go_enter Tryz.func59, Tryz.ntmps59
 go_upto_region 1 with fail
 generalize ((w.alloc (.cells #[.bool ng, .slice A7 l7 d7, .slice A8 l8 d8, .slice A1 n1 c1, .slice A2 n2 c2, .slice A3 n3 c3] 31)).alloc (.cells #[.bool ng', .slice Y7 l7' d7', .slice Y8 l8' d8', .slice Y1 n1 c1', .slice Y2 n2 c2', .slice Y3 n3 c3'] 31)) = W at *
 rename B <= w.heap.size => hBB
 have HCM : Hid (∀ w', Below w.heap.size w w' -> Calls Tryz.prog 76 #[.agg #[.bool ng, .slice A7 l7 d7, .slice A8 l8 d8], .agg #[.bool ng', .slice Y7 l7' d7', .slice Y8 l8' d8']] w' (Ret (.int .i64 0) w')) := lh fun w' hb => by
  have h1 := Jrx m.smooth m.smooth B _ _ w' (hq.below (hb.mono hBB)) (cN.below (hb.mono hBB)) (nt hBB hb.size) hs hs
  rw [Jrt] at h1
  exact h1
 have HSW : Hid (∀ w', Below w.heap.size w w' -> Calls Tryz.prog 106 #[.slice A1 n1 c1, .slice Y1 n1 c1'] w' (Ret (.bool true) w')) := lh fun w' hb => (Jq8 A1 Y1 n1 c1 c1' m.words B B w' (rkindI.below h.words (hb.mono hBB)) (rkindI.below h'.words (hb.mono hBB)) (by omega)).mono fun e w'' h => ⟨h.1, by obtain ⟨k, hk⟩ := h.2; rw [hk]; exact Jw (Below.refl _ _) k⟩
 have HSS : Hid (∀ w', Below w.heap.size w w' -> Calls Tryz.prog 106 #[.slice A2 n2 c2, .slice Y2 n2 c2'] w' (Ret (.bool true) w')) := lh fun w' hb => (Jq8 A2 Y2 n2 c2 c2' m.seen B B w' (rkindI.below h.seen (hb.mono hBB)) (rkindI.below h'.seen (hb.mono hBB)) (by omega)).mono fun e w'' h => ⟨h.1, by obtain ⟨k, hk⟩ := h.2; rw [hk]; exact Jw (Below.refl _ _) k⟩
 have H := lh h.counts
 have H' := lh h'.counts
 have HW := lh bK
 have HL := lh hL
 have HBW := lh hB
 have HBB := lh hBB
 have B0 := lh b0
 have B1 := lh b1
 have aS := b0.lt
 have bL := b1.lt
 have dS := hB.size
 have q0 : ((0 : Int) != 0) = false := by simp
 have q1 : ((n3 : Int) != (n3 : Int)) = false := by simp
 have q2 : ((n3 : Int) == (n3 : Int)) = true := by simp
 obtain ⟨x0, x1, x2, x3, x4, x5⟩ := b0.c6
 obtain ⟨y0, y1, y2, y3, y4, y5⟩ := b1.c6
 clear h h' hq cN hL hs bF bG bK hB hZ hBB b0 b1
 go_wp2_with fail
 refine (HCM.out _ HBW.out).mono ?_
 rintro e w1 ⟨rfl, j9⟩
 have HB1 := lh (HBW.out.trans (j9.mono HBW.out.size))
 have B0' := B0.out.below j9 aS
 have B1' := B1.out.below j9 bL
 have HS1 := lh j9
 clear j9 x0 x1 x2 x3 x4 x5 y0 y1 y2 y3 y4 y5
 obtain ⟨x0, x1, x2, x3, x4, x5⟩ := B0'.c6
 obtain ⟨y0, y1, y2, y3, y4, y5⟩ := B1'.c6
 go_wp2_with fail
 refine (HSW.out _ HB1.out).mono ?_
 rintro e w2 ⟨rfl, j7⟩
 have aT := HS1.out.trans (j7.mono HS1.out.size)
 have B0'' := B0.out.below aT aS
 have B1'' := B1.out.below aT bL
 have HS2 := lh aT
 have HB2 := lh (HBW.out.trans (aT.mono HBW.out.size))
 clear j7 aT x0 x1 x2 x3 x4 x5 y0 y1 y2 y3 y4 y5 B0' B1' HS1 HB1
 obtain ⟨x0, x1, x2, x3, x4, x5⟩ := B0''.c6
 obtain ⟨y0, y1, y2, y3, y4, y5⟩ := B1''.c6
 go_wp2_with fail
 refine (HSS.out _ HB2.out).mono ?_
 rintro e w3 ⟨rfl, y9⟩
 have bA := HS2.out.trans (y9.mono HS2.out.size)
 have B03 := B0.out.below bA aS
 have B13 := B1.out.below bA bL
 have HS3 := lh bA
 clear y9 bA x0 x1 x2 x3 x4 x5 y0 y1 y2 y3 y4 y5 B0'' B1'' HS2 HB2
 obtain ⟨x0, x1, x2, x3, x4, x5⟩ := B03.c6
 obtain ⟨y0, y1, y2, y3, y4, y5⟩ := B13.c6
 clear B03 B13
 go_wp2_with fail
 clear x0 x1 x2 x3 x4 x5 y0 y1 y2 y3 y4 y5
 go_loopw [5] (fun p wr => ∃ k : Nat, k <= n3 /\ p = .int .i64 (k : Int) /\ Below W.heap.size W wr) (fun p _ => n3 - (intOf p).toNat)
 case atStart => exact ⟨0, by omega, rfl, HS3.out⟩
 case round =>
  obtain ⟨k, hk, rfl, cO⟩ := hrel
  rename World => wr
  have HBR := lh cO
  have b0 := B0.out.below cO aS
  have b1 := B1.out.below cO bL
  have j8 := HBW.out.trans (cO.mono HBW.out.size)
  obtain ⟨x0, x1, x2, x3, x4, x5⟩ := b0.c6
  obtain ⟨y0, y1, y2, y3, y4, y5⟩ := b1.c6
  by_cases fG : k < n3
  ·as_aux_lemma =>
   have k1 : (k : Int) < (n3 : Int) := by omega
   obtain ⟨t, ht⟩ : ∃ t, m.counts[k]? = some t := ⟨_, List.getElem?_eq_getElem (by have := HW.out; omega)⟩
   obtain ⟨ad, A4, n4, c4, rfl, aX, hc, hr⟩ := H.out.at_ ht
   obtain ⟨ad', Y4, n4', c4', rfl, cA, eN, bM⟩ := H'.out.at_ ht
   have fW : t.length = n4 := ReadsS.len hr
   obtain rfl : n4' = n4 := by rw [<- fW]; exact (ReadsS.len bM).symm
   have iW : n4' <= 1000 := by have := (HL.out.rows t (List.mem_of_getElem? ht)).1; omega
   have eB := (HL.out.rows t (List.mem_of_getElem? ht)).2
   have aM := Qg (j8.mono HBB.out) hc aX
   have cL := Qg (j8.mono HBB.out) eN cA
   have q3 : ((n4' : Int) != (n4' : Int)) = false := by simp
   have q4 : ((n4' : Int) == (n4' : Int)) = true := by simp
   have HR := lh (And.intro hr (And.intro bM (And.intro fW eB)))
   have HCC := lh (And.intro aM cL)
   have kL := j8.size
   have HK1 := lh (fun w' (hb : Below w.heap.size w w') => Qg (hb.mono HBB.out) hc aX)
   have HK2 := lh (fun w' (hb : Below w.heap.size w w') => Qg (hb.mono HBB.out) eN cA)
   have HB9 := lh j8
   clear hc eN hr bM fW eB ht b0 b1 cO aX cA
   go_upto_region 6 with fail
   go_cut [57] (fun v wc => v = .bool false /\ Below wr.heap.size wr wc)
   case first =>
    go_quiet (fail)
    go_wp2_with fail
    go_meet
    exact ⟨rfl, Jw (Below.refl _ _) _⟩
   case rest =>
    obtain ⟨rfl, j6⟩ := hcut
    rename World => wc
    clear x0 x1 x2 x3 x4 x5 y0 y1 y2 y3 y4 y5
    have HBC := lh (HBR.out.trans (j6.mono HBR.out.size))
    clear j6
    go_wp2_with fail
    go_loopw [6] (fun p w2 => ∃ c : Nat, c <= n4' /\ p = .int .i64 (c : Int) /\ Below W.heap.size W w2) (fun p _ => n4' - (intOf p).toNat)
    case atStart => exact ⟨0, by omega, rfl, HBC.out⟩
    case round =>
     obtain ⟨c, hc, rfl, j7⟩ := hrel
     rename World => w2
     have HB2 := lh j7
     have s9 := HBW.out.trans (j7.mono HBW.out.size)
     have b0 := B0.out.below j7 aS
     have b1 := B1.out.below j7 bL
     obtain ⟨x0, x1, x2, x3, x4, x5⟩ := b0.c6
     obtain ⟨y0, y1, y2, y3, y4, y5⟩ := b1.c6
     have aM := HK1.out w2 s9
     have cL := HK2.out w2 s9
     by_cases dN : c < n4'
     ·as_aux_lemma =>
      have k2 : (c : Int) < (n4' : Int) := by omega
      obtain ⟨o9, bB⟩ : ∃ o9, t[c]? = some o9 := ⟨_, List.getElem?_eq_getElem (by have := HR.out.2.2.1; omega)⟩
      obtain ⟨ad5, A5, n5, c5, rfl, eC, fX, fY⟩ := HR.out.1.at_ bB
      obtain ⟨ad6, A6, n6, c6, rfl, eD, fZ, gA⟩ := HR.out.2.1.at_ bB
      have iX : o9.length = n5 := ReadsI.len fY
      obtain rfl : n6 = n5 := by rw [<- iX]; exact (ReadsI.len gA).symm
      have kZ : n6 <= 1000 := by have := HR.out.2.2.2 o9 (List.mem_of_getElem? bB); omega
      have HC56 := lh (And.intro eC (And.intro fX (And.intro eD fZ)))
      have HSI : Hid (∀ w', Below w2.heap.size w2 w' -> Calls Tryz.prog 106 #[.slice A5 n6 c5, .slice A6 n6 c6] w' (Ret (.bool true) w')) := lh fun w' hb => by
       have aI := s9.trans (hb.mono s9.size)
       exact (Jq8 A5 A6 n6 c5 c6 o9 B B w' (rkindI.below fY (aI.mono HBB.out)) (rkindI.below gA (aI.mono HBB.out)) (by omega)).mono fun e w'' h => ⟨h.1, by obtain ⟨k, hk⟩ := h.2; rw [hk]; exact Jw (Below.refl _ _) k⟩
      have eE := fun w' (hb : Below w2.heap.size w2 w') => Qg ((s9.trans (hb.mono s9.size)).mono HBB.out) fX eC
      have eF := fun w' (hb : Below w2.heap.size w2 w') => Qg ((s9.trans (hb.mono s9.size)).mono HBB.out) fZ eD
      have HK3 := lh (And.intro eE eF)
      have HBW2 := lh s9
      clear fX fZ fY gA bB eE eF s9 j7 b0 b1 iX
      go_upto_region 11 with fail
      go_cut [85] (fun v wd => v = .bool false /\ Below w2.heap.size w2 wd)
      case first =>
       refine Je0 (FixR w2 (fun j => ([some (.pointer (some ⟨w.heap.size, 5, none⟩)), some (.slice (some ad) n3 c3), some (.int .i64 (k : Int)), some (.pointer (some (ad.add k))), some ((.slice (some ad5) n4' c4)), some (.int .i64 (c : Int)), some (.pointer (some (ad5.add c))), some (.slice A5 n6 c5), some (.pointer (some ⟨w.heap.size + 1, 5, none⟩)), some ((.slice (some ad') n3 c3')), some (.int .i64 (k : Int)), some ((.pointer (some (ad'.add k)))), some ((.slice (some ad6) n4' c4')), some (.int .i64 (c : Int)), some (.pointer (some (ad6.add c))), some (.slice A6 n6 c6), some (.bool true), some (.bool false)] : List (Option Value)).getD j none)) (by kernel_rfl) (by kernel_rfl) (by kernel_rfl) ?_ ?_ [some 68, some 69, some 70, some 71, some 72, some 73, some 74, some 75, some 76, some 77, some 78, some 79, some 80, some 81, some 82, some 83, some 84, some 85] rfl ?_
       ·exact ⟨Jt _, Fixed.start _ _⟩
       ·refine ⟨⟨⟨⟨⟨⟨⟨⟨⟨⟨⟨⟨⟨⟨⟨⟨⟨⟨trivial, ?_⟩, ?_⟩, ?_⟩, ?_⟩, ?_⟩, ?_⟩, ?_⟩, ?_⟩, ?_⟩, ?_⟩, ?_⟩, ?_⟩, ?_⟩, ?_⟩, ?_⟩, ?_⟩, ?_⟩, ?_⟩ <;> intro d val a' w' hS hF hd hp
        ·have e8 : a'.tmps[2]?.getD undef = .pointer (some ⟨w.heap.size, 0, none⟩) := hS.arg 2 (by kernel_rfl)
         refine Xa (v := .pointer (some ⟨w.heap.size, 5, none⟩)) _ rfl rfl ?_ (show FixR _ _ _ _ _ from hF.one rfl)
         clear hF hS hd hp
         go_simp
        ·have e1 : a'.tmps[68]?.getD undef = .pointer (some ⟨w.heap.size, 5, none⟩) := (hS.res 0 68 (hp 0 (by kernel_rfl)) rfl (by kernel_rfl)).trans (hF.2 0 _ rfl (hp 0 (by kernel_rfl)))
         have aI := HB2.out.trans (hF.1.mono HB2.out.size)
         have b0' := B0.out.below aI aS
         obtain ⟨z0, z1, z2, z3, z4, z5⟩ := b0'.c6
         refine Xa (v := .slice (some ad) n3 c3) _ rfl rfl ?_ (show FixR _ _ _ _ _ from hF.one rfl)
         clear hF hS hd hp
         go_simp
        ·have e8 : a'.tmps[5]?.getD undef = .int .i64 (k : Int) := hS.arg 5 (by kernel_rfl)
         refine Xa (v := .int .i64 (k : Int)) _ rfl rfl ?_ (show FixR _ _ _ _ _ from hF.one rfl)
         clear hF hS hd hp
         go_simp
        ·have e1 : a'.tmps[69]?.getD undef = .slice (some ad) n3 c3 := (hS.res 1 69 (hp 1 (by kernel_rfl)) rfl (by kernel_rfl)).trans (hF.2 1 _ rfl (hp 1 (by kernel_rfl)))
         have e2 : a'.tmps[70]?.getD undef = .int .i64 (k : Int) := (hS.res 2 70 (hp 2 (by kernel_rfl)) rfl (by kernel_rfl)).trans (hF.2 2 _ rfl (hp 2 (by kernel_rfl)))
         refine Xa (v := .pointer (some (ad.add k))) _ rfl rfl ?_ (show FixR _ _ _ _ _ from hF.one rfl)
         clear hF hS hd hp
         go_simp
        ·have e1 : a'.tmps[71]?.getD undef = .pointer (some (ad.add k)) := (hS.res 3 71 (hp 3 (by kernel_rfl)) rfl (by kernel_rfl)).trans (hF.2 3 _ rfl (hp 3 (by kernel_rfl)))
         have aN := HK1.out w' (HBW2.out.trans (hF.1.mono HBW2.out.size))
         refine Xa (v := (.slice (some ad5) n4' c4)) _ rfl rfl ?_ (show FixR _ _ _ _ _ from hF.one rfl)
         clear hF hS hd hp
         go_simp
        ·have e8 : a'.tmps[6]?.getD undef = .int .i64 (c : Int) := hS.arg 6 (by kernel_rfl)
         refine Xa (v := .int .i64 (c : Int)) _ rfl rfl ?_ (show FixR _ _ _ _ _ from hF.one rfl)
         clear hF hS hd hp
         go_simp
        ·have e1 : a'.tmps[72]?.getD undef = (.slice (some ad5) n4' c4) := (hS.res 4 72 (hp 4 (by kernel_rfl)) rfl (by kernel_rfl)).trans (hF.2 4 _ rfl (hp 4 (by kernel_rfl)))
         have e2 : a'.tmps[73]?.getD undef = .int .i64 (c : Int) := (hS.res 5 73 (hp 5 (by kernel_rfl)) rfl (by kernel_rfl)).trans (hF.2 5 _ rfl (hp 5 (by kernel_rfl)))
         refine Xa (v := .pointer (some (ad5.add c))) _ rfl rfl ?_ (show FixR _ _ _ _ _ from hF.one rfl)
         clear hF hS hd hp
         go_simp
        ·have e1 : a'.tmps[74]?.getD undef = .pointer (some (ad5.add c)) := (hS.res 6 74 (hp 6 (by kernel_rfl)) rfl (by kernel_rfl)).trans (hF.2 6 _ rfl (hp 6 (by kernel_rfl)))
         have aN := HK3.out.1 w' hF.1
         refine Xa (v := .slice A5 n6 c5) _ rfl rfl ?_ (show FixR _ _ _ _ _ from hF.one rfl)
         clear hF hS hd hp
         go_simp
        ·have e8 : a'.tmps[3]?.getD undef = .pointer (some ⟨w.heap.size + 1, 0, none⟩) := hS.arg 3 (by kernel_rfl)
         refine Xa (v := .pointer (some ⟨w.heap.size + 1, 5, none⟩)) _ rfl rfl ?_ (show FixR _ _ _ _ _ from hF.one rfl)
         clear hF hS hd hp
         go_simp
        ·have e1 : a'.tmps[76]?.getD undef = .pointer (some ⟨w.heap.size + 1, 5, none⟩) := (hS.res 8 76 (hp 8 (by kernel_rfl)) rfl (by kernel_rfl)).trans (hF.2 8 _ rfl (hp 8 (by kernel_rfl)))
         have aI := HB2.out.trans (hF.1.mono HB2.out.size)
         have b0' := B1.out.below aI bL
         obtain ⟨z0, z1, z2, z3, z4, z5⟩ := b0'.c6
         refine Xa (v := (.slice (some ad') n3 c3')) _ rfl rfl ?_ (show FixR _ _ _ _ _ from hF.one rfl)
         clear hF hS hd hp
         go_simp
        ·have e8 : a'.tmps[5]?.getD undef = .int .i64 (k : Int) := hS.arg 5 (by kernel_rfl)
         refine Xa (v := .int .i64 (k : Int)) _ rfl rfl ?_ (show FixR _ _ _ _ _ from hF.one rfl)
         clear hF hS hd hp
         go_simp
        ·have e1 : a'.tmps[77]?.getD undef = (.slice (some ad') n3 c3') := (hS.res 9 77 (hp 9 (by kernel_rfl)) rfl (by kernel_rfl)).trans (hF.2 9 _ rfl (hp 9 (by kernel_rfl)))
         have e2 : a'.tmps[78]?.getD undef = .int .i64 (k : Int) := (hS.res 10 78 (hp 10 (by kernel_rfl)) rfl (by kernel_rfl)).trans (hF.2 10 _ rfl (hp 10 (by kernel_rfl)))
         refine Xa (v := (.pointer (some (ad'.add k)))) _ rfl rfl ?_ (show FixR _ _ _ _ _ from hF.one rfl)
         clear hF hS hd hp
         go_simp
        ·have e1 : a'.tmps[79]?.getD undef = (.pointer (some (ad'.add k))) := (hS.res 11 79 (hp 11 (by kernel_rfl)) rfl (by kernel_rfl)).trans (hF.2 11 _ rfl (hp 11 (by kernel_rfl)))
         have aN := HK2.out w' (HBW2.out.trans (hF.1.mono HBW2.out.size))
         refine Xa (v := (.slice (some ad6) n4' c4')) _ rfl rfl ?_ (show FixR _ _ _ _ _ from hF.one rfl)
         clear hF hS hd hp
         go_simp
        ·have e8 : a'.tmps[6]?.getD undef = .int .i64 (c : Int) := hS.arg 6 (by kernel_rfl)
         refine Xa (v := .int .i64 (c : Int)) _ rfl rfl ?_ (show FixR _ _ _ _ _ from hF.one rfl)
         clear hF hS hd hp
         go_simp
        ·have e1 : a'.tmps[80]?.getD undef = (.slice (some ad6) n4' c4') := (hS.res 12 80 (hp 12 (by kernel_rfl)) rfl (by kernel_rfl)).trans (hF.2 12 _ rfl (hp 12 (by kernel_rfl)))
         have e2 : a'.tmps[81]?.getD undef = .int .i64 (c : Int) := (hS.res 13 81 (hp 13 (by kernel_rfl)) rfl (by kernel_rfl)).trans (hF.2 13 _ rfl (hp 13 (by kernel_rfl)))
         refine Xa (v := .pointer (some (ad6.add c))) _ rfl rfl ?_ (show FixR _ _ _ _ _ from hF.one rfl)
         clear hF hS hd hp
         go_simp
        ·have e1 : a'.tmps[82]?.getD undef = .pointer (some (ad6.add c)) := (hS.res 14 82 (hp 14 (by kernel_rfl)) rfl (by kernel_rfl)).trans (hF.2 14 _ rfl (hp 14 (by kernel_rfl)))
         have aN := HK3.out.2 w' hF.1
         refine Xa (v := .slice A6 n6 c6) _ rfl rfl ?_ (show FixR _ _ _ _ _ from hF.one rfl)
         clear hF hS hd hp
         go_simp
        ·have e1 : a'.tmps[75]?.getD undef = .slice A5 n6 c5 := (hS.res 7 75 (hp 7 (by kernel_rfl)) rfl (by kernel_rfl)).trans (hF.2 7 _ rfl (hp 7 (by kernel_rfl)))
         have e2 : a'.tmps[83]?.getD undef = .slice A6 n6 c6 := (hS.res 15 83 (hp 15 (by kernel_rfl)) rfl (by kernel_rfl)).trans (hF.2 15 _ rfl (hp 15 (by kernel_rfl)))
         refine Jjm (Ψ := fun v w'' => FixR w2 _ (upI d 16) (Jf3 val 16 v) w'') _ rfl rfl (args := #[.slice A5 n6 c5, .slice A6 n6 c6]) (w2 := w') (f := 106) ?_ ?_
         ·clear hF hS hd hp
          go_simp
         refine (HSI.out w' hF.1).mono ?_
         rintro e w3 ⟨rfl, y9⟩
         exact ⟨_, rfl, hF.call y9 rfl⟩
        ·have e1 : a'.tmps[84]?.getD undef = .bool true := (hS.res 16 84 (hp 16 (by kernel_rfl)) rfl (by kernel_rfl)).trans (hF.2 16 _ rfl (hp 16 (by kernel_rfl)))
         refine Xa (v := .bool false) _ rfl rfl ?_ (show FixR _ _ _ _ _ from hF.one rfl)
         clear hF hS hd hp
         go_simp
       intro d val w' hF hd
       simp only [Exit.then, Jd7, Act.put, List.setIfInBounds_toArray, List.set_cons_succ, List.set_cons_zero]
       refine ‹∀ a' w', Met _ a' w' -> _› _ _ ?_
       go_meet
       exact ⟨hF.2 17 _ rfl (hd 17 (by decide)), hF.1⟩
      case rest =>
       obtain ⟨rfl, aQ⟩ := hcut
       rename World => wd
       have HBD := lh (HB2.out.trans (aQ.mono HB2.out.size))
       clear aQ x0 x1 x2 x3 x4 x5 y0 y1 y2 y3 y4 y5 aM cL
       go_wp2_with fail
       go_roundw
       case rel => exact ⟨c + 1, by omega, by go_num, HBD.out⟩
       case measure => simp [intOf]; omega
     as_aux_lemma =>
     obtain rfl : c = n4' := by omega
     have k2 : ¬ (c : Int) < (c : Int) := by omega
     clear j7 s9 b0 b1
     go_wp2_with fail
     exact ⟨⟨k + 1, by omega, by go_num, HB2.out⟩, by simp [intOf]; omega⟩
  as_aux_lemma =>
  obtain rfl : k = n3 := by omega
  have k1 : ¬ (k : Int) < (k : Int) := by omega
  have HB9 := lh j8
  clear j8 cO b0 b1
  go_wp2
  go_ret
  exact ⟨rfl, HB9.out⟩
structure SamR (W : World) (q : Rat) (s1 s2 s3 : Value) (FX : Nat -> Option Value) (d : Nat -> Bool) (val : Nat -> Value) (w : World) : Prop where
 bel : Below W.heap.size W w
 fx : Fixed FX d val
 v2 : d 2 = true -> ∃ (a : Bool) (A A' : Option Addr) (l c l' c' : Nat), val 2 = .agg #[.bool a, .slice A l c, .slice A' l' c'] /\ IsQ w w.heap.size (.agg #[.bool a, .slice A l c, .slice A' l' c']) q
 v9 : d 9 = true -> d 2 = true /\ ∀ x y z, val 2 = .agg #[x, y, z] -> val 9 = .agg #[x, y, z, s1, s2, s3]
theorem SamR.next {W w w' : World} {q : Rat} {s1 s2 s3 : Value} {FX : Nat -> Option Value} {d : Nat -> Bool} {val : Nat -> Value} (h : SamR W q s1 s2 s3 FX d val w) (hb : Below w.heap.size w w') : SamR W q s1 s2 s3 FX d val w' where
 bel := h.bel.trans (hb.mono h.bel.size)
 fx := h.fx
 v2 := fun h1 => by
  obtain ⟨a, A, A', l, c, l', c', e, hq⟩ := h.v2 h1
  exact ⟨a, A, A', l, c, l', c', e, (hq.below hb).more hb.size⟩
 v9 := h.v9
theorem arr3 {a b c x y z : Value} (h : #[a, b, c] = #[x, y, z]) : a = x /\ b = y /\ c = z := by simpa using h
theorem Jrn (X1 X2 X3 : Option Addr) (n1 s1 n2 s2 n3 s3 : Nat) (ng' : Bool) (Y7 Y8 : Option Addr) (l7' d7' l8' d8' : Nat) (Y1 Y2 Y3 : Option Addr) (c1' c2' c3' B : Nat) (m : BM) (w : World) (h : RdB w B ⟨X1, n1, s1⟩ ⟨X2, n2, s2⟩ ⟨X3, n3, s3⟩ m)
  (h' : RdB w B ⟨Y1, n1, c1'⟩ ⟨Y2, n2, c2'⟩ ⟨Y3, n3, c3'⟩ m) (cN : IsQ w B (.agg #[.bool ng', .slice Y7 l7' d7', .slice Y8 l8' d8']) m.smooth) (hB : B <= w.heap.size) (hL : LenB m) (hs : QS 68719476736 m.smooth) :
  Calls Tryz.prog 23 #[.agg #[.bool (decide (m.smooth.num < 0)), .int .u64 (lo m.smooth.num.natAbs : Int), .string (mo m.smooth.num.natAbs), .int .u64 (lo ((qden m.smooth)) : Int), .string (mo ((qden m.smooth))), .slice X1 n1 s1, .slice X2 n2 s2, .slice X3 n3 s3], .agg #[.bool ng', .slice Y7 l7' d7', .slice Y8 l8' d8', .slice Y1 n1 c1', .slice Y2 n2 c2', .slice Y3 n3 c3']] w (Ret (.bool true) w) := by
 obtain ⟨q, hq⟩ : ∃ q, m.smooth = q := ⟨_, rfl⟩
 have eS := fun w' => Jlj m.smooth w' (hs.mono (by omega))
 unfold qV at eS
 rw [hq] at eS hs cN ⊢
 obtain ⟨b0, b1, hB, hZ⟩ := bx2 w 43 #[.bool (decide (q.num < 0)), .int .u64 (lo q.num.natAbs : Int), .string (mo q.num.natAbs), .int .u64 (lo (qden q) : Int), .string (mo (qden q)), .slice X1 n1 s1, .slice X2 n2 s2, .slice X3 n3 s3] 31 #[.bool ng', .slice Y7 l7' d7', .slice Y8 l8' d8', .slice Y1 n1 c1', .slice Y2 n2 c2', .slice Y3 n3 c3']
 go_enter Tryz.func23, Tryz.ntmps23
 go_upto_region 1 with fail
 generalize ((w.alloc (.cells #[.bool (decide (q.num < 0)), .int .u64 (lo q.num.natAbs : Int), .string (mo q.num.natAbs), .int .u64 (lo (qden q) : Int), .string (mo (qden q)), .slice X1 n1 s1, .slice X2 n2 s2, .slice X3 n3 s3] 43)).alloc (.cells #[.bool ng', .slice Y7 l7' d7', .slice Y8 l8' d8', .slice Y1 n1 c1', .slice Y2 n2 c2', .slice Y3 n3 c3'] 31)) = W at *
 rename B <= w.heap.size => hBB
 have HSA : Hid (∀ w' a A A' l c l' c', Below w.heap.size w w' -> IsQ w' w'.heap.size (.agg #[.bool a, .slice A l c, .slice A' l' c']) q -> Calls Tryz.prog 59 #[.agg #[.bool a, .slice A l c, .slice A' l' c', .slice X1 n1 s1, .slice X2 n2 s2, .slice X3 n3 s3], .agg #[.bool ng', .slice Y7 l7' d7', .slice Y8 l8' d8', .slice Y1 n1 c1', .slice Y2 n2 c2', .slice Y3 n3 c3']] w' (Ret (.bool true) w')) := lh fun w' a A A' l c l' c' hb hi =>
  Jrr a A A' l c l' c' X1 X2 X3 n1 s1 n2 s2 n3 s3 ng' Y7 Y8 l7' d7' l8' d8' Y1 Y2 Y3 c1' c2' c3' w'.heap.size m w' ((h.below (hb.mono hBB)).more (nt hBB hb.size)) (by rw [hq]; exact hi) ((h'.below (hb.mono hBB)).more (nt hBB hb.size)) (by rw [hq]; exact (cN.below (hb.mono hBB)).more (nt hBB hb.size)) zd hL (by rw [hq]; exact hs)
 have HOU := lh eS
 have HBW := lh hB
 have B0 := lh b0
 have B1 := lh b1
 have aS := b0.lt
 have bL := b1.lt
 clear h h' cN hB hL hs eS hZ b0 b1 hq
 go_cut [4] (fun v wc => v = .bool true /\ Below W.heap.size W wc)
 case first =>
  refine Je0 (SamR W q (.slice X1 n1 s1) (.slice X2 n2 s2) (.slice X3 n3 s3) (fun j => ([some (.pointer (some ⟨w.heap.size, 0, none⟩)), some (.agg #[.bool (decide (q.num < 0)), .int .u64 (lo q.num.natAbs : Int), .string (mo q.num.natAbs), .int .u64 (lo ((qden q)) : Int), .string (mo ((qden q)))]), none, some (.pointer (some ⟨w.heap.size, 5, none⟩)), some (.slice X1 n1 s1), some (.pointer (some ⟨w.heap.size, 6, none⟩)), some (.slice X2 n2 s2), some (.pointer (some ⟨w.heap.size, 7, none⟩)), some (.slice X3 n3 s3), none, some (.agg #[.bool ng', .slice Y7 l7' d7', .slice Y8 l8' d8', .slice Y1 n1 c1', .slice Y2 n2 c2', .slice Y3 n3 c3']), some (.bool true), some (.bool true)] : List (Option Value)).getD j none)) (by kernel_rfl) (by kernel_rfl) (by kernel_rfl) ?_ ?_ [some 5, some 6, some 7, some 8, some 9, some 10, some 11, some 12, some 13, some 14, some 15, some 16, some 4] rfl ?_
  ·constructor <;> first | exact Jt _ | exact Fixed.start _ _ | (intro h; cases h)
  ·refine ⟨⟨⟨⟨⟨⟨⟨⟨⟨⟨⟨⟨⟨trivial, ?_⟩, ?_⟩, ?_⟩, ?_⟩, ?_⟩, ?_⟩, ?_⟩, ?_⟩, ?_⟩, ?_⟩, ?_⟩, ?_⟩, ?_⟩ <;> intro d val a' w' hS hF hd hp
   ·have e8 : a'.tmps[2]?.getD undef = .pointer (some ⟨w.heap.size, 0, none⟩) := hS.arg 2 (by kernel_rfl)
    refine Xa (v := .pointer (some ⟨w.heap.size, 0, none⟩)) _ rfl rfl ?_ (show SamR _ _ _ _ _ _ _ _ _ from ⟨hF.bel, hF.fx.step (.inr rfl), hF.v2, hF.v9⟩)
    clear hF hS hd hp
    go_simp
   ·have e1 : a'.tmps[5]?.getD undef = .pointer (some ⟨w.heap.size, 0, none⟩) := (hS.res 0 5 (hp 0 (by kernel_rfl)) rfl (by kernel_rfl)).trans (hF.fx 0 _ rfl (hp 0 (by kernel_rfl)))
    have b0' := B0.out.below hF.bel aS
    obtain ⟨y0, y1, y2, y3, y4, y5, y6, y7⟩ := b0'.c8
    refine Xa (v := .agg #[.bool (decide (q.num < 0)), .int .u64 (lo q.num.natAbs : Int), .string (mo q.num.natAbs), .int .u64 (lo ((qden q)) : Int), .string (mo ((qden q)))]) _ rfl rfl ?_ (show SamR _ _ _ _ _ _ _ _ _ from ⟨hF.bel, hF.fx.step (.inr rfl), hF.v2, hF.v9⟩)
    clear hF hS hd hp
    go_simp
   ·have e1 : a'.tmps[6]?.getD undef = .agg #[.bool (decide (q.num < 0)), .int .u64 (lo q.num.natAbs : Int), .string (mo q.num.natAbs), .int .u64 (lo ((qden q)) : Int), .string (mo ((qden q)))] := (hS.res 1 6 (hp 1 (by kernel_rfl)) rfl (by kernel_rfl)).trans (hF.fx 1 _ rfl (hp 1 (by kernel_rfl)))
    refine Jjm (Ψ := fun v w'' => SamR W _ _ _ _ _ (upI d 2) (Jf3 val 2 v) w'') _ rfl rfl (args := #[.agg #[.bool (decide (q.num < 0)), .int .u64 (lo q.num.natAbs : Int), .string (mo q.num.natAbs), .int .u64 (lo ((qden q)) : Int), .string (mo ((qden q)))]]) (w2 := w') (f := 60) ?_ ?_
    ·clear hF hS hd hp
     go_simp
    refine (HOU.out w').mono ?_
    rintro e w3 ⟨V, rfl, hV, y9⟩
    obtain ⟨a, A, l, c, A', l', c', rfl⟩ := hV.shape
    have hG := hF.next y9
    exact ⟨_, rfl, ⟨hG.bel, hG.fx.step (.inl rfl), fun _ => ⟨a, A, A', l, c, l', c', rfl, hV⟩, fun h => absurd (hG.v9 h).1 (by rw [hd]; decide)⟩⟩
   ·have e8 : a'.tmps[2]?.getD undef = .pointer (some ⟨w.heap.size, 0, none⟩) := hS.arg 2 (by kernel_rfl)
    refine Xa (v := .pointer (some ⟨w.heap.size, 5, none⟩)) _ rfl rfl ?_ (show SamR _ _ _ _ _ _ _ _ _ from ⟨hF.bel, hF.fx.step (.inr rfl), hF.v2, hF.v9⟩)
    clear hF hS hd hp
    go_simp
   ·have e1 : a'.tmps[8]?.getD undef = .pointer (some ⟨w.heap.size, 5, none⟩) := (hS.res 3 8 (hp 3 (by kernel_rfl)) rfl (by kernel_rfl)).trans (hF.fx 3 _ rfl (hp 3 (by kernel_rfl)))
    have b0' := B0.out.below hF.bel aS
    obtain ⟨y0, y1, y2, y3, y4, y5, y6, y7⟩ := b0'.c8
    refine Xa (v := .slice X1 n1 s1) _ rfl rfl ?_ (show SamR _ _ _ _ _ _ _ _ _ from ⟨hF.bel, hF.fx.step (.inr rfl), hF.v2, hF.v9⟩)
    clear hF hS hd hp
    go_simp
   ·have e8 : a'.tmps[2]?.getD undef = .pointer (some ⟨w.heap.size, 0, none⟩) := hS.arg 2 (by kernel_rfl)
    refine Xa (v := .pointer (some ⟨w.heap.size, 6, none⟩)) _ rfl rfl ?_ (show SamR _ _ _ _ _ _ _ _ _ from ⟨hF.bel, hF.fx.step (.inr rfl), hF.v2, hF.v9⟩)
    clear hF hS hd hp
    go_simp
   ·have e1 : a'.tmps[10]?.getD undef = .pointer (some ⟨w.heap.size, 6, none⟩) := (hS.res 5 10 (hp 5 (by kernel_rfl)) rfl (by kernel_rfl)).trans (hF.fx 5 _ rfl (hp 5 (by kernel_rfl)))
    have b0' := B0.out.below hF.bel aS
    obtain ⟨y0, y1, y2, y3, y4, y5, y6, y7⟩ := b0'.c8
    refine Xa (v := .slice X2 n2 s2) _ rfl rfl ?_ (show SamR _ _ _ _ _ _ _ _ _ from ⟨hF.bel, hF.fx.step (.inr rfl), hF.v2, hF.v9⟩)
    clear hF hS hd hp
    go_simp
   ·have e8 : a'.tmps[2]?.getD undef = .pointer (some ⟨w.heap.size, 0, none⟩) := hS.arg 2 (by kernel_rfl)
    refine Xa (v := .pointer (some ⟨w.heap.size, 7, none⟩)) _ rfl rfl ?_ (show SamR _ _ _ _ _ _ _ _ _ from ⟨hF.bel, hF.fx.step (.inr rfl), hF.v2, hF.v9⟩)
    clear hF hS hd hp
    go_simp
   ·have e1 : a'.tmps[12]?.getD undef = .pointer (some ⟨w.heap.size, 7, none⟩) := (hS.res 7 12 (hp 7 (by kernel_rfl)) rfl (by kernel_rfl)).trans (hF.fx 7 _ rfl (hp 7 (by kernel_rfl)))
    have b0' := B0.out.below hF.bel aS
    obtain ⟨y0, y1, y2, y3, y4, y5, y6, y7⟩ := b0'.c8
    refine Xa (v := .slice X3 n3 s3) _ rfl rfl ?_ (show SamR _ _ _ _ _ _ _ _ _ from ⟨hF.bel, hF.fx.step (.inr rfl), hF.v2, hF.v9⟩)
    clear hF hS hd hp
    go_simp
   ·have e1 := hS.res 2 7 (hp 2 (by kernel_rfl)) rfl (by kernel_rfl)
    have h2 := hp 2 (by kernel_rfl)
    obtain ⟨a, A, A', l, c, l', c', e, -⟩ := hF.v2 h2
    rw [e] at e1
    have e2 : a'.tmps[9]?.getD undef = .slice X1 n1 s1 := (hS.res 4 9 (hp 4 (by kernel_rfl)) rfl (by kernel_rfl)).trans (hF.fx 4 _ rfl (hp 4 (by kernel_rfl)))
    have e3 : a'.tmps[11]?.getD undef = .slice X2 n2 s2 := (hS.res 6 11 (hp 6 (by kernel_rfl)) rfl (by kernel_rfl)).trans (hF.fx 6 _ rfl (hp 6 (by kernel_rfl)))
    have e4 : a'.tmps[13]?.getD undef = .slice X3 n3 s3 := (hS.res 8 13 (hp 8 (by kernel_rfl)) rfl (by kernel_rfl)).trans (hF.fx 8 _ rfl (hp 8 (by kernel_rfl)))
    refine Xa (v := .agg #[.bool a, .slice A l c, .slice A' l' c', .slice X1 n1 s1, .slice X2 n2 s2, .slice X3 n3 s3]) _ rfl rfl ?_ (show SamR _ _ _ _ _ _ _ _ _ from ⟨hF.bel, hF.fx.step (.inl rfl), hF.v2, fun _ => ⟨h2, fun x y z (e' : val 2 = _) => by rw [e] at e'; injection e' with e'; obtain ⟨rfl, rfl, rfl⟩ := arr3 e'; rfl⟩⟩)
    clear hF hS hd hp
    go_simp
   ·have e8 : a'.tmps[3]?.getD undef = .pointer (some ⟨w.heap.size + 1, 0, none⟩) := hS.arg 3 (by kernel_rfl)
    have b1' := B1.out.below hF.bel bL
    obtain ⟨y0, y1, y2, y3, y4, y5⟩ := b1'.c6
    refine Xa (v := .agg #[.bool ng', .slice Y7 l7' d7', .slice Y8 l8' d8', .slice Y1 n1 c1', .slice Y2 n2 c2', .slice Y3 n3 c3']) _ rfl rfl ?_ (show SamR _ _ _ _ _ _ _ _ _ from ⟨hF.bel, hF.fx.step (.inr rfl), hF.v2, hF.v9⟩)
    clear hF hS hd hp
    go_simp
   ·have e1 := hS.res 9 14 (hp 9 (by kernel_rfl)) rfl (by kernel_rfl)
    obtain ⟨h2, h9⟩ := hF.v9 (hp 9 (by kernel_rfl))
    obtain ⟨a, A, A', l, c, l', c', e, hi⟩ := hF.v2 h2
    rw [h9 _ _ _ e] at e1
    have e2 : a'.tmps[15]?.getD undef = .agg #[.bool ng', .slice Y7 l7' d7', .slice Y8 l8' d8', .slice Y1 n1 c1', .slice Y2 n2 c2', .slice Y3 n3 c3'] := (hS.res 10 15 (hp 10 (by kernel_rfl)) rfl (by kernel_rfl)).trans (hF.fx 10 _ rfl (hp 10 (by kernel_rfl)))
    refine Jjm (Ψ := fun v w'' => SamR W _ _ _ _ _ (upI d 11) (Jf3 val 11 v) w'') _ rfl rfl (args := #[.agg #[.bool a, .slice A l c, .slice A' l' c', .slice X1 n1 s1, .slice X2 n2 s2, .slice X3 n3 s3], .agg #[.bool ng', .slice Y7 l7' d7', .slice Y8 l8' d8', .slice Y1 n1 c1', .slice Y2 n2 c2', .slice Y3 n3 c3']]) (w2 := w') (f := 59) ?_ ?_
    ·clear hF hS hd hp
     go_simp
    refine (HSA.out w' a A A' l c l' c' (HBW.out.trans (hF.bel.mono HBW.out.size)) hi).mono ?_
    rintro e w3 ⟨rfl, y9⟩
    have hG := hF.next y9
    exact ⟨_, rfl, ⟨hG.bel, hG.fx.step (.inr rfl), hG.v2, hG.v9⟩⟩
   ·have e1 : a'.tmps[16]?.getD undef = .bool true := (hS.res 11 16 (hp 11 (by kernel_rfl)) rfl (by kernel_rfl)).trans (hF.fx 11 _ rfl (hp 11 (by kernel_rfl)))
    refine Xa (v := .bool true) _ rfl rfl ?_ (show SamR _ _ _ _ _ _ _ _ _ from ⟨hF.bel, hF.fx.step (.inr rfl), hF.v2, hF.v9⟩)
    clear hF hS hd hp
    go_simp
  intro d val w' hF hd
  simp only [Exit.then, Jd7, Act.put, List.setIfInBounds_toArray, List.set_cons_succ, List.set_cons_zero]
  refine ‹∀ a' w', Met _ a' w' -> _› _ _ ?_
  go_meet
  exact ⟨hF.fx 12 _ rfl (hd 12 (by decide)), hF.bel⟩
 case rest =>
  obtain ⟨rfl, j6⟩ := hcut
  have HB9 := lh (HBW.out.trans (j6.mono HBW.out.size))
  clear j6
  go_wp2
  go_ret
  exact ⟨rfl, HB9.out⟩
theorem Juk {m : BM} (h : LenB m) (way a b : Int) : LenB (Jo6 m way a b) := by
 have eG : ∀ {l : List (List (List Int))} {k : Nat} {t : List (List Int)}, (∀ x ∈ l, x.length <= 1000 /\ ∀ o9 ∈ x, o9.length <= 1000) -> (t.length <= 1000 /\ ∀ o9 ∈ t, o9.length <= 1000) -> ∀ x ∈ l.set k t, x.length <= 1000 /\ ∀ o9 ∈ x, o9.length <= 1000 := fun h1 h2 x hx => (List.mem_or_eq_of_mem_set hx).elim (h1 x) fun e => e ▸ h2
 have aU : ∀ k, ((m.counts.getD k []).length <= 1000 /\ ∀ o9 ∈ m.counts.getD k [], o9.length <= 1000) := fun k => by
  rw [List.getD_eq_getElem?_getD]
  cases e : m.counts[k]? with
  | none => exact ⟨Nat.zero_le _, fun o9 hc => by cases hc⟩
  | some t => exact h.rows t (List.mem_of_getElem? e)
 unfold Jo6
 simp only
 split
 ·exact ⟨h.words, by rw [List.length_set]; exact h.seen, h.counts, h.rows⟩
 split
 ·refine ⟨h.words, h.seen, by rw [List.length_set]; exact h.counts, eG h.rows ⟨by rw [List.length_set]; exact (aU _).1, fun o9 hc => ?_⟩⟩
  rcases List.mem_or_eq_of_mem_set hc with h1 | rfl
  ·exact (aU _).2 o9 h1
  rw [List.length_set, List.getD_eq_getElem?_getD]
  cases e : (m.counts.getD (a % (m.seen.length : Int)).toNat [])[((a.tdiv 3) % (m.words.length : Int)).toNat]? with
  | none => exact Nat.zero_le _
  | some o9 => exact (aU _).2 o9 (List.mem_of_getElem? e)
 split
 ·exact ⟨h.words, h.seen, h.counts, h.rows⟩
 split
 ·exact ⟨by rw [List.length_set]; exact h.words, h.seen, h.counts, h.rows⟩
 split
 ·exact ⟨h.words, h.seen, by rw [List.length_set]; exact h.counts, eG h.rows ⟨by rw [List.length_drop]; have := (aU (a % (m.seen.length : Int)).toNat).1; omega, fun o9 hc => (aU _).2 o9 (List.mem_of_mem_drop hc)⟩⟩
 split
 ·exact ⟨h.words, by rw [List.length_drop]; have := h.seen; omega, h.counts, h.rows⟩
 split
 ·exact ⟨h.words, by rw [List.length_set]; exact h.seen, h.counts, h.rows⟩
 exact h
theorem Jum {m : BM} (h : QS 1000 m.smooth) (way a b : Int) : QS 1000 (Jo6 m way a b).smooth := by
 have hb : QS 1000 (((b % 9 - 2 : Int)) : Rat) := by
  have h0 : 0 <= b % 9 /\ b % 9 < 9 := by omega
  rcases Int.le_total 0 (b % 9 - 2) with h1 | h1
  ·exact (QS.cnt (k := 4) h1 (by omega) (by omega)).mono (by omega)
  have h2 := (QS.cnt (k := 4) (n := -(b % 9 - 2)) (by omega) (by omega) (by omega)).neg
  rw [show ((-(b % 9 - 2) : Int) : Rat) = -(((b % 9 - 2 : Int)) : Rat) from Rat.intCast_neg _, Rat.neg_neg] at h2
  exact h2.mono (by omega)
 unfold Jo6
 simp only
 split
 ·exact h
 split
 ·exact h
 split
 ·exact hb
 split
 ·exact h
 split
 ·exact h
 split
 ·exact h
 split
 ·exact h
 exact h
theorem Juj (w : World) : Calls Tryz.prog 22 #[.agg #[.bool false, .int .u64 0, .string ⟨#[]⟩, .int .u64 0, .string ⟨#[]⟩, .slice none 0 0, .slice none 0 0, .slice none 0 0]] w (Ret (.bool true) w) := by
 have gB := fun w => Vn 0 w ⟨by decide, by decide⟩
 rw [show qV 0 = .agg #[.bool false, .int .u64 0, .string ⟨#[]⟩, .int .u64 0, .string ⟨#[]⟩] from rfl] at gB
 have HSG := lh gB
 clear gB
 obtain ⟨b0, hB, hZ⟩ := bx1 w 43 #[.bool false, .int .u64 0, .string ⟨#[]⟩, .int .u64 0, .string ⟨#[]⟩, .slice none 0 0, .slice none 0 0, .slice none 0 0]
 go_enter Tryz.func22, Tryz.ntmps22
 go_upto_region 1 with fail
 generalize (w.alloc (.cells #[.bool false, .int .u64 0, .string ⟨#[]⟩, .int .u64 0, .string ⟨#[]⟩, .slice none 0 0, .slice none 0 0, .slice none 0 0] 43)) = W at *
 obtain ⟨x0, x1, x2, x3, x4, x5, x6, x7⟩ := b0.c8
 have B0' := lh b0
 have HB := lh hB
 clear b0 hB
 go_wp2_with fail
 refine (HSG.out _).mono ?_
 rintro e w1 ⟨rfl, j9⟩
 clear x0 x1 x2 x3 x4 x5 x6 x7
 obtain ⟨x0, x1, x2, x3, x4, x5, x6, x7⟩ := (B0'.out.below j9 B0'.out.lt).c8
 have HB1 := lh (HB.out.trans (j9.mono HB.out.size))
 clear j9
 go_wp2
 go_ret
 exact ⟨rfl, HB1.out⟩
theorem Ju1 {t : List (List Int)} (h : t.length <= 1000 /\ ∀ o9 ∈ t, o9.length <= 1000) (row : List Int) (b : Int) : (Zs t row b).length <= 1000 /\ ∀ o9 ∈ Zs t row b, o9.length <= 1000 := by
 refine ⟨by rw [Yn]; omega, fun o9 hc => ?_⟩
 obtain ⟨i, hi, e⟩ := List.getElem_of_mem hc
 unfold Zs at e hi
 rw [List.getElem_zipWith] at e
 rw [<- e, Ki]
 exact h.2 _ (List.getElem_mem _)
theorem Juu {m : BM} (h : LenB m) (row : List Int) (c : Nat) (b : Int) : LenB (Jn m row c b) := by
 refine ⟨h.words, by rw [Yt]; exact h.seen, by show (m.counts.set _ _).length <= 1000; rw [List.length_set]; exact h.counts, fun t ht => ?_⟩
 rcases List.mem_or_eq_of_mem_set (show t ∈ m.counts.set c (Zs (m.counts.getD c []) row b) from ht) with h1 | rfl
 ·exact h.rows t h1
 refine Ju1 ?_ row b
 rw [List.getD_eq_getElem?_getD]
 cases e : m.counts[c]? with
 | none => exact ⟨Nat.zero_le _, fun o9 hc => by cases hc⟩
 | some t => exact h.rows t (List.mem_of_getElem? e)
theorem Juz (ng : Bool) (A7 A8 : Option Addr) (l7 d7 l8 d8 : Nat) (A1 A2 A3 : Option Addr) (n1 c1 n2 c2 n3 c3 B : Nat) (m : BM) (A4 : Option Addr) (n4 c4 : Nat) (row : List Int) (cl : Int) (w : World) (h : RdB w B ⟨A1, n1, c1⟩ ⟨A2, n2, c2⟩ ⟨A3, n3, c3⟩ m) (hq : IsQ w B (.agg #[.bool ng, .slice A7 l7 d7, .slice A8 l8 d8]) m.smooth) (h4 : ReadsI w B A4 n4 row) (hB : B <= w.heap.size) (hL : LenB m) (iW : n4 <= 1000) :
  Calls Tryz.prog 33 #[.agg #[.bool ng, .slice A7 l7 d7, .slice A8 l8 d8, .slice A1 n1 c1, .slice A2 n2 c2, .slice A3 n3 c3], .slice A4 n4 c4, .int .i64 cl] w fun e w' => ∃ v, e = .returned v /\ Jq7 w.heap.size (.bool ng) (.slice A7 l7 d7) (.slice A8 l8 d8) (.slice A1 n1 c1) (Yd m row cl) v w' /\ Below w.heap.size w w' := by
 have bF : m.words.length = n1 := h.words.len
 have bG : m.seen.length = n2 := h.seen.len
 have bK : m.counts.length = n3 := ReadsS.len h.counts
 have eA : row.length = n4 := h4.len
 obtain ⟨R, hR⟩ : ∃ R, Yd m row cl = R := ⟨_, rfl⟩
 rw [hR]
 have HR := lh hR
 clear hR
 obtain ⟨b0, b1, hB, hZ⟩ := bx2 w 31 #[.bool ng, .slice A7 l7 d7, .slice A8 l8 d8, .slice A1 n1 c1, .slice A2 n2 c2, .slice A3 n3 c3] 31 #[.bool false, .slice none 0 0, .slice none 0 0, .slice none 0 0, .slice none 0 0, .slice none 0 0]
 go_enter Tryz.func33, Tryz.ntmps33
 go_upto_region 1 with fail
 generalize ((w.alloc (.cells #[.bool ng, .slice A7 l7 d7, .slice A8 l8 d8, .slice A1 n1 c1, .slice A2 n2 c2, .slice A3 n3 c3] 31)).alloc (.cells #[.bool false, .slice none 0 0, .slice none 0 0, .slice none 0 0, .slice none 0 0, .slice none 0 0] 31)) = W at *
 rename B <= w.heap.size => hBB
 have HCK := lh (fun w' (hb : Below w.heap.size w w') => Jp2 ng A7 A8 l7 d7 l8 d8 A1 A2 A3 n1 c1 n2 c2 n3 c3 B m w' (h.below (hb.mono hBB)) (hq.below (hb.mono hBB)) (nt hBB hb.size) hL)
 have HRE := lh (fun w' (hb : Below w.heap.size w w') => Jo9 ng A7 A8 l7 d7 l8 d8 A1 A2 A3 n1 c1 n2 c2 n3 c3 B m A4 n4 c4 row w' (rkindI.below h.words (hb.mono hBB)) (rkindI.below h4 (hb.mono hBB)) (nt hBB hb.size) iW)
 have H := lh h
 have HQ := lh hq
 have H4 := lh h4
 have HL := lh hL
 have HW := lh (And.intro bF (And.intro bG (And.intro bK eA)))
 have HBW := lh hB
 have HBB := lh hBB
 have HZ := lh hZ.out
 obtain ⟨r, hr⟩ : ∃ r, Jk m = r := ⟨_, rfl⟩
 rw [hr] at HCK
 have HRC := lh hr
 obtain ⟨x0, x1, x2, x3, x4, x5⟩ := b0.c6
 clear h hq h4 hL bF bG bK eA hB hZ hBB hr
 go_wp2_with fail
 refine (HCK.out _ HBW.out).mono ?_
 rintro e w1 ⟨rfl, j9⟩
 have b0 := b0.below j9 b0.lt
 have b1 := b1.below j9 b1.lt
 have HB1 := lh (HBW.out.trans (j9.mono HBW.out.size))
 clear x0 x1 x2 x3 x4 x5 j9 HBW
 obtain ⟨x0, x1, x2, x3, x4, x5⟩ := b0.c6
 have cP := show w.heap.size <= w.heap.size + 1 by omega
 generalize hgR : w.heap.size + 1 = gR at *
 have HGR := lh hgR
 have HB2 := lh b1
 have HC := lh b0
 clear b0 b1 hgR
 by_cases cR : r = 0
 case neg =>
  obtain rfl : R = (BM.none, 1) := by rw [<- HR.out]; unfold Yd; rw [if_pos (by unfold Xq; rw [if_pos (.inl (by rw [HRC.out]; exact cR))]; decide)]; unfold Xq; rw [if_pos (.inl (by rw [HRC.out]; exact cR))]
  have q1 : (r != 0) = true := by simp; omega
  have q2 : (r == 0) = false := by simp; omega
  go_wp2_with (refine Jr rfl _ (.tmp 6) (.tmp 24) rfl gR #[.bool false, .slice none 0 0, .slice none 0 0, .slice none 0 0, .slice none 0 0, .slice none 0 0] _ rfl rfl _ HB2.out (by kernel_rfl) rfl (by simp [Value.oneCell']) ?_; intro w7 l6 p9; have HX7 := lh p9; have HB7 := lh l6; clear p9 l6 x0 x1 x2 x3 x4 x5)
  obtain ⟨p0, p1, p2, p3, p4, p5⟩ := HB7.out.c6
  refine bodyPost_ret (v := .tuple #[.agg #[.bool false, .slice none 0 0, .slice none 0 0, .slice none 0 0, .slice none 0 0, .slice none 0 0], .int .i64 1]) (by simp [results, Tryz.results33, go_sem, p0, p1, p2, p3, p4, p5]) rfl ?_
  exact ⟨_, rfl, .inr ⟨by simp, rfl⟩, HB1.out.trans (HX7.out.below HB1.out.size cP)⟩
 subst cR
 by_cases eH : cl < 0
 ·obtain rfl : R = (BM.none, 1) := by rw [<- HR.out]; unfold Yd; rw [if_pos (by unfold Xq; rw [if_pos (.inr (.inl eH))]; decide)]; unfold Xq; rw [if_pos (.inr (.inl eH))]
  have q1 : decide (cl < 0) = true := decide_eq_true eH
  go_wp2_with (refine Jr rfl _ (.tmp 6) (.tmp 24) rfl gR #[.bool false, .slice none 0 0, .slice none 0 0, .slice none 0 0, .slice none 0 0, .slice none 0 0] _ rfl rfl _ HB2.out (by kernel_rfl) rfl (by simp [Value.oneCell']) ?_; intro w7 l6 p9; have HX7 := lh p9; have HB7 := lh l6; clear p9 l6 x0 x1 x2 x3 x4 x5)
  obtain ⟨p0, p1, p2, p3, p4, p5⟩ := HB7.out.c6
  refine bodyPost_ret (v := .tuple #[.agg #[.bool false, .slice none 0 0, .slice none 0 0, .slice none 0 0, .slice none 0 0, .slice none 0 0], .int .i64 1]) (by simp [results, Tryz.results33, go_sem, p0, p1, p2, p3, p4, p5]) rfl ?_
  exact ⟨_, rfl, .inr ⟨by simp, rfl⟩, HB1.out.trans (HX7.out.below HB1.out.size cP)⟩
 have q1 : decide (cl < 0) = false := decide_eq_false eH
 by_cases aM : (n2 : Int) <= cl
 ·obtain rfl : R = (BM.none, 1) := by rw [<- HR.out]; unfold Yd; rw [if_pos (by unfold Xq; rw [if_pos (.inr (.inr (by rw [HW.out.2.1]; exact aM)))]; decide)]; unfold Xq; rw [if_pos (.inr (.inr (by rw [HW.out.2.1]; exact aM)))]
  have q2 : decide ((n2 : Int) <= cl) = true := decide_eq_true aM
  go_wp2_with (refine Jr rfl _ (.tmp 6) (.tmp 24) rfl gR #[.bool false, .slice none 0 0, .slice none 0 0, .slice none 0 0, .slice none 0 0, .slice none 0 0] _ rfl rfl _ HB2.out (by kernel_rfl) rfl (by simp [Value.oneCell']) ?_; intro w7 l6 p9; have HX7 := lh p9; have HB7 := lh l6; clear p9 l6 x0 x1 x2 x3 x4 x5)
  obtain ⟨p0, p1, p2, p3, p4, p5⟩ := HB7.out.c6
  refine bodyPost_ret (v := .tuple #[.agg #[.bool false, .slice none 0 0, .slice none 0 0, .slice none 0 0, .slice none 0 0, .slice none 0 0], .int .i64 1]) (by simp [results, Tryz.results33, go_sem, p0, p1, p2, p3, p4, p5]) rfl ?_
  exact ⟨_, rfl, .inr ⟨by simp, rfl⟩, HB1.out.trans (HX7.out.below HB1.out.size cP)⟩
 have q2 : decide ((n2 : Int) <= cl) = false := decide_eq_false aM
 have iY : Xq m row cl = Zz m row := by unfold Xq; rw [if_neg (by rw [HRC.out, HW.out.2.1]; omega)]
 have HSU := lh iY
 obtain ⟨e, he⟩ : ∃ e, Zz m row = e := ⟨_, rfl⟩
 rw [he] at HRE HSU
 clear iY he
 go_wp2_with fail
 refine (HRE.out _ HB1.out).mono ?_
 rintro e' w2 ⟨rfl, j7⟩
 have b0 := HC.out.below j7 HC.out.lt
 have b1 := HB2.out.below j7 HB2.out.lt
 have HB3 := lh (HB1.out.trans (j7.mono HB1.out.size))
 clear x0 x1 x2 x3 x4 x5 j7 HB1 HC HB2 HRE q1 q2
 obtain ⟨x0, x1, x2, x3, x4, x5⟩ := b0.c6
 have HB2 := lh b1
 have HC := lh b0
 clear b0 b1
 by_cases iZ : e = 0
 case neg =>
  obtain rfl : R = (BM.none, e) := by rw [<- HR.out]; unfold Yd; rw [if_pos (by rw [HSU.out]; exact iZ), HSU.out]
  have q1 : (e != 0) = true := by simp; omega
  have q2 : (e == 0) = false := by simp; omega
  go_wp2_with (refine Jr rfl _ (.tmp 6) (.tmp 30) rfl gR #[.bool false, .slice none 0 0, .slice none 0 0, .slice none 0 0, .slice none 0 0, .slice none 0 0] _ rfl rfl _ HB2.out (by kernel_rfl) rfl (by simp [Value.oneCell']) ?_; intro w7 l6 p9; have HX7 := lh p9; have HB7 := lh l6; clear p9 l6 x0 x1 x2 x3 x4 x5)
  obtain ⟨p0, p1, p2, p3, p4, p5⟩ := HB7.out.c6
  refine bodyPost_ret (v := .tuple #[.agg #[.bool false, .slice none 0 0, .slice none 0 0, .slice none 0 0, .slice none 0 0, .slice none 0 0], .int .i64 e]) (by simp [results, Tryz.results33, go_sem, p0, p1, p2, p3, p4, p5]) rfl ?_
  exact ⟨_, rfl, .inr ⟨by simp; omega, rfl⟩, HB3.out.trans (HX7.out.below HB3.out.size cP)⟩
 subst iZ
 obtain ⟨jA, -, -, jB⟩ := Ye HSU.out
 obtain ⟨cn, rfl⟩ := Int.eq_ofNat_of_zero_le (show 0 <= cl by omega)
 have dN : cn < n2 := by omega
 have j9 := HB3.out
 have fN := Jqi ng A7 A8 l7 d7 l8 d8 A1 A2 A3 n1 c1 n2 c2 n3 c3 B m A4 n4 c4 row cn (-1) w2 (H.out.below (j9.mono HBB.out)) (rkindI.below H4.out (j9.mono HBB.out)) (nt HBB.out j9.size) jA jB dN (.inr rfl)
 have HWI := lh fN
 clear fN j9 jA jB eH aM
 go_wp2_with fail
 refine HWI.out.mono ?_
 rintro e w3 ⟨v, rfl, ⟨⟨SA, sn, sc⟩, ⟨CA, un, uc⟩, G, H9, rfl, hs, aJ, aA, aP⟩, y9⟩
 simp only [SW.v]
 have jC := HB2.out.lt
 have HBE := lh (HB2.out.below y9 jC)
 have HX := lh (And.intro (show ∀ x, G x -> x ≠ gR from fun x hx => by have := (aA x hx).1; omega) (show ∀ x, H9 x -> x ≠ gR from fun x hx => by have := aP x hx; omega))
 have HB4 := lh (HB3.out.trans (y9.mono HB3.out.size))
 have HO := lh (And.intro hs (And.intro aJ (And.intro aA aP)))
 have jD := HB3.out.size
 clear hs aJ aA aP y9 HWI x0 x1 x2 x3 x4 x5 jC HC
 go_upto_region 7 with fail
 have b9 := Blk.new w3 31 #[.bool ng, .slice A7 l7 d7, .slice A8 l8 d8, .slice A1 n1 c1, .slice SA sn sc, .slice CA un uc]
 have j0 := Jb w3 (.cells #[.bool ng, .slice A7 l7 d7, .slice A8 l8 d8, .slice A1 n1 c1, .slice SA sn sc, .slice CA un uc] 31)
 generalize w3.alloc (.cells #[.bool ng, .slice A7 l7 d7, .slice A8 l8 d8, .slice A1 n1 c1, .slice SA sn sc, .slice CA un uc] 31) = w4 at *
 have hr := Js 3 zv
 have HS4 := lh (And.intro (hr.loc HO.out.1 j0.size fun x hx => j0.block x (hr.lt HO.out.1 hx)) (HO.out.2.1.next (Xt hr _) j0))
 have HB5 := lh (HB4.out.trans (j0.mono HB4.out.size))
 have HBF := lh (HBE.out.below j0 HBE.out.lt)
 have kM : gR ≠ w3.heap.size := by have := HBE.out.lt; omega
 have B9 := lh b9
 have kN := b9.lt
 obtain ⟨x0, x1, x2, x3, x4, x5⟩ := b9.c6
 obtain ⟨MU, cT⟩ : ∃ MU, Jn m row cn (-1) = MU := ⟨_, rfl⟩
 have fO : MU.smooth = m.smooth := by rw [<- cT]; rfl
 have jE : MU.words = m.words := by rw [<- cT]; rfl
 rw [cT] at HS4
 have bC := Jp2 ng A7 A8 l7 d7 l8 d8 A1 SA CA n1 c1 sn sc un uc w4.heap.size MU w4 ⟨by rw [jE]; exact rkindI.more (rkindI.below H.out.words (HB5.out.mono HBB.out)) (nt HBB.out HB5.out.size), HS4.out.1.readsI, Nest.reads (fun hq => Nest.reads (fun hr => NRow.readsI hr) hq) HS4.out.2⟩ (by rw [fO]; exact (HQ.out.below (HB5.out.mono HBB.out)).more (nt HBB.out HB5.out.size)) zd (by rw [<- cT]; exact Juu HL.out row cn (-1))
 obtain ⟨r, gE⟩ : ∃ r, Jk MU = r := ⟨_, rfl⟩
 rw [gE] at bC
 have HCD := lh bC
 have HMU := lh (And.intro cT gE)
 clear bC cT gE fO jE b9 j0 HBE HB4
 go_wp2_with fail
 refine HCD.out.mono ?_
 rintro e w5 ⟨rfl, q9⟩
 have HBG := lh (HBF.out.below q9 HBF.out.lt)
 have HB6 := lh (HB5.out.trans (q9.mono HB5.out.size))
 have HS5 := lh (And.intro (hr.loc HS4.out.1 q9.size fun x hx => q9.block x (hr.lt HS4.out.1 hx)) (HS4.out.2.next (Xt hr _) q9))
 clear x0 x1 x2 x3 x4 x5
 obtain ⟨x0, x1, x2, x3, x4, x5⟩ := (B9.out.below q9 kN).c6
 clear q9 HCD HBF HB5 HS4
 have HB2 := lh HBG.out
 by_cases cR : r = 0
 case neg =>
  obtain rfl : R = (BM.none, 7) := by
   rw [<- HR.out]
   unfold Yd
   rw [if_neg (by rw [HSU.out]; simp), Int.toNat_natCast, HMU.out.1, if_pos (by rw [HMU.out.2]; exact cR)]
  have q1 : (r != 0) = true := by simp; omega
  have q2 : (r == 0) = false := by simp; omega
  go_wp2_with (refine Jr rfl _ (.tmp 6) (.tmp 39) rfl gR #[.bool false, .slice none 0 0, .slice none 0 0, .slice none 0 0, .slice none 0 0, .slice none 0 0] _ rfl rfl _ HB2.out (by kernel_rfl) rfl (by simp [Value.oneCell']) ?_; intro w7 l6 p9; have HX7 := lh p9; have HB7 := lh l6; clear p9 l6 x0 x1 x2 x3 x4 x5)
  obtain ⟨p0, p1, p2, p3, p4, p5⟩ := HB7.out.c6
  refine bodyPost_ret (v := .tuple #[.agg #[.bool false, .slice none 0 0, .slice none 0 0, .slice none 0 0, .slice none 0 0, .slice none 0 0], .int .i64 7]) (by simp [results, Tryz.results33, go_sem, p0, p1, p2, p3, p4, p5]) rfl ?_
  exact ⟨_, rfl, .inr ⟨by simp, rfl⟩, HB6.out.trans (HX7.out.below HB6.out.size cP)⟩
 subst cR
 obtain rfl : R = (MU, 0) := by
  rw [<- HR.out]
  unfold Yd
  rw [if_neg (by rw [HSU.out]; simp), Int.toNat_natCast, HMU.out.1, if_neg (by rw [HMU.out.2]; simp)]
 go_wp2_with (refine Jr rfl _ (.tmp 6) (.tmp 40) rfl gR #[.bool ng, .slice A7 l7 d7, .slice A8 l8 d8, .slice A1 n1 c1, .slice SA sn sc, .slice CA un uc] _ rfl rfl _ HB2.out (by kernel_rfl) rfl (by simp [Value.oneCell']) ?_; intro w7 l6 p9; have HX7 := lh p9; have HB7 := lh l6; clear p9 l6)
 obtain ⟨p0, p1, p2, p3, p4, p5⟩ := HB7.out.c6
 refine bodyPost_ret (v := .tuple #[.agg #[.bool ng, .slice A7 l7 d7, .slice A8 l8 d8, .slice A1 n1 c1, .slice SA sn sc, .slice CA un uc], .int .i64 0]) (by simp [results, Tryz.results33, go_sem, p0, p1, p2, p3, p4, p5]) rfl ?_
 exact ⟨_, rfl, .inl ⟨rfl, _, rfl, ⟨SA, sn, sc⟩, ⟨CA, un, uc⟩, G, H9, rfl, hr.loc HS5.out.1 HX7.out.size (fun x hx => HX7.out.block x (hr.lt HS5.out.1 hx) (HX.out.1 x hx)), HS5.out.2.loc (Xt hr _) HX7.out.size (fun x hx => HX7.out.block x (HS5.out.2.lt (Xt hr _) hx) (HX.out.2 x hx)), fun x hx => ⟨nt jD (HO.out.2.2.1 x hx).1, (HO.out.2.2.1 x hx).2⟩, fun x hx => nt jD (HO.out.2.2.2 x hx)⟩, HB6.out.trans (HX7.out.below HB6.out.size cP)⟩
theorem Ju3 {l : List Int} {k : Nat} {x : Int} (h : l[k]? = some x) : Jux l (k + 1) = Jux l k ++ [x % 6 - 2] := by
 have hk := (List.getElem?_eq_some_iff.1 h).1
 unfold Jux
 rw [<- List.take_append_getElem hk, List.map_append]
 rw [List.getElem?_eq_getElem hk] at h
 rw [Option.some.inj h]
 rfl
theorem Ju0 (l : List Int) (k : Nat) : (Jux l k).length = min k l.length := by simp [Jux]
theorem Ju4 (A : Option Addr) (n c : Nat) (l : List Int) (m B : Nat) (w : World) (h : ReadsI w B A n l) (hB : B <= w.heap.size) (hn : n <= 9223372036854775807) (hl : ∀ x ∈ l, -9223372036854775808 <= x /\ x <= 9223372036854775807) (hm : m <= 1000) :
  Calls Tryz.prog 30 #[.slice A n c, .int .i64 (m : Int)] w fun e w' => ∃ v, e = .returned v /\ Own w' 3 zv v (Jux l m) /\ (∀ b, v.ownBlock = some b -> w.heap.size <= b) /\ Below w.heap.size w w' := by
 have dG : l.length = n := h.len
 have H := lh (And.intro h (And.intro hl dG))
 have HBB := lh hB
 clear h hl dG hB
 go_enter Tryz.func30, Tryz.ntmps30
 go_wp2_with fail
 go_loopw [5, 6] (fun v p wr => ∃ k : Nat, k <= n /\ k <= m /\ p = .int .i64 (k : Int) /\ Own wr 3 zv v (Jux l k) /\ (∀ b, v.ownBlock = some b -> w.heap.size <= b) /\ Below w.heap.size w wr) (fun _ p _ => n - (intOf p).toNat)
 case atStart => exact ⟨0, by omega, by omega, rfl, Own.nil_ _ _ _, (fun b h => by cases h), Below.refl _ _⟩
 case round =>
  obtain ⟨k, hk, bP, rfl, ho, aH, j8⟩ := hrel
  rename World => wr
  have HO := lh (And.intro ho (And.intro aH j8))
  obtain ⟨AV, cV, hv, -⟩ := ho.form
  have gF : (Jux l k).length = k := by rw [Ju0, H.out.2.2]; omega
  rw [gF] at hv
  have HOL := lh gF
  subst hv
  clear gF
  by_cases fG : k < n
  ·by_cases lA : k < m
   ·have k1 : (k : Int) < (n : Int) := by omega
    have k2 : (k : Int) < (m : Int) := by omega
    obtain ⟨ad, x, rfl, aX, hx, aN⟩ := H.out.1.at_ fG
    have kO := Qg (j8.mono HBB.out) aN aX
    have gG := H.out.2.1 x (List.mem_of_getElem? hx)
    have eT := fun w' => Jpd x 6 w' gG.1 gG.2 (by decide) (by decide)
    rw [show ((6 : Nat) : Int) = 6 from rfl] at eT
    have eU := Ju3 hx
    obtain ⟨y, hy⟩ : ∃ y, x % 6 = y := ⟨_, rfl⟩
    rw [hy] at eT eU
    have lB : 0 <= y /\ y < 6 := by omega
    obtain ⟨u, hu⟩ : ∃ u, y - 2 = u := ⟨_, rfl⟩
    have lC : IntKind.i64.wrap (y - 2) = u := by rw [hu]; exact IntWalk.i64_in _ (by omega)
    rw [hu] at eU
    have HPX := lh eT
    have HWN := lh eU
    clear eT eU hy hu hx aN gG ho aH j8
    go_wp2_with fail
    refine (HPX.out _).mono ?_
    rintro e w5 ⟨rfl, rfl⟩
    go_wp2_with (at_builtin; refine Joi (f := zv) Tryz.eltZ1 rfl (.tmp 18) (.tmp 25) rfl wr _ (Jux l k) u (.int .i64 u) rfl rfl HO.out.1 (by simp [Act.eval]) rfl (by rw [HOL.out]; unfold maxLen; omega) (by rw [HOL.out]; omega) ?_; intro v' w6 gH cJ; have q9 := HO.out.2.2.trans (cJ.below HO.out.2.2.size HO.out.2.1); have jF := cJ.fresh HO.out.2.2.size HO.out.2.1; rw [<- HWN.out] at gH; have H6 := lh (And.intro gH (And.intro jF q9)); clear q9 jF gH cJ)
    exact ⟨⟨k + 1, by omega, by omega, by go_num, H6.out.1, H6.out.2.1, H6.out.2.2⟩, by simp [intOf]; omega⟩
   obtain rfl : m = k := by omega
   have k1 : (m : Int) < (n : Int) := by omega
   have k2 : ¬ (m : Int) < (m : Int) := by omega
   clear ho aH j8
   go_wp2
   go_ret
   exact ⟨_, rfl, HO.out.1, HO.out.2.1, HO.out.2.2⟩
  obtain rfl : n = k := by omega
  have k1 : ¬ (n : Int) < (n : Int) := by omega
  have he : Jux l n = Jux l m := by
   unfold Jux
   rw [List.take_of_length_le (by rw [H.out.2.2]; omega), List.take_of_length_le (by rw [H.out.2.2]; omega)]
  have HE := lh he
  clear ho aH j8 he
  go_wp2
  go_ret
  exact ⟨_, rfl, by rw [<- HE.out]; exact HO.out.1, HO.out.2.1, HO.out.2.2⟩
theorem Juy {m : BM} {q : List Int} {cl : Int} (hL : LenB m) (h : (Xg m q cl).2 = 0) : (Xg m q cl).1.words = m.words /\ (Xg m q cl).1.smooth = m.smooth /\ LenB (Xg m q cl).1 := by
 unfold Xg at h ⊢
 split at h
 ·rename_i h1
  exact absurd h h1
 rename_i h1
 rw [if_neg h1]
 split at h
 ·cases h
 rename_i h2
 rw [if_neg h2]
 exact ⟨rfl, rfl, Juu hL _ _ _⟩
theorem Juv {m : BM} {q : List Int} {cl : Int} (hL : LenB m) (h : (Yd m q cl).2 = 0) : (Yd m q cl).1.words = m.words /\ (Yd m q cl).1.smooth = m.smooth /\ LenB (Yd m q cl).1 := by
 unfold Yd at h ⊢
 split at h
 ·rename_i h1
  exact absurd h h1
 rename_i h1
 rw [if_neg h1]
 split at h
 ·cases h
 rename_i h2
 rw [if_neg h2]
 exact ⟨rfl, rfl, Juu hL _ _ _⟩
def CkD (f : Int) (x0 x1 x2 : Value) (W : SW) (D : BM) (g : Nat) (w : World) : Prop := f = 0 -> ∃ (S C : SW), Blk w g 31 #[x0, x1, x2, W.v, S.v, C.v] /\ RdB w w.heap.size W S C D
theorem CkD.next {f : Int} {x0 x1 x2 : Value} {W : SW} {D : BM} {g : Nat} {w w' : World} (h : CkD f x0 x1 x2 W D g w) (hb : Below w.heap.size w w') : CkD f x0 x1 x2 W D g w' := fun h0 => by
 obtain ⟨S, C, hk, hr⟩ := h h0
 exact ⟨S, C, hk.below hb hk.lt, (hr.below hb).more hb.size⟩
def CkM (f : Int) (D : BM) (g : Nat) (w : World) : Prop := (f = 0 /\ ∃ (W S C : SW), Blk w g 43 #[.bool (decide (D.smooth.num < 0)), .int .u64 (lo D.smooth.num.natAbs : Int), .string (mo D.smooth.num.natAbs), .int .u64 (lo ((qden D.smooth)) : Int), .string (mo ((qden D.smooth))), W.v, S.v, C.v] /\ RdB w w.heap.size W S C D) \/ (f ≠ 0 /\ Blk w g 43 #[.bool false, .int .u64 0, .string ⟨#[]⟩, .int .u64 0, .string ⟨#[]⟩, .slice none 0 0, .slice none 0 0, .slice none 0 0])
theorem CkM.next {f : Int} {D : BM} {g : Nat} {w w' : World} (h : CkM f D g w) (hb : Below w.heap.size w w') : CkM f D g w' := by
 rcases h with ⟨h0, W, S, C, hk, hr⟩ | ⟨h0, hk⟩
 ·exact .inl ⟨h0, W, S, C, hk.below hb hk.lt, (hr.below hb).more hb.size⟩
 exact .inr ⟨h0, hk.below hb hk.lt⟩
structure CkR (W : World) (M : BM) (FX : Nat -> Option Value) (d : Nat -> Bool) (val : Nat -> Value) (w : World) : Prop where
 bel : Below W.heap.size W w
 fx : Fixed FX d val
 v3 : d 3 = true -> ∃ (W' S C : SW), val 3 = .agg #[.bool (decide (M.smooth.num < 0)), .int .u64 (lo M.smooth.num.natAbs : Int), .string (mo M.smooth.num.natAbs), .int .u64 (lo ((qden M.smooth)) : Int), .string (mo ((qden M.smooth))), W'.v, S.v, C.v] /\ RdB w w.heap.size W' S C M
theorem CkR.next {W w w' : World} {M : BM} {FX : Nat -> Option Value} {d : Nat -> Bool} {val : Nat -> Value} (h : CkR W M FX d val w) (hb : Below w.heap.size w w') : CkR W M FX d val w' :=
 ⟨h.bel.trans (hb.mono h.bel.size), h.fx, fun h1 => by
  obtain ⟨W', S, C, e, hr⟩ := h.v3 h1
  exact ⟨W', S, C, e, (hr.below hb).more hb.size⟩⟩
theorem CkR.pure {W w : World} {M : BM} {FX : Nat -> Option Value} {d : Nat -> Bool} {val : Nat -> Value} {i : Nat} {x : Value} (h : CkR W M FX d val w) (hi : (3 == i) = false) (hx : FX i = some x) : CkR W M FX (upI d i) (Jf3 val i x) w :=
 ⟨h.bel, h.fx.step (.inr hx), fun h1 => by
  rw [Jkq hi] at h1
  rw [Jix hi]
  exact h.v3 h1⟩
theorem Slots.fx {ops : Array Oper} {a0 a : Act} {d : Nat -> Bool} {val : Nat -> Value} {FX : Nat -> Option Value} {j t : Nat} {v : Value} (h : Slots ops a0 d val a) (hf : Fixed FX d val) (hd : d j = true) (hj : Ku ops j = some t) (ht : Nat.blt t a0.tmps.size = true) (hv : FX j = some v) : a.tmps[t]?.getD undef = v := (h.res j t hd hj ht).trans (hf j v hv hd)
theorem Juf {ops : Array Oper} {tmps : Array Value} {o : Oper} {j : Nat} {t : Tmp} {want : Bool} (hg : o.guard = some (j, want)) (hj : Ku ops j = some t) (hv : tmps[t]?.getD undef = undef) : Region.wanted o (yielded ops tmps) = false := by
 unfold Ku at hj
 unfold Region.wanted yielded
 rw [hg]
 simp only [hj, Option.bind_some]
 cases e : tmps[t]? with
 | none => rfl
 | some v =>
  rw [e] at hv
  have hv : v = undef := hv
  subst hv
  rfl
theorem Ju2 {f : Int} {D : BM} {gM gD : Nat} {w : World} {x0 x1 x2 : Value} {X1 : Option Addr} {n1 c1 : Nat} (h : CkM f D gM w) (h' : CkD f x0 x1 x2 ⟨X1, n1, c1⟩ D gD w) : ∃ (b : Bool) (B1 : Option Addr) (r1 : Nat) (B2 : Option Addr) (v2 r2 : Nat) (B3 : Option Addr) (v3 r3 : Nat) (E2 : Option Addr) (t2 : Nat) (E3 : Option Addr) (t3 : Nat), (f != 0) = !b /\ (b = true -> f = 0 /\ Blk w gM 43 #[.bool (decide (D.smooth.num < 0)), .int .u64 (lo D.smooth.num.natAbs : Int), .string (mo D.smooth.num.natAbs), .int .u64 (lo ((qden D.smooth)) : Int), .string (mo ((qden D.smooth))), .slice B1 n1 r1, .slice B2 v2 r2, .slice B3 v3 r3] /\ RdB w w.heap.size ⟨B1, n1, r1⟩ ⟨B2, v2, r2⟩ ⟨B3, v3, r3⟩ D /\ Blk w gD 31 #[x0, x1, x2, .slice X1 n1 c1, .slice E2 v2 t2, .slice E3 v3 t3] /\ RdB w w.heap.size ⟨X1, n1, c1⟩ ⟨E2, v2, t2⟩ ⟨E3, v3, t3⟩ D) /\ (b = false -> Blk w gM 43 #[.bool false, .int .u64 0, .string ⟨#[]⟩, .int .u64 0, .string ⟨#[]⟩, .slice none 0 0, .slice none 0 0, .slice none 0 0]) := by
 rcases h with ⟨aK, ⟨B1, p1, r1⟩, ⟨B2, p2, r2⟩, ⟨B3, p3, r3⟩, hk, hr⟩ | ⟨aK, hk⟩
 ·obtain ⟨⟨E2, v2, t2⟩, ⟨E3, v3, t3⟩, bP, bM⟩ := h' aK
  simp only [SW.v] at hk bP
  obtain rfl : p1 = n1 := by
   have e1 : D.words.length = p1 := hr.words.len
   have e2 : D.words.length = n1 := bM.words.len
   omega
  obtain rfl : p2 = v2 := by
   have e1 : D.seen.length = p2 := hr.seen.len
   have e2 : D.seen.length = v2 := bM.seen.len
   omega
  obtain rfl : p3 = v3 := by
   have e1 : D.counts.length = p3 := ReadsS.len hr.counts
   have e2 : D.counts.length = v3 := ReadsS.len bM.counts
   omega
  exact ⟨true, B1, r1, B2, p2, r2, B3, p3, r3, E2, t2, E3, t3, by rw [aK]; rfl, (fun _ => ⟨aK, hk, hr, bP, bM⟩), (fun h => by cases h)⟩
 exact ⟨false, none, 0, none, 0, 0, none, 0, 0, none, 0, none, 0, by simpa using aK, (fun h => by cases h), (fun _ => hk)⟩
theorem Jox (l : List Int) : ∀ (f : Nat) (m : BM) (i : Nat), (∃ n, DrawnB m n /\ n + f <= 1073741824) -> (Jop f m l i).smooth = m.smooth /\ (Jop f m l i).words = m.words
 | 0, m, i, _ => ⟨rfl, rfl⟩
 | f + 1, m, i, ⟨n, h, hn⟩ => by
  unfold Jop
  split
  ·obtain ⟨h1, h2⟩ := h.moved (h.rowOk (l.drop (i + 1))) (h.class_ (l.getD i 0)) (by omega)
   rw [h1, if_pos rfl]
   exact Jox l f _ _ ⟨n + 1, h2, by omega⟩
  exact ⟨rfl, rfl⟩
theorem Jqp (l : List Int) (classes cols smooth : Int) : QS 1000 (Jov l classes cols smooth).smooth := by
 have h := (Jox l 24 (Jo1 classes cols smooth) 0 ⟨0, Joz classes cols smooth, by omega⟩).1
 unfold Jov
 rw [h]
 show QS 1000 (((smooth % 4 + 1 : Int) : Rat) / (((smooth.tdiv 4) % 3 + 1 : Int) : Rat))
 rw [Rat.div_def]
 exact ((QS.cnt (k := 3) (by omega) (by omega) (by omega)).mul ((QS.cnt (k := 3) (by omega) (by omega) (by omega)).inv (by omega))).mono (by omega)
theorem Jpv (l : List Int) (classes cols smooth : Int) : LenB (Jov l classes cols smooth) := Za (Jpe l classes cols smooth).ok
theorem Juw (A : Option Addr) (n c : Nat) (l : List Int) (A' : Option Addr) (n' c' : Nat) (r : List Int) (classes cols smooth way at_ by_ class_ : Int) (w : World) (h : ReadsI w w.heap.size A n l) (eO : n <= c) (hc : c <= 9223372036854775807) (hl : ∀ x ∈ l, -9223372036854775808 <= x /\ x <= 9223372036854775807)
  (h' : ReadsI w w.heap.size A' n' r) (kP : n' <= 9223372036854775807) (jG : ∀ x ∈ r, -9223372036854775808 <= x /\ x <= 9223372036854775807) (i1 : -9223372036854775808 <= classes /\ classes <= 9223372036854775807) (i2 : -9223372036854775808 <= cols /\ cols <= 9223372036854775807) (i3 : -9223372036854775808 <= smooth /\ smooth <= 9223372036854775807) (i4 : -9223372036854775808 <= way /\ way <= 9223372036854775807) (i5 : -9223372036854775808 <= at_ /\ at_ <= 9223372036854775807) (i6 : -9223372036854775808 <= by_ /\ by_ <= 9223372036854775807) (i7 : -9223372036854775808 <= class_ /\ class_ <= 9223372036854775807) (hT : Tab w) :
  Calls Tryz.prog 6 #[.slice A n c, .slice A' n' c', .int .i64 classes, .int .i64 cols, .int .i64 smooth, .int .i64 way, .int .i64 at_, .int .i64 by_, .int .i64 class_] w (Ret (.bool true) w) := by
 have aB := Jpt A n c l classes cols smooth way at_ by_ w.heap.size w h zd eO hc hl i1 i2 i3 i4 i5 i6
 have cE := Jum (Jqp l classes cols smooth) way at_ by_
 have gI := Juk (Jpv l classes cols smooth) way at_ by_
 obtain ⟨M, hm⟩ : ∃ M, Jo6 (Jov l classes cols smooth) way at_ by_ = M := ⟨_, rfl⟩
 rw [hm] at aB cE gI
 have eV := fun w' => Jpd class_ 5 w' i7.1 i7.2 (by decide) (by decide)
 rw [show ((5 : Nat) : Int) = 5 from rfl] at eV
 obtain ⟨tb, eR⟩ : ∃ tb, class_ % 5 = tb := ⟨_, rfl⟩
 rw [eR] at eV
 have kQ : 0 <= tb /\ tb < 5 := by omega
 obtain ⟨cl, eB⟩ : ∃ cl, tb - 1 = cl := ⟨_, rfl⟩
 have lD : IntKind.i64.wrap (tb - 1) = cl := by rw [eB]; exact IntWalk.i64_in _ (by omega)
 obtain ⟨Q, hQ⟩ : ∃ Q, Jux r 4 = Q := ⟨_, rfl⟩
 have jH : Q.length <= 4 := by rw [<- hQ, Ju0]; omega
 have HDR := lh aB
 have HQ := lh (And.intro cE gI)
 have HP5 := lh eV
 have HQQ := lh (And.intro hQ jH)
 have H' := lh (And.intro h' jG)
 have HT := lh hT
 have HKN := lh (fun w hT => Jgy w hT)
 clear aB cE gI hm eV eR eB hQ jH h hl h' jG hT i1 i2 i3 i4 i5 i6 i7 eO hc
 go_enter Tryz.func6, Tryz.ntmps6
 go_wp2_with fail
 refine HDR.out.mono ?_
 rintro e w1 ⟨v, rfl, ⟨ng, A7, A8, l7, d7, l8, d8, ⟨X1, n1, c1⟩, ⟨X2, n2, c2⟩, ⟨X3, n3, c3⟩, rfl, cK, aO⟩, j9⟩
 simp only [SW.v]
 have HRD := lh (And.intro cK aO)
 have HB1 := lh j9
 clear cK aO j9 HDR
 go_upto_region 2 with fail
 have b19 := Blk.new w1 31 #[.bool ng, .slice A7 l7 d7, .slice A8 l8 d8, .slice X1 n1 c1, .slice X2 n2 c2, .slice X3 n3 c3]
 have j7 := Jb w1 (.cells #[.bool ng, .slice A7 l7 d7, .slice A8 l8 d8, .slice X1 n1 c1, .slice X2 n2 c2, .slice X3 n3 c3] 31)
 generalize w1.alloc (.cells #[.bool ng, .slice A7 l7 d7, .slice A8 l8 d8, .slice X1 n1 c1, .slice X2 n2 c2, .slice X3 n3 c3] 31) = w2 at *
 have HM2 := lh (And.intro ((HRD.out.1.below j7).more j7.size) ((HRD.out.2.below j7).more j7.size))
 have HB2 := lh (Ja HB1.out j7)
 have BK := lh b19
 have bD := b19.lt
 clear j7 b19 HRD HB1
 generalize w1.heap.size = g19 at *
 have gJ := Ju4 A' n' c' r 4 w2.heap.size w2 (rkindI.more (rkindI.below H'.out.1 HB2.out) HB2.out.size) zd kP H'.out.2 (by decide)
 rw [HQQ.out.1] at gJ
 have HOD := lh gJ
 clear gJ
 go_wp2_with fail
 refine HOD.out.mono ?_
 rintro e w3 ⟨v, rfl, bW, -, y9⟩
 obtain ⟨AQ, cQ, hv, -⟩ := bW.form
 obtain ⟨nQ, gK⟩ : ∃ nQ, Q.length = nQ := ⟨_, rfl⟩
 rw [gK] at hv
 subst hv
 have kR : nQ <= 4 := by rw [<- gK]; exact HQQ.out.2
 have HRQ := lh (show ReadsI w3 w3.heap.size AQ nQ Q from NRow.readsI (NRow.of bW))
 have HB3 := lh y9
 clear bW y9 HOD gK
 go_wp2_with fail
 refine (HP5.out _).mono ?_
 rintro e w4 ⟨rfl, rfl⟩
 rename World => w3
 obtain ⟨x0, x1, x2, x3, x4, x5⟩ := (BK.out.below HB3.out bD).c6
 obtain ⟨f1, jI⟩ : ∃ f1, (Xg M Q cl).2 = f1 := ⟨_, rfl⟩
 obtain ⟨D1, jJ⟩ : ∃ D1, (Xg M Q cl).1 = D1 := ⟨_, rfl⟩
 have HT1 := lh (show Xg M Q cl = (D1, f1) from by rw [<- jI, <- jJ])
 clear jI jJ
 go_upto_region 4 with fail
 go_cut [21, 22] (fun v u wc => ∃ g, v = .pointer (some ⟨g, 0, none⟩) /\ u = .int .i64 f1 /\ CkM f1 D1 g wc /\ Below w3.heap.size w3 wc)
 case first =>
  as_aux_lemma =>
  have cB := And.intro ((HM2.out.1.below HB3.out).more HB3.out.size) ((HM2.out.2.below HB3.out).more HB3.out.size)
  have eI := Jqw ng A7 A8 l7 d7 l8 d8 X1 X2 X3 n1 c1 n2 c2 n3 c3 w3.heap.size M w3 cB.2 cB.1 zd HQ.out.2 (HQ.out.1.mono (by omega)) (HT.out.next (HB2.out.trans (HB3.out.mono HB2.out.size)))
  have HIN := lh eI
  clear eI cB
  go_wp2_with fail
  refine HIN.out.mono ?_
  rintro e w4 ⟨v, rfl, ⟨⟨Z1, z1, y1⟩, ⟨Z2, z2, y2⟩, ⟨Z3, z3, y3⟩, F1, G1, H1, rfl, ho⟩, aE⟩
  simp only [SW.v]
  have aD := Jb3 Z1 Z2 Z3 z1 y1 z2 y2 z3 y3 w4.heap.size M AQ nQ cQ Q cl w4 ho.read (rkindI.more (rkindI.below HRQ.out aE) aE.size) zd HQ.out.2 (by omega) (HQ.out.1.mono (by omega))
  rw [HT1.out] at aD
  have HTE := lh aD
  have HB4 := lh aE
  clear aD aE ho x0 x1 x2 x3 x4 x5 HIN
  go_wp2_with fail
  refine HTE.out.mono ?_
  rintro e w5 ⟨v, rfl, hv, j0⟩
  have HB5 := lh (HB4.out.trans (j0.mono HB4.out.size))
  rcases hv with ⟨h0, u, rfl, AV, cV, gS, gC, F, G, Hh, rfl, ho⟩ | ⟨h0, rfl⟩
  ·have aK : f1 = 0 := h0
   subst aK
   have HO := lh ho
   clear j0 ho h0
   go_wp2_with fail
   go_meet
   exact ⟨_, rfl, rfl, .inl ⟨rfl, _, _, _, Blk.new _ _ _, (HO.out.next (Jb _ _)).read⟩, HB5.out.trans ((Jb _ _).mono HB5.out.size)⟩
  have HF0 := lh (show f1 ≠ 0 from h0)
  clear j0 h0
  go_wp2_with fail
  go_meet
  exact ⟨_, rfl, rfl, .inr ⟨HF0.out, Blk.new _ _ _⟩, HB5.out.trans ((Jb _ _).mono HB5.out.size)⟩
 case rest =>
  obtain ⟨g21, rfl, rfl, eJ, j6⟩ := hcut
  rename World => w4
  have HC1 := lh eJ
  have HB4 := lh (HB3.out.trans (j6.mono HB3.out.size))
  have HRQ4 := lh (rkindI.more (rkindI.below HRQ.out j6) j6.size)
  clear eJ j6 x0 x1 x2 x3 x4 x5 HRQ
  obtain ⟨x0, x1, x2, x3, x4, x5⟩ := (BK.out.below HB4.out bD).c6
  go_upto_region 5 with fail
  go_cut [23, 24] (fun v u wc => ∃ g, v = .pointer (some ⟨g, 0, none⟩) /\ u = .int .i64 f1 /\ CkD f1 (.bool ng) (.slice A7 l7 d7) (.slice A8 l8 d8) ⟨X1, n1, c1⟩ D1 g wc /\ Below w4.heap.size w4 wc)
  case first =>
   as_aux_lemma =>
   have bE := And.intro ((HM2.out.1.below HB4.out).more HB4.out.size) ((HM2.out.2.below HB4.out).more HB4.out.size)
   have aD := Jp3 ng A7 A8 l7 d7 l8 d8 X1 X2 X3 n1 c1 n2 c2 n3 c3 w4.heap.size M AQ nQ cQ Q cl w4 bE.2 bE.1 HRQ4.out zd HQ.out.2 (by omega)
   rw [HT1.out] at aD
   have HTE := lh aD
   have HW4 := lh bE.2.words
   clear aD bE
   go_wp2_with fail
   refine HTE.out.mono ?_
   rintro e w5 ⟨v, rfl, hv, j0⟩
   have HB5 := lh j0
   rcases hv with ⟨h0, u, rfl, ⟨S1, s1, t1⟩, ⟨S2, s2, t2⟩, G, Hh, rfl, hs, aJ, -⟩ | ⟨h0, rfl⟩
   ·have aK : f1 = 0 := h0
    subst aK
    have eK : D1.words = M.words := by have h := (Juy HQ.out.2 (q := Q) (cl := cl) (by rw [HT1.out])).1; rw [HT1.out] at h; exact h
    have HO := lh (And.intro hs (And.intro aJ eK))
    simp only [SW.v]
    clear j0 hs aJ eK h0 x0 x1 x2 x3 x4 x5
    go_wp2_with fail
    go_meet
    have aG := Jb w5 (.cells #[.bool ng, .slice A7 l7 d7, .slice A8 l8 d8, .slice X1 n1 c1, .slice S1 s1 t1, .slice S2 s2 t2] 31)
    have hr := Js 3 zv
    have q9 := HB5.out.trans (aG.mono HB5.out.size)
    exact ⟨_, rfl, rfl, fun _ => ⟨⟨S1, s1, t1⟩, ⟨S2, s2, t2⟩, Blk.new _ _ _, ⟨by rw [HO.out.2.2]; exact rkindI.more (rkindI.below HW4.out q9) q9.size, NRow.readsI (hr.loc HO.out.1 aG.size fun x hx => aG.block x (hr.lt HO.out.1 hx)), Nest.reads (fun hq => Nest.reads (fun hr => NRow.readsI hr) hq) (HO.out.2.1.next (Xt hr _) aG)⟩⟩, q9⟩
   have HF0 := lh (show f1 ≠ 0 from h0)
   clear j0 h0 x0 x1 x2 x3 x4 x5
   go_wp2_with fail
   go_meet
   exact ⟨_, rfl, rfl, fun h => absurd h HF0.out, HB5.out.trans ((Jb _ _).mono HB5.out.size)⟩
  case rest =>
   obtain ⟨g23, rfl, rfl, bC, j6⟩ := hcut
   rename World => w5
   have HD1 := lh bC
   have HC15 := lh (HC1.out.next j6)
   have HB5 := lh (HB4.out.trans (j6.mono HB4.out.size))
   have HRQ5 := lh (rkindI.more (rkindI.below HRQ4.out j6) j6.size)
   clear bC j6 x0 x1 x2 x3 x4 x5 HRQ4 HC1
   obtain ⟨x0, x1, x2, x3, x4, x5⟩ := (BK.out.below HB5.out bD).c6
   obtain ⟨f2, jK⟩ : ∃ f2, (Yd M Q cl).2 = f2 := ⟨_, rfl⟩
   obtain ⟨D2, jL⟩ : ∃ D2, (Yd M Q cl).1 = D2 := ⟨_, rfl⟩
   have HT2 := lh (show Yd M Q cl = (D2, f2) from by rw [<- jK, <- jL])
   clear jK jL
   go_upto_region 6 with fail
   go_cut [25, 26] (fun v u wc => ∃ g, v = .pointer (some ⟨g, 0, none⟩) /\ u = .int .i64 f2 /\ CkM f2 D2 g wc /\ Below w5.heap.size w5 wc)
   case first =>
    as_aux_lemma =>
    have cB := And.intro ((HM2.out.1.below HB5.out).more HB5.out.size) ((HM2.out.2.below HB5.out).more HB5.out.size)
    have eI := Jqw ng A7 A8 l7 d7 l8 d8 X1 X2 X3 n1 c1 n2 c2 n3 c3 w5.heap.size M w5 cB.2 cB.1 zd HQ.out.2 (HQ.out.1.mono (by omega)) (HT.out.next (HB2.out.trans (HB5.out.mono HB2.out.size)))
    have HIN := lh eI
    clear eI cB
    go_wp2_with fail
    refine HIN.out.mono ?_
    rintro e w6 ⟨v, rfl, ⟨⟨Z1, z1, y1⟩, ⟨Z2, z2, y2⟩, ⟨Z3, z3, y3⟩, F1, G1, H1, rfl, ho⟩, aE⟩
    simp only [SW.v]
    have cD := Vt Z1 Z2 Z3 z1 y1 z2 y2 z3 y3 w6.heap.size M AQ nQ cQ Q cl w6 ho.read (rkindI.more (rkindI.below HRQ5.out aE) aE.size) zd HQ.out.2 (by omega) (HQ.out.1.mono (by omega))
    rw [HT2.out] at cD
    have HUE := lh cD
    have HB6 := lh aE
    clear cD aE ho x0 x1 x2 x3 x4 x5 HIN
    go_wp2_with fail
    refine HUE.out.mono ?_
    rintro e w7 ⟨v, rfl, hv, j0⟩
    have HB7 := lh (HB6.out.trans (j0.mono HB6.out.size))
    rcases hv with ⟨h0, u, rfl, AV, cV, gS, gC, F, G, Hh, rfl, ho⟩ | ⟨h0, rfl⟩
    ·have aK : f2 = 0 := h0
     subst aK
     have HO := lh ho
     clear j0 ho h0
     go_wp2_with fail
     go_meet
     exact ⟨_, rfl, rfl, .inl ⟨rfl, _, _, _, Blk.new _ _ _, (HO.out.next (Jb _ _)).read⟩, HB7.out.trans ((Jb _ _).mono HB7.out.size)⟩
    have HF0 := lh (show f2 ≠ 0 from h0)
    clear j0 h0
    go_wp2_with fail
    go_meet
    exact ⟨_, rfl, rfl, .inr ⟨HF0.out, Blk.new _ _ _⟩, HB7.out.trans ((Jb _ _).mono HB7.out.size)⟩
   case rest =>
    obtain ⟨g25, rfl, rfl, eJ, j6⟩ := hcut
    rename World => w6
    have HC2 := lh eJ
    have HC16 := lh (HC15.out.next j6)
    have HD16 := lh (HD1.out.next j6)
    have HB6 := lh (HB5.out.trans (j6.mono HB5.out.size))
    have HRQ6 := lh (rkindI.more (rkindI.below HRQ5.out j6) j6.size)
    clear eJ j6 x0 x1 x2 x3 x4 x5 HRQ5
    obtain ⟨x0, x1, x2, x3, x4, x5⟩ := (BK.out.below HB6.out bD).c6
    go_upto_region 7 with fail
    go_cut [27, 28] (fun v u wc => ∃ g, v = .pointer (some ⟨g, 0, none⟩) /\ u = .int .i64 f2 /\ CkD f2 (.bool ng) (.slice A7 l7 d7) (.slice A8 l8 d8) ⟨X1, n1, c1⟩ D2 g wc /\ Below w6.heap.size w6 wc)
    case first =>
     as_aux_lemma =>
     have bE := And.intro ((HM2.out.1.below HB6.out).more HB6.out.size) ((HM2.out.2.below HB6.out).more HB6.out.size)
     have cD := Juz ng A7 A8 l7 d7 l8 d8 X1 X2 X3 n1 c1 n2 c2 n3 c3 w6.heap.size M AQ nQ cQ Q cl w6 bE.2 bE.1 HRQ6.out zd HQ.out.2 (by omega)
     rw [HT2.out] at cD
     have HUE := lh cD
     have HW4 := lh bE.2.words
     clear cD bE
     go_wp2_with fail
     refine HUE.out.mono ?_
     rintro e w7 ⟨v, rfl, hv, j0⟩
     have HB7 := lh j0
     rcases hv with ⟨h0, u, rfl, ⟨S1, s1, t1⟩, ⟨S2, s2, t2⟩, G, Hh, rfl, hs, aJ, -⟩ | ⟨h0, rfl⟩
     ·have aK : f2 = 0 := h0
      subst aK
      have eK : D2.words = M.words := by have h := (Juv HQ.out.2 (q := Q) (cl := cl) (by rw [HT2.out])).1; rw [HT2.out] at h; exact h
      have HO := lh (And.intro hs (And.intro aJ eK))
      simp only [SW.v]
      clear j0 hs aJ eK h0 x0 x1 x2 x3 x4 x5
      go_wp2_with fail
      go_meet
      have aG := Jb w7 (.cells #[.bool ng, .slice A7 l7 d7, .slice A8 l8 d8, .slice X1 n1 c1, .slice S1 s1 t1, .slice S2 s2 t2] 31)
      have hr := Js 3 zv
      have q9 := HB7.out.trans (aG.mono HB7.out.size)
      exact ⟨_, rfl, rfl, fun _ => ⟨⟨S1, s1, t1⟩, ⟨S2, s2, t2⟩, Blk.new _ _ _, ⟨by rw [HO.out.2.2]; exact rkindI.more (rkindI.below HW4.out q9) q9.size, NRow.readsI (hr.loc HO.out.1 aG.size fun x hx => aG.block x (hr.lt HO.out.1 hx)), Nest.reads (fun hq => Nest.reads (fun hr => NRow.readsI hr) hq) (HO.out.2.1.next (Xt hr _) aG)⟩⟩, q9⟩
     have HF0 := lh (show f2 ≠ 0 from h0)
     clear j0 h0 x0 x1 x2 x3 x4 x5
     go_wp2_with fail
     go_meet
     exact ⟨_, rfl, rfl, fun h => absurd h HF0.out, HB7.out.trans ((Jb _ _).mono HB7.out.size)⟩
    case rest =>
     obtain ⟨g27, rfl, rfl, bC, j6⟩ := hcut
     rename World => w7
     have HD2 := lh bC
     have HC17 := lh (HC16.out.next j6)
     have HD17 := lh (HD16.out.next j6)
     have HC25 := lh (HC2.out.next j6)
     have HB7 := lh (HB6.out.trans (j6.mono HB6.out.size))
     have HRQ7 := lh (rkindI.more (rkindI.below HRQ6.out j6) j6.size)
     clear bC j6 x0 x1 x2 x3 x4 x5 HRQ6 HC2 HC15 HC16 HD1 HD16
     obtain ⟨b1, B1, r1, B2, v2, r2, B3, v3, r3, E2, t2, E3, t3, eW⟩ := Ju2 HC17.out HD17.out
     obtain ⟨b2, P1, q1, P2, z2, q2, P3, z3, q3, F2, i2, F3, i3, eX⟩ := Ju2 HC25.out HD2.out
     have HS1 : Hid (b1 = true -> D1.smooth = M.smooth /\ LenB D1) := lh fun hb => by have h := Juy HQ.out.2 (q := Q) (cl := cl) (by rw [HT1.out]; exact (eW.2.1 hb).1); rw [HT1.out] at h; exact h.2
     have HS2 : Hid (b2 = true -> D2.smooth = M.smooth /\ LenB D2) := lh fun hb => by have h := Juv HQ.out.2 (q := Q) (cl := cl) (by rw [HT2.out]; exact (eX.2.1 hb).1); rw [HT2.out] at h; exact h.2
     have HPA := lh eW
     have HPB := lh eX
     have u1 := eW.1
     have u2 : (f1 == f1) = true := by simp
     have u3 := eX.1
     have u4 : (f2 == f2) = true := by simp
     have HMA := lh ((HM2.out.1.below HB7.out).more HB7.out.size)
     have HTT := lh (HT.out.next (HB2.out.trans (HB7.out.mono HB2.out.size)))
     clear eW eX HC17 HD17 HC25 HD2
     go_wp2_with fail
     refine (HKN.out w7 HTT.out).mono ?_
     rintro e w8 ⟨rfl, hb⟩
     have HW8 := lh hb
     clear hb
     cases b1 with
     | true =>
      have hq := HPA.out.2.1 rfl
      have k8 : (f1 != 0) = false := u1
      have k9 : (f1 == 0) = true := by rw [hq.1]; rfl
      have HS := lh (Jrn B1 B2 B3 n1 r1 v2 r2 v3 r3 ng A7 A8 l7 d7 l8 d8 X1 E2 E3 c1 t2 t3 w8.heap.size D1 w8 ((hq.2.2.1.below HW8.out).more HW8.out.size) ((hq.2.2.2.2.below HW8.out).more HW8.out.size) (by rw [(HS1.out rfl).1]; exact (HMA.out.below HW8.out).more HW8.out.size) zd (HS1.out rfl).2 (by rw [(HS1.out rfl).1]; exact HQ.out.1.mono (by omega)))
      obtain ⟨y0, y1, y2, y3, y4, y5, y6, y7⟩ := Blk.c8 (hq.2.1.below HW8.out hq.2.1.lt)
      obtain ⟨o0, o1, o2, o3, o4, o5⟩ := Blk.c6 (hq.2.2.2.1.below HW8.out hq.2.2.2.1.lt)
      clear hq
      go_wp2_with fail
      (with_reducible refine HS.out.mono ?_)
      rintro e w9 ⟨rfl, hb⟩
      have Hw9 := lh (HW8.out.trans (hb.mono HW8.out.size))
      clear hb HS y0 y1 y2 y3 y4 y5 y6 y7 o0 o1 o2 o3 o4 o5
      cases b2 with
      | true =>
       have hq := HPB.out.2.1 rfl
       have k8 : (f2 != 0) = false := u3
       have k9 : (f2 == 0) = true := by rw [hq.1]; rfl
       have HS := lh (Jrn P1 P2 P3 n1 q1 z2 q2 z3 q3 ng A7 A8 l7 d7 l8 d8 X1 F2 F3 c1 i2 i3 w9.heap.size D2 w9 ((hq.2.2.1.below Hw9.out).more Hw9.out.size) ((hq.2.2.2.2.below Hw9.out).more Hw9.out.size) (by rw [(HS2.out rfl).1]; exact (HMA.out.below Hw9.out).more Hw9.out.size) zd (HS2.out rfl).2 (by rw [(HS2.out rfl).1]; exact HQ.out.1.mono (by omega)))
       obtain ⟨y0, y1, y2, y3, y4, y5, y6, y7⟩ := Blk.c8 (hq.2.1.below Hw9.out hq.2.1.lt)
       obtain ⟨o0, o1, o2, o3, o4, o5⟩ := Blk.c6 (hq.2.2.2.1.below Hw9.out hq.2.2.2.1.lt)
       clear hq
       go_wp2_with fail
       (with_reducible refine HS.out.mono ?_)
       rintro e w10 ⟨rfl, hb⟩
       have Hw10 := lh (Hw9.out.trans (hb.mono Hw9.out.size))
       clear hb HS y0 y1 y2 y3 y4 y5 y6 y7 o0 o1 o2 o3 o4 o5
       go_wp2_with fail
       go_ret
       exact ⟨rfl, HB2.out.trans ((HB7.out.trans (Hw10.out.mono HB7.out.size)).mono HB2.out.size)⟩
      | false =>
       have hq := HPB.out.2.2 rfl
       have k8 : (f2 != 0) = true := u3
       have k9 : (f2 == 0) = false := by simpa using u3
       obtain ⟨y0, y1, y2, y3, y4, y5, y6, y7⟩ := Blk.c8 (hq.below Hw9.out hq.lt)
       clear hq
       go_wp2_with fail
       refine (Juj w9).mono ?_
       rintro e w10 ⟨rfl, hb⟩
       have Hw10 := lh (Hw9.out.trans (hb.mono Hw9.out.size))
       clear hb y0 y1 y2 y3 y4 y5 y6 y7
       go_wp2_with fail
       go_ret
       exact ⟨rfl, HB2.out.trans ((HB7.out.trans (Hw10.out.mono HB7.out.size)).mono HB2.out.size)⟩
     | false =>
      have hq := HPA.out.2.2 rfl
      have k8 : (f1 != 0) = true := u1
      have k9 : (f1 == 0) = false := by simpa using u1
      obtain ⟨y0, y1, y2, y3, y4, y5, y6, y7⟩ := Blk.c8 (hq.below HW8.out hq.lt)
      clear hq
      go_wp2_with fail
      refine (Juj w8).mono ?_
      rintro e w9 ⟨rfl, hb⟩
      have Hw9 := lh (HW8.out.trans (hb.mono HW8.out.size))
      clear hb y0 y1 y2 y3 y4 y5 y6 y7
      cases b2 with
      | true =>
       have hq := HPB.out.2.1 rfl
       have k8 : (f2 != 0) = false := u3
       have k9 : (f2 == 0) = true := by rw [hq.1]; rfl
       have HS := lh (Jrn P1 P2 P3 n1 q1 z2 q2 z3 q3 ng A7 A8 l7 d7 l8 d8 X1 F2 F3 c1 i2 i3 w9.heap.size D2 w9 ((hq.2.2.1.below Hw9.out).more Hw9.out.size) ((hq.2.2.2.2.below Hw9.out).more Hw9.out.size) (by rw [(HS2.out rfl).1]; exact (HMA.out.below Hw9.out).more Hw9.out.size) zd (HS2.out rfl).2 (by rw [(HS2.out rfl).1]; exact HQ.out.1.mono (by omega)))
       obtain ⟨y0, y1, y2, y3, y4, y5, y6, y7⟩ := Blk.c8 (hq.2.1.below Hw9.out hq.2.1.lt)
       obtain ⟨o0, o1, o2, o3, o4, o5⟩ := Blk.c6 (hq.2.2.2.1.below Hw9.out hq.2.2.2.1.lt)
       clear hq
       go_wp2_with fail
       (with_reducible refine HS.out.mono ?_)
       rintro e w10 ⟨rfl, hb⟩
       have Hw10 := lh (Hw9.out.trans (hb.mono Hw9.out.size))
       clear hb HS y0 y1 y2 y3 y4 y5 y6 y7 o0 o1 o2 o3 o4 o5
       go_wp2_with fail
       go_ret
       exact ⟨rfl, HB2.out.trans ((HB7.out.trans (Hw10.out.mono HB7.out.size)).mono HB2.out.size)⟩
      | false =>
       have hq := HPB.out.2.2 rfl
       have k8 : (f2 != 0) = true := u3
       have k9 : (f2 == 0) = false := by simpa using u3
       obtain ⟨y0, y1, y2, y3, y4, y5, y6, y7⟩ := Blk.c8 (hq.below Hw9.out hq.lt)
       clear hq
       go_wp2_with fail
       refine (Juj w9).mono ?_
       rintro e w10 ⟨rfl, hb⟩
       have Hw10 := lh (Hw9.out.trans (hb.mono Hw9.out.size))
       clear hb y0 y1 y2 y3 y4 y5 y6 y7
       go_wp2_with fail
       go_ret
       exact ⟨rfl, HB2.out.trans ((HB7.out.trans (Hw10.out.mono HB7.out.size)).mono HB2.out.size)⟩
