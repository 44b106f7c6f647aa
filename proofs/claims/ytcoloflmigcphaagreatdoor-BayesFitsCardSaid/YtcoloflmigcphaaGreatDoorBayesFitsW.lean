import Derived.Test.YtcoloflmigcphaaGreatDoorBayesC
import Derived.Test.YtcoloflmigcphaaGreatDoorHandRows
import Derived.Test.YtcoloflmigcphaaGreatDoorBayesY
namespace Go.Proofs.YtcoloflmigcphaaGreatDoor
set_option maxRecDepth 100000
set_option maxHeartbeats 16000000
open Go.RowKit
set_option linter.all false
theorem Jlf : LenB kn0 := Za Jj0
theorem Jle : LenB kn1 := Za Jjz
theorem Jaj (w : World) (x : Int) : ReadsI (w.alloc (.cells #[.int .i64 x] 3)) (w.alloc (.cells #[.int .i64 x] 3)).heap.size (some ⟨w.heap.size, 0, none⟩) 1 [x] := rkindI.more (Reads.one w (zv x) _) (by show w.heap.size + 1 <= (w.heap.push _).size; rw [Array.size_push]; exact Nat.le_refl _)
theorem Jnm : ∃ (m0 m1 : BM) (a b : Rat), Jdk 2 [2] 1 = (m0, 0) /\ Xg m0 [0] 0 = (m1, 0) /\ Qo m1 [0] = ([a, b], 0) /\ LenB m0 /\ LenB m1 /\ QS 1000 m0.smooth /\ QS 1000 m1.smooth /\ QS 1000 a /\ QS 1000 b /\ a = Rat.divInt 8 11 /\ b = Rat.divInt 3 11 :=
 ⟨kn0, kn1, _, _, Jnl, Jld, Jh6, Jlf, Jle, ⟨Nat.le_of_ble_eq_true (by kernel_rfl), Nat.le_of_ble_eq_true (by kernel_rfl)⟩, ⟨Nat.le_of_ble_eq_true (by kernel_rfl), Nat.le_of_ble_eq_true (by kernel_rfl)⟩, ⟨Nat.le_of_ble_eq_true (by kernel_rfl), Nat.le_of_ble_eq_true (by kernel_rfl)⟩, ⟨Nat.le_of_ble_eq_true (by kernel_rfl), Nat.le_of_ble_eq_true (by kernel_rfl)⟩, by decide +kernel, by decide +kernel⟩
theorem Jgy (w : World) (hT : Tab w) : Calls Tryz.prog 19 #[] w (Ret (.bool true) w) := by
 obtain ⟨m0, m1, a, b, h1, h2, h3, h4, h5, h6, h7, h8, h9, t8, cZ⟩ := Jnm
 have dA := fun w => Vo 1 w (by decide) (by decide)
 obtain ⟨q1, fN⟩ : ∃ q1 : Rat, ((1 : Int) : Rat) = q1 := ⟨_, rfl⟩
 have eA : (1 : Rat) = q1 := fN
 rw [eA] at h1
 rw [fN] at dA
 have aG : QS 1099511627776 q1 := by rw [<- fN]; exact (QS.cnt (k := 1) (by decide) (by decide) (by decide)).mono (by decide)
 unfold qV at dA
 have HOF := lh dA
 have HNW : Hid (∀ (w : World) (X : Addr), ReadsI w w.heap.size (some X) 1 [2] -> Calls Tryz.prog 15 #[.int .i64 2, .slice (some X) 1 1, .agg #[.bool (decide (q1.num < 0)), .int .u64 (lo q1.num.natAbs : Int), .string (mo q1.num.natAbs), .int .u64 (lo ((qden q1)) : Int), .string (mo ((qden q1)))]] w fun e w' => ∃ u, e = .returned (.tuple #[u, .int .i64 0]) /\ ModB w.heap.size 1 2 2 m0 u w' /\ Below w.heap.size w w') := lh fun w X h => by
  refine (Vp 2 (some X) 1 1 w.heap.size [2] q1 w h zd (by omega) aG).mono ?_
  rintro e w' ⟨v, rfl, hv, hb⟩
  rw [h1] at hv
  rcases hv with ⟨-, u, rfl, hm⟩ | ⟨h0, -⟩
  ·exact ⟨u, rfl, hm, hb⟩
  exact absurd rfl h0
 have HTE : Hid (∀ (w : World) (AW : Option Addr) (cW gS gC : Nat) (X : Addr), RdB w w.heap.size ⟨AW, 1, cW⟩ ⟨some ⟨gS, 0, none⟩, 2, 2⟩ ⟨some ⟨gC, 0, none⟩, 2, 2⟩ m0 -> ReadsI w w.heap.size (some X) 1 [0] -> Calls Tryz.prog 29 #[.agg #[.bool (decide (m0.smooth.num < 0)), .int .u64 (lo m0.smooth.num.natAbs : Int), .string (mo m0.smooth.num.natAbs), .int .u64 (lo ((qden m0.smooth)) : Int), .string (mo ((qden m0.smooth))), .slice AW 1 cW, .slice (some ⟨gS, 0, none⟩) 2 2, .slice (some ⟨gC, 0, none⟩) 2 2], .slice (some X) 1 1, .int .i64 0] w fun e w' => ∃ u, e = .returned (.tuple #[u, .int .i64 0]) /\ ModB w.heap.size 1 2 2 m1 u w' /\ Below w.heap.size w w') := lh fun w AW cW gS gC X h h' => by
  refine (Jb3 AW (some ⟨gS, 0, none⟩) (some ⟨gC, 0, none⟩) 1 cW 2 2 2 2 w.heap.size m0 (some X) 1 1 [0] 0 w h h' zd h4 (by omega) (h6.mono (by omega))).mono ?_
  rintro e w' ⟨v, rfl, hv, hb⟩
  rw [h2] at hv
  rcases hv with ⟨-, u, rfl, hm⟩ | ⟨h0, -⟩
  ·exact ⟨u, rfl, hm, hb⟩
  exact absurd rfl h0
 have HCH : Hid (∀ (w : World) (AW : Option Addr) (cW gS gC : Nat) (X : Addr), RdB w w.heap.size ⟨AW, 1, cW⟩ ⟨some ⟨gS, 0, none⟩, 2, 2⟩ ⟨some ⟨gC, 0, none⟩, 2, 2⟩ m1 -> ReadsI w w.heap.size (some X) 1 [0] -> Tab w -> Calls Tryz.prog 24 #[.agg #[.bool (decide (m1.smooth.num < 0)), .int .u64 (lo m1.smooth.num.natAbs : Int), .string (mo m1.smooth.num.natAbs), .int .u64 (lo ((qden m1.smooth)) : Int), .string (mo ((qden m1.smooth))), .slice AW 1 cW, .slice (some ⟨gS, 0, none⟩) 2 2, .slice (some ⟨gC, 0, none⟩) 2 2], .slice (some X) 1 1] w fun e w' => ∃ g, e = .returned (.tuple #[.slice (some ⟨g, 0, none⟩) 2 2, .int .i64 0]) /\ AtQ w' g 0 a /\ AtQ w' g 5 b /\ g < w'.heap.size /\ Below w.heap.size w w') := lh fun w AW cW gS gC X h h' hT => by
  refine (Vu AW (some ⟨gS, 0, none⟩) (some ⟨gC, 0, none⟩) 1 cW 2 2 2 2 w.heap.size m1 (some X) 1 1 [0] w h h' zd h5 (by omega) h7 hT).mono ?_
  rintro e w' ⟨v, rfl, hv, hb⟩
  rw [h3] at hv
  rcases hv with ⟨-, g, rfl, hg, ho⟩ | ⟨h0, -⟩
  ·have e0 := OwnQ.at_ ho (k := 0) rfl
   have e1 := OwnQ.at_ ho (k := 1) rfl
   exact ⟨g, rfl, e0, e1, Xw e0.c5.1, hb⟩
  exact absurd rfl h0
 have gF := fun w => Ji4 a 8 11 w (by omega) (by omega) (by omega) (by omega) (by omega) t8 (h8.mono (by omega))
 have gG := fun w => Ji4 b 3 11 w (by omega) (by omega) (by omega) (by omega) (by omega) cZ (h9.mono (by omega))
 unfold qV at gF gG
 have HI1 := lh gF
 have HI2 := lh gG
 have HT := lh hT
 clear gF gG hT dA h1 h2 h3 h4 h5 h6 h7 h8 h9 t8 cZ fN eA aG
 go_enter Tryz.func19, Tryz.ntmps19
 go_wp2_with fail
 refine (HOF.out _).mono ?_
 rintro e w1 ⟨rfl, j6⟩
 have hr := rkindI.below (Jaj w 2) j6
 have HR := lh (rkindI.more hr j6.size)
 have HB1 := lh (Ja (Jb w (.cells #[.int .i64 2] 3)) j6)
 clear j6 hr
 go_wp2_with fail
 refine (HNW.out w1 _ HR.out).mono ?_
 rintro e w2 ⟨u, rfl, ⟨AW, cW, gS, gC, F, G, H, rfl, ho⟩, j9⟩
 have HB2 := lh (Ja HB1.out j9)
 have HO := lh ho
 clear j9 ho HR HB1 HNW HOF
 go_upto_region 2 with fail
 have b0 := Blk.new w2 43 #[.bool (decide (m0.smooth.num < 0)), .int .u64 (lo m0.smooth.num.natAbs : Int), .string (mo m0.smooth.num.natAbs), .int .u64 (lo ((qden m0.smooth)) : Int), .string (mo ((qden m0.smooth))), .slice AW 1 cW, .slice (some ⟨gS, 0, none⟩) 2 2, .slice (some ⟨gC, 0, none⟩) 2 2]
 have aI := Jb w2 (.cells #[.bool (decide (m0.smooth.num < 0)), .int .u64 (lo m0.smooth.num.natAbs : Int), .string (mo m0.smooth.num.natAbs), .int .u64 (lo ((qden m0.smooth)) : Int), .string (mo ((qden m0.smooth))), .slice AW 1 cW, .slice (some ⟨gS, 0, none⟩) 2 2, .slice (some ⟨gC, 0, none⟩) 2 2] 43)
 generalize w2.alloc (.cells #[.bool (decide (m0.smooth.num < 0)), .int .u64 (lo m0.smooth.num.natAbs : Int), .string (mo m0.smooth.num.natAbs), .int .u64 (lo ((qden m0.smooth)) : Int), .string (mo ((qden m0.smooth))), .slice AW 1 cW, .slice (some ⟨gS, 0, none⟩) 2 2, .slice (some ⟨gC, 0, none⟩) 2 2] 43) = w3 at *
 have aF : w.heap.size <= w2.heap.size := HB2.out.size
 have iX := HO.out.next aI
 have HB3 := lh (Ja HB2.out aI)
 generalize w2.heap.size = g at *
 have hr := Jaj w3 0
 have aW := Jb w3 (.cells #[.int .i64 0] 3)
 have bB := (iX.next aW).read
 have b4 := b0.below aW b0.lt
 have HTE2 := lh (HTE.out _ AW cW gS gC _ bB hr)
 have HB4 := lh (Ja HB3.out aW)
 have fO := b4.lt
 obtain ⟨x0, x1, x2, x3, x4, x5, x6, x7⟩ := b0.c8
 have B4 := lh (And.intro b4 fO)
 clear iX aI hr aW bB HTE HO HB2 HB3 b4 fO b0
 go_wp2_with fail
 refine HTE2.out.mono ?_
 rintro e w5 ⟨u, rfl, ⟨AW5, cW5, gS5, gC5, F5, G5, H5, rfl, eB⟩, t7⟩
 have HB5 := lh (Ja HB4.out t7)
 have B5 := lh (B4.out.1.below t7 B4.out.2)
 have HN5 := lh (show ¬ F5 g /\ ¬ G5 g /\ ¬ H5 g from ⟨fun e => by have := eB.from1 _ e; have := B4.out.2; omega, fun e => by have := eB.from2 _ e; have := B4.out.2; omega, fun e => by have := eB.from3 _ e; have := B4.out.2; omega⟩)
 have HO5 := lh eB
 clear t7 eB HTE2 HB4 B4 x0 x1 x2 x3 x4 x5 x6 x7
 go_wp2_with (refine Jr rfl _ (.tmp 1) (.tmp 16) rfl g #[.bool (decide (m1.smooth.num < 0)), .int .u64 (lo m1.smooth.num.natAbs : Int), .string (mo m1.smooth.num.natAbs), .int .u64 (lo ((qden m1.smooth)) : Int), .string (mo ((qden m1.smooth))), .slice AW5 1 cW5, .slice (some ⟨gS5, 0, none⟩) 2 2, .slice (some ⟨gC5, 0, none⟩) 2 2] _ rfl rfl _ B5.out (by kernel_rfl) rfl (by simp [Value.oneCell']) ?_; intro w7 j0 j8; have HX7 := lh j8; have B7 := lh j0; obtain ⟨x0, x1, x2, x3, x4, x5, x6, x7⟩ := j0.c8; clear j0 j8)
 have eC := HO5.out.exc HX7.out HN5.out.1 HN5.out.2.1 HN5.out.2.2
 have HB7 := lh (HB5.out.trans (HX7.out.below HB5.out.size aF))
 have hr := Jaj w7 0
 have dQ := Jb w7 (.cells #[.int .i64 0] 3)
 have bB := (eC.next dQ).read
 have HB8 := lh (Ja HB7.out dQ)
 have HCH2 := lh (HCH.out _ AW5 cW5 gS5 gC5 _ bB hr (HT.out.next HB8.out))
 clear eC hr dQ bB HCH HB7 HB5 HN5 HX7 B5 B7 HO5
 refine HCH2.out.mono ?_
 rintro e w9 ⟨g9, rfl, d0, d1, fO, bP⟩
 have HB9 := lh (Ja HB8.out bP)
 clear HCH2 bP HB8 x0 x1 x2 x3 x4 x5 x6 x7
 obtain ⟨x0, x1, x2, x3, x4⟩ := d0.c5
 obtain ⟨y0, y1, y2, y3, y4⟩ := d1.c5
 go_wp2_with fail
 refine (HI1.out _).mono ?_
 rintro e wa ⟨rfl, aQ⟩
 have d1 := d1.below aQ fO
 have HBA := lh (Ja HB9.out aQ)
 clear aQ x0 x1 x2 x3 x4 y0 y1 y2 y3 y4 HI1 HB9 d0
 obtain ⟨y0, y1, y2, y3, y4⟩ := d1.c5
 go_wp2_with fail
 refine (HI2.out _).mono ?_
 rintro e wb ⟨rfl, gH⟩
 have HBB := lh (Ja HBA.out gH)
 clear gH y0 y1 y2 y3 y4 HI2 HBA d1
 go_wp2
 go_ret
 exact ⟨rfl, HBB.out⟩
theorem Jq8 (A A' : Option Addr) (n c c' : Nat) (l : List Int) (B B' : Nat) (w : World) (h : ReadsI w B A n l) (h' : ReadsI w B' A' n l) (hn : n <= 9223372036854775807) :
  Calls Tryz.prog 106 #[.slice A n c, .slice A' n c'] w fun e w' => e = .returned (.bool true) /\ ∃ k, w' = w.drewN k := by
 have q1 : ((n : Int) != (n : Int)) = false := by simp
 have q2 : ((n : Int) == (n : Int)) = true := by simp
 go_enter Tryz.func106, Tryz.ntmps106
 go_wp2
 go_loopw [5] (fun i wr => ∃ k : Nat, k <= n /\ i = .int .i64 k /\ ∃ d, wr = w.drewN d) (fun i _ => n - (intOf i).toNat)
 case atStart => exact ⟨0, Nat.zero_le _, rfl, 0, rfl⟩
 case round =>
  obtain ⟨k, hk, rfl, d, rfl⟩ := hrel
  by_cases aM : k < n
  ·obtain ⟨ad, x, hA, hb, hx, hc⟩ := h.at_ aM
   obtain ⟨ad', x', kQ, fP, fQ, eD⟩ := h'.at_ aM
   have kR : x = x' := Option.some.inj (hx.symm.trans fQ)
   subst kR
   clear hx fQ
   subst hA kQ
   have kS : (k : Int) < (n : Int) := by omega
   have q3 : (x != x) = false := by simp
   have q4 : (x == x) = true := by simp
   go_wp2
   go_quiet (fail)
   go_wp2
   exact ⟨⟨k + 1, by omega, by go_num, _, rfl⟩, by simp [intOf]; omega⟩
  go_wp2
  go_ret
  exact ⟨rfl, d, rfl⟩
def RdX (g : Nat) (m : BM) (W S C : SW) (w : World) : Prop := ∀ w', Exc g w w' -> RdB w' w'.heap.size W S C m
theorem OwB.rdx {e T T2 : TypeId} {L g : Nat} {w : World} {W S C : SW} {F G H : Nat -> Prop} {m : BM} (h : OwB e T T2 L w W S C F G H m) (hg : g < L) : RdX g m W S C w := fun w' hx =>
 (h.exc hx (fun e => by have := h.from1 _ e; omega) (fun e => by have := h.from2 _ e; omega) (fun e => by have := h.from3 _ e; omega)).read
theorem Jui {w : World} {B n c : Nat} {A : Option Addr} {l : List Int} (h : ReadsI w B A n l) (hn : 1 <= n) (hc : n <= c) : ReadsI w B (Jg4 A c 1 1) (n - 1) (l.drop 1) := by
 have h1 := Reads.cut h hn hc
 show Reads _ _ _ _ _ ((l.drop 1).map zv)
 rw [List.map_drop]
 simpa [Jg4] using h1
theorem Juh {β : Type} {R : World -> Nat -> Option Addr -> Nat -> β -> Prop} {w : World} {B n c : Nat} {A : Option Addr} {l : List β} (h : ReadsS R w B A n l) (hn : 1 <= n) (hc : n <= c) : ReadsS R w B (Jg4 A c 1 1) (n - 1) (l.drop 1) := by
 obtain ⟨rl, h1, h2, h3⟩ := h
 refine ⟨rl.drop 1, ?_, by simp [h2], fun i r b hr hb => ?_⟩
 ·have h4 := Reads.cut h1 hn hc
  rw [List.map_drop]
  simpa [Jg4] using h4
 rw [List.getElem?_drop] at hr hb
 exact h3 _ r b hr hb
theorem RdX.seen1 {g : Nat} {m : BM} {W C : SW} {A : Option Addr} {n c : Nat} {w : World} (h : RdX g m W ⟨A, n, c⟩ C w) (hn : 1 <= n) (hc : n <= c) : RdX g { m with seen := m.seen.drop 1 } W ⟨Jg4 A c 1 1, n - 1, c - 1⟩ C w := fun w' hx =>
 ⟨(h w' hx).words, Jui (h w' hx).seen hn hc, (h w' hx).counts⟩
theorem OwB.rdxTab {e T T2 : TypeId} {L g' : Nat} {w : World} {W S : SW} {F G H : Nat -> Prop} {m : BM} {g n c k : Nat} {t : List (List Int)} (h : OwB e T T2 L w W S ⟨some ⟨g, 0, none⟩, n, c⟩ F G H m) (hg : g' < L) (ht : m.counts[k]? = some t) (h1 : 1 <= t.length) :
  ∃ A c1, w.cell? ⟨g, k, none⟩ = some (.slice A t.length c1) /\ t.length <= c1 /\ w.frozen? ⟨g, k, none⟩ = false /\ L <= g /\ H g /\
   RdX g' { m with counts := m.counts.set k (t.drop 1) } W S ⟨some ⟨g, 0, none⟩, n, c⟩ (w.setCell ⟨g, k, none⟩ (.slice (Jg4 A c1 1 1) (t.length - 1) (c1 - 1))) := by
 have hr := Js e zv
 have gI := Xt hr T
 have hH : H g := h.tabs
 obtain ⟨A, k0, c1, F', q1, q2, q3, q4, -⟩ := h.counts.at_ gI ht
 obtain ⟨A2, c2, hf⟩ := q2.form
 injection hf with e1 e2 e3
 subst e2 e3
 have eE : t.length <= c1 := by
  obtain ⟨rl, F1, r1, r2, -⟩ := q2
  obtain ⟨A0, c0, e0, r3, -⟩ := Own.form r1
  injection e0 with e1 e2 e3
  omega
 refine ⟨A, c1, q1, eE, h.counts.frozen k, h.from3 g hH, hH, fun w' hx => ?_⟩
 have aC : Exc g w (w.setCell ⟨g, k, none⟩ (.slice (Jg4 A c1 1 1) (t.length - 1) (c1 - 1))) := (Exc.refl g w).set_ k _
 obtain ⟨o1, o2, o3⟩ := h.old
 have hs := nt aC.size hx.size
 have far : ∀ x, x < w.heap.size -> L <= x -> x ≠ g -> w'.heap[x]? = w.heap[x]? := fun x aD hL bC => (hx.block x (Nat.lt_of_lt_of_le aD aC.size) (by omega)).trans (aC.block x aD bC)
 have hw := hr.loc h.words hs fun x aD => far x (o1 x aD) (h.from1 x aD) fun e => h.ap13 x aD (by rw [e]; exact hH)
 have kT := hr.loc h.seen hs fun x aD => far x (o2 x aD) (h.from2 x aD) fun e => h.ap23 x aD (by rw [e]; exact hH)
 refine ⟨hw.readsI, kT.readsI, ?_⟩
 have kU := gI.loc q2 hs fun x aD => far x (o3 x (q3 x aD).1) (h.from3 x (q3 x aD).1) (q3 x aD).2
 obtain ⟨rl, F1, r1, r2, r3, r4, r5, r6, r7⟩ := h.counts
 have dR : k < rl.length := by rw [r2]; exact (List.getElem?_eq_some_iff.1 ht).1
 have hn : n = rl.length := by
  obtain ⟨A', c', h4, _, _⟩ := Own.form r1
  injection h4
 subst hn
 have cH := World.ownsRow.stored r1 k (.slice (Jg4 A c1 1 1) (t.length - 1) (c1 - 1))
 have gJ : Own (w.setCell ⟨g, k, none⟩ (.slice (Jg4 A c1 1 1) (t.length - 1) (c1 - 1))) T2 SW.v (.slice (some ⟨g, 0, none⟩) rl.length c) (rl.set k ⟨Jg4 A c1 1 1, t.length - 1, c1 - 1⟩) := by
  unfold Own
  rw [List.length_set, List.map_set]
  exact cH.1
 have eF := gJ.loc (w' := w') fun x aD => by
  have e1 : g = x := by simpa [Value.ownBlock] using aD
  subst e1
  exact hx.block g (Nat.lt_of_lt_of_le (o3 g hH) aC.size) (by have := h.from3 g hH; omega)
 have bB := Own.reads eF
 rw [List.length_set] at bB
 refine ⟨_, bB, by simp [r2], fun i r b kV hb => ?_⟩
 rcases getElem?_set_cases kV with ⟨e1, e2⟩ | ⟨hj, eG⟩
 ·subst e1 e2
  have eb : b = t.drop 1 := by
   rw [List.getElem?_set, if_pos rfl] at hb
   split at hb
   ·exact (Option.some.inj hb).symm
   cases hb
  subst eb
  exact Juh (Nest.reads (fun hq => NRow.readsI hq) kU) h1 eE
 rw [List.getElem?_set, if_neg (fun e => hj e.symm)] at hb
 have gK := (List.getElem?_eq_some_iff.1 eG).1
 have hm := gI.loc (r3 i r b eG hb) hs fun x aD => far x (o3 x (r4 i gK x aD).1) (h.from3 x (r4 i gK x aD).1) fun e => (r4 i gK x aD).2 (by rw [e]; rfl)
 exact Nest.reads (fun hq => NRow.readsI hq) hm
def DocQ (m : BM) (v : Value) (w : World) : Prop := ∃ (ng : Bool) (A7 A8 : Option Addr) (l7 d7 l8 d8 : Nat) (W S C : SW), v = .agg #[.bool ng, .slice A7 l7 d7, .slice A8 l8 d8, W.v, S.v, C.v] /\ IsQ w w.heap.size (.agg #[.bool ng, .slice A7 l7 d7, .slice A8 l8 d8]) m.smooth /\ RdB w w.heap.size W S C m
def Joq (cols : Int) (k : Nat) : List Int := (List.range k).map fun (c : Nat) => (cols.tdiv 3 + (c : Int)) % 3 + 1
theorem Jpg (cols : Int) (k : Nat) : Joq cols (k + 1) = Joq cols k ++ [(cols.tdiv 3 + (k : Int)) % 3 + 1] := by
 unfold Joq
 rw [List.range_succ, List.map_append]
 rfl
theorem Jow (cols : Int) (k : Nat) : (Joq cols k).length = k := by simp [Joq]
theorem Jph {x : Int} (h : -9223372036854775808 <= x /\ x <= 9223372036854775807) : (-4611686018427387904 <= x.tdiv 3 /\ x.tdiv 3 <= 4611686018427387904) /\ -4611686018427387904 <= x.tdiv 4 /\ x.tdiv 4 <= 4611686018427387904 := by
 rcases Int.le_total 0 x with h0 | h0
 ·rw [Int.tdiv_eq_ediv_of_nonneg h0, Int.tdiv_eq_ediv_of_nonneg h0]
  omega
 have e : x.tdiv 4 = -((-x).tdiv 4) := by rw [Int.neg_tdiv]; omega
 have e' : x.tdiv 3 = -((-x).tdiv 3) := by rw [Int.neg_tdiv]; omega
 rw [e, e', Int.tdiv_eq_ediv_of_nonneg (by omega), Int.tdiv_eq_ediv_of_nonneg (by omega)]
 omega
theorem Jpk {f : Nat} {m : BM} {l : List Int} {i : Nat} (h : ¬ (i + m.words.length < l.length /\ i < 24)) : Jop f m l i = m := by
 cases f with
 | zero => rfl
 | succ f => unfold Jop; rw [if_neg h]
theorem Jpl {f n : Nat} {m : BM} {l : List Int} {i : Nat} (hd : DrawnB m n) (hn : n < 1073741824) (h : i + m.words.length < l.length /\ i < 24) (hf : 24 <= f + i) :
  ∃ (f' : Nat), f = f' + 1 /\ Xg m (Jkx (l.drop (i + 1)) m.words) (l.getD i 0 % (m.seen.length : Int)) = (Jn m (Jkx (l.drop (i + 1)) m.words) (l.getD i 0 % (m.seen.length : Int)).toNat 1, 0) /\ DrawnB (Jn m (Jkx (l.drop (i + 1)) m.words) (l.getD i 0 % (m.seen.length : Int)).toNat 1) (n + 1) /\ Jop f m l i = Jop f' (Jn m (Jkx (l.drop (i + 1)) m.words) (l.getD i 0 % (m.seen.length : Int)).toNat 1) l (i + m.words.length + 1) := by
 obtain ⟨h1, h2⟩ := hd.moved (hd.rowOk (l.drop (i + 1))) (hd.class_ (l.getD i 0)) hn
 obtain ⟨f', rfl⟩ : ∃ f', f = f' + 1 := ⟨f - 1, by omega⟩
 refine ⟨f', rfl, h1, h2, ?_⟩
 rw [Jop, if_pos h, h1, if_pos rfl]
def DrS (L : Nat) (g : Nat) (x0 x1 x2 : Value) (m : BM) (w : World) : Prop := ∃ (W S C : SW) (F G H : Nat -> Prop), Blk w g 31 #[x0, x1, x2, W.v, S.v, C.v] /\ OwB 3 22 65 L w W S C F G H m /\ (¬ F g /\ ¬ G g /\ ¬ H g)
def DrI (ws : List Int) (q : Rat) (l : List Int) (M0 : BM) (L g : Nat) (x0 x1 x2 : Value) (w5 : World) (i : Nat) (w : World) : Prop := ∃ (f nT : Nat) (mm : BM), i <= 40 /\ 24 <= f + i /\ Jop f mm l i = M0 /\ DrawnB mm nT /\ nT <= i /\ mm.words = ws /\ mm.smooth = q /\ DrS L g x0 x1 x2 mm w /\ Below L w5 w
def Jpi (m : BM) (y : Int) (k c : Nat) (b : Int) : BM :=
 if y = 0 then { m with seen := m.seen.set k b }
 else if y = 1 then { m with counts := m.counts.set k ((m.counts.getD k []).set c (((m.counts.getD k []).getD c []).set 0 b)) }
 else if y = 2 then { m with smooth := (b : Rat) }
 else if y = 3 then { m with words := m.words.set c b }
 else if y = 4 then { m with counts := m.counts.set k ((m.counts.getD k []).drop 1) }
 else if y = 5 then { m with seen := m.seen.drop 1 }
 else if y = 6 then { m with seen := m.seen.set k 1073741824 }
 else m
theorem Jpo (m : BM) (way at_ by_ : Int) : Jo6 m way at_ by_ = Jpi m (way % 14) (at_ % (m.seen.length : Int)).toNat ((at_.tdiv 3) % (m.words.length : Int)).toNat (by_ % 9 - 2) := rfl
theorem Jo2 {m : BM} {y : Int} {k c : Nat} {b : Int} (h : ¬ (y = 0 \/ y = 1 \/ y = 2 \/ y = 3 \/ y = 4 \/ y = 5 \/ y = 6)) : Jpi m y k c b = m := by
 unfold Jpi
 rw [if_neg (by omega), if_neg (by omega), if_neg (by omega), if_neg (by omega), if_neg (by omega), if_neg (by omega), if_neg (by omega)]
def DrQ (g g' : Nat) (m : BM) (w : World) : Prop := ∃ (ng : Bool) (A7 A8 : Option Addr) (l7 d7 l8 d8 : Nat) (W S C : SW), Blk w g 31 #[.bool ng, .slice A7 l7 d7, .slice A8 l8 d8, W.v, S.v, C.v] /\ ∀ w', Exc g' w w' -> IsQ w' w'.heap.size (.agg #[.bool ng, .slice A7 l7 d7, .slice A8 l8 d8]) m.smooth /\ RdB w' w'.heap.size W S C m
theorem Jq1 {a : Bool} {A1 A2 A3 A4 A5 : Option Addr} {l1 c1 l2 c2 l3 c3 l4 c4 l5 c5 : Nat} : ∀ i x : Nat, (#[Value.bool a, .slice A1 l1 c1, .slice A2 l2 c2, .slice A3 l3 c3, .slice A4 l4 c4, .slice A5 l5 c5])[i]? ≠ some (Ju x) := by
 intro i x h
 match i with
 | 0 => simp [Ju] at h
 | 1 => simp [Ju] at h
 | 2 => simp [Ju] at h
 | 3 => simp [Ju] at h
 | 4 => simp [Ju] at h
 | 5 => simp [Ju] at h
 | n + 6 => simp at h
def DrF (ws : List Int) (q : Rat) (M0 : BM) (L g : Nat) (x0 x1 x2 : Value) (w5 : World) (w : World) : Prop := ∃ nT : Nat, nT <= 40 /\ DrawnB M0 nT /\ M0.words = ws /\ M0.smooth = q /\ DrS L g x0 x1 x2 M0 w /\ Below L w5 w
def DrM (L : Nat) (x0 x1 x2 xw : Value) (m : BM) (u : Value) (w : World) (X : Nat -> Prop) : Prop := ∃ (S C : SW) (G H : Nat -> Prop), u = .agg #[x0, x1, x2, xw, S.v, C.v] /\ NRow 3 zv w G S.v m.seen /\ Nest 65 (Nest 22 (NRow 3 zv)) w H C.v m.counts /\ (∀ k, G k -> L <= k /\ ¬ H k) /\ (∀ k, H k -> L <= k) /\ ∀ g, X g -> ¬ G g /\ ¬ H g
theorem DrM.next {L : Nat} {x0 x1 x2 xw u : Value} {m : BM} {w w' : World} {X Y : Nat -> Prop} (h : DrM L x0 x1 x2 xw m u w X) (hb : Below w.heap.size w w') (hY : ∀ g, Y g -> X g \/ w.heap.size <= g) : DrM L x0 x1 x2 xw m u w' Y := by
 obtain ⟨S, C, G, H, e, hs, hc, h1, h2, h3⟩ := h
 have hr := Js 3 zv
 refine ⟨S, C, G, H, e, hr.loc hs hb.size fun k hk => hb.block k (hr.lt hs hk), hc.next (Xt hr _) hb, h1, h2, fun g hg => ?_⟩
 rcases hY g hg with h | h
 ·exact h3 g h
 exact ⟨fun e => by have := hr.lt hs e; omega, fun e => by have := hc.lt (Xt hr _) e; omega⟩
theorem DrM.exc {L g : Nat} {x0 x1 x2 xw u : Value} {m : BM} {w w' : World} {X : Nat -> Prop} (h : DrM L x0 x1 x2 xw m u w X) (hx : Exc g w w') (hg : X g) : DrM L x0 x1 x2 xw m u w' X := by
 obtain ⟨S, C, G, H, e, hs, hc, h1, h2, h3⟩ := h
 have hr := Js 3 zv
 exact ⟨S, C, G, H, e, hr.loc hs hx.size fun k hk => hx.block k (hr.lt hs hk) fun e => (h3 g hg).1 (by rw [<- e]; exact hk), hc.loc (Xt hr _) hx.size fun k hk => hx.block k (hc.lt (Xt hr _) hk) fun e => (h3 g hg).2 (by rw [<- e]; exact hk), h1, h2, h3⟩
structure DrR (W : World) (x0 x1 x2 xw : Value) (n1 : Nat) (row : List Int) (m : BM) (FX : Nat -> Option Value) (d : Nat -> Bool) (val : Nat -> Value) (w : World) : Prop where
 bel : Below W.heap.size W w
 fx : Fixed FX d val
 v6 : d 6 = true -> ∃ A c, val 6 = .slice A n1 c /\ (d 15 = false -> ReadsI w w.heap.size A n1 row)
 v15 : d 15 = true -> ∃ c0 c1 c2 c3 c4 c5, val 15 = .tuple #[.agg #[c0, c1, c2, c3, c4, c5], .int .i64 0] /\ (#[c0, c1, c2, c3, c4, c5].all (·.oneCell') = true) /\ DrM W.heap.size x0 x1 x2 xw m (.agg #[c0, c1, c2, c3, c4, c5]) w fun g => d 19 = true /\ val 19 = .pointer (some ⟨g, 0, none⟩)
 v16 : d 16 = true -> d 15 = true /\ val 16 = val 15
 v17 : d 17 = true -> d 15 = true /\ ∀ u y, val 15 = .tuple #[u, y] -> val 17 = u
 v18 : d 18 = true -> d 15 = true /\ ∀ u y, val 15 = .tuple #[u, y] -> val 18 = y
 v19 : d 19 = true -> ∃ g y0 y1 y2 y3 y4 y5, val 19 = .pointer (some ⟨g, 0, none⟩) /\ W.heap.size <= g /\ Blk w g 31 #[y0, y1, y2, y3, y4, y5] /\ (d 20 = true -> d 17 = true /\ val 17 = .agg #[y0, y1, y2, y3, y4, y5])
 v20 : d 20 = true -> d 19 = true
 v21 : d 21 = true -> d 18 = true /\ val 21 = val 18
theorem DrR.next {W w w' : World} {x0 x1 x2 xw : Value} {n1 : Nat} {row : List Int} {m : BM} {FX : Nat -> Option Value} {d : Nat -> Bool} {val : Nat -> Value} (h : DrR W x0 x1 x2 xw n1 row m FX d val w) (hb : Below w.heap.size w w') : DrR W x0 x1 x2 xw n1 row m FX d val w' where
 bel := h.bel.trans (hb.mono h.bel.size)
 fx := h.fx
 v6 := fun h1 => (h.v6 h1).imp fun A h2 => h2.imp fun c h3 => ⟨h3.1, fun h4 => rkindI.more (rkindI.below (h3.2 h4) hb) hb.size⟩
 v15 := fun h1 => by
  obtain ⟨c0, c1, c2, c3, c4, c5, e, ho, hm⟩ := h.v15 h1
  exact ⟨c0, c1, c2, c3, c4, c5, e, ho, hm.next hb fun g hg => .inl hg⟩
 v16 := h.v16
 v17 := h.v17
 v18 := h.v18
 v19 := fun h1 => by
  obtain ⟨g, y0, y1, y2, y3, y4, y5, e, hg, hk, h2⟩ := h.v19 h1
  exact ⟨g, y0, y1, y2, y3, y4, y5, e, hg, hk.below hb hk.lt, h2⟩
 v20 := h.v20
 v21 := h.v21
theorem Jq6 {a b u y : Value} (h : #[a, b] = #[u, y]) : a = u /\ b = y := by simpa using h
theorem Jps {g g' : Nat} (h : Value.pointer (some ⟨g, 0, none⟩) = .pointer (some ⟨g', 0, none⟩)) : g = g' := by
 injection h with h
 injection h with h
 injection h with h
def DrC (L : Nat) (x0 x1 x2 xw : Value) (m : BM) (W : World) (v v20 : Value) (w : World) : Prop := ∃ (g : Nat) (S C : SW) (G H : Nat -> Prop), v = .pointer (some ⟨g, 0, none⟩) /\ v20 = .int .i64 0 /\ Blk w g 31 #[x0, x1, x2, xw, S.v, C.v] /\ NRow 3 zv w G S.v m.seen /\ Nest 65 (Nest 22 (NRow 3 zv)) w H C.v m.counts /\ (∀ k, G k -> L <= k /\ ¬ H k) /\ (∀ k, H k -> L <= k) /\ Below W.heap.size W w
theorem DrR.end_ {W w : World} {x0 x1 x2 xw : Value} {n1 : Nat} {row : List Int} {m : BM} {FX : Nat -> Option Value} {d : Nat -> Bool} {val : Nat -> Value} (hF : DrR W x0 x1 x2 xw n1 row m FX d val w) (hd : ∀ i, i < 22 -> d i = true) : DrC W.heap.size x0 x1 x2 xw m W (val 19) (val 21) w := by
 obtain ⟨c0, c1, c2, c3, c4, c5, e15, -, S, C, G, H, e0, hs, hc, h1, h2, -⟩ := hF.v15 (hd 15 (by decide))
 obtain ⟨g, y0, y1, y2, y3, y4, y5, e19, hg, hk, kW⟩ := hF.v19 (hd 19 (by decide))
 have e8 := ((kW (hd 20 (by decide))).2.symm.trans ((hF.v17 (hd 17 (by decide))).2 _ _ e15)).trans e0
 injection e8 with e8
 rw [e8] at hk
 exact ⟨g, S, C, G, H, e19, (hF.v21 (hd 21 (by decide))).2.trans ((hF.v18 (hd 18 (by decide))).2 _ _ e15), hk, hs, hc, h1, h2, hF.bel⟩
theorem Jqh {L : Nat} {x0 x1 x2 xw : Value} {m : BM} {v : Value} {w : World} (h : Jq7 L x0 x1 x2 xw (m, 0) v w) : ∃ u, v = .tuple #[u, .int .i64 0] /\ Jq3 L x0 x1 x2 xw m u w := by
 rcases h with ⟨-, u, rfl, hm⟩ | ⟨h0, -⟩
 ·exact ⟨u, rfl, hm⟩
 exact absurd rfl h0
theorem DrQ.of {g g' : Nat} {m : BM} {ng : Bool} {A7 A8 : Option Addr} {l7 d7 l8 d8 : Nat} {W S C : SW} {w : World} (bk : Blk w g 31 #[.bool ng, .slice A7 l7 d7, .slice A8 l8 d8, W.v, S.v, C.v]) (hq : ∀ w', Exc g' w w' -> IsQ w' w'.heap.size (.agg #[.bool ng, .slice A7 l7 d7, .slice A8 l8 d8]) m.smooth) (hx : RdX g' m W S C w) : DrQ g g' m w :=
 ⟨ng, A7, A8, l7, d7, l8, d8, W, S, C, bk, fun w' h => ⟨hq w' h, hx w' h⟩⟩
theorem OwB.newWords {e T T2 : TypeId} {L : Nat} {w w' : World} {W W' S C : SW} {F G H : Nat -> Prop} {m : BM} {ws : List Int} (h : OwB e T T2 L w W S C F G H m) (hb : Below w.heap.size w w') (hL : L <= w.heap.size) (ho : Own w' e zv W'.v ws) (hf : ∀ b, W'.v.ownBlock = some b -> w.heap.size <= b) : OwB e T T2 L w' W' S C (fun k => W'.v.ownBlock = some k) G H { m with words := ws } := by
 obtain ⟨o1, o2, o3⟩ := h.old
 have h2 := h.next hb
 exact ⟨NRow.of ho, h2.seen, h2.counts, fun k hk => nt hL (hf k hk), h.from2, h.from3, fun k hk cI => by have := hf k hk; have := o2 k cI; omega, fun k hk cI => by have := hf k hk; have := o3 k cI; omega, h.ap23⟩
theorem OwB.setWordsD {e T T2 : TypeId} {L : Nat} {w : World} {S C : SW} {F G H : Nat -> Prop} {m : BM} {g n c : Nat} (h : OwB e T T2 L w ⟨some ⟨g, 0, none⟩, n, c⟩ S C F G H m) (k : Nat) (y : Int) : OwB e T T2 L (w.setCell ⟨g, k, none⟩ (zv y)) ⟨some ⟨g, 0, none⟩, n, c⟩ S C F G H { m with words := m.words.set k y } := by
 have hF : F g := (h.words.2 g).2 rfl
 have aC : Exc g w (w.setCell ⟨g, k, none⟩ (zv y)) := (Exc.refl g w).set_ k _
 exact ⟨NRow.store h.words k y, (Js e zv).loc h.seen aC.size fun z hz => aC.block z ((Js e zv).lt h.seen hz) fun e => h.ap12 g hF (by rw [<- e]; exact hz),
  h.counts.loc (Xt (Js _ zv) T) aC.size fun z hz => aC.block z (h.counts.lt (Xt (Js _ zv) T) hz) fun e => h.ap13 g hF (by rw [<- e]; exact hz), h.from1, h.from2, h.from3, h.ap12, h.ap13, h.ap23⟩
theorem Jpt (A : Option Addr) (n c : Nat) (l : List Int) (classes cols smooth way at_ by_ : Int) (B : Nat) (w : World) (h : ReadsI w B A n l) (hB : B <= w.heap.size) (fR : n <= c) (hc : c <= 9223372036854775807) (hl : ∀ x ∈ l, -9223372036854775808 <= x /\ x <= 9223372036854775807)
  (i1 : -9223372036854775808 <= classes /\ classes <= 9223372036854775807) (i2 : -9223372036854775808 <= cols /\ cols <= 9223372036854775807) (i3 : -9223372036854775808 <= smooth /\ smooth <= 9223372036854775807) (i4 : -9223372036854775808 <= way /\ way <= 9223372036854775807) (i5 : -9223372036854775808 <= at_ /\ at_ <= 9223372036854775807) (i6 : -9223372036854775808 <= by_ /\ by_ <= 9223372036854775807) :
  Calls Tryz.prog 12 #[.slice A n c, .int .i64 classes, .int .i64 cols, .int .i64 smooth, .int .i64 way, .int .i64 at_, .int .i64 by_] w fun e w' => ∃ v, e = .returned v /\ DocQ (Jo6 (Jov l classes cols smooth) way at_ by_) v w' /\ Below w.heap.size w w' := by
 have iY : l.length = n := h.len
 have gL : ∀ (M : Nat), 1 <= M -> M <= 1000 -> ∀ (y : Int) (w' : World), -9223372036854775808 <= y -> y <= 9223372036854775807 -> Calls Tryz.prog 13 #[.int .i64 y, .int .i64 (M : Int)] w' fun e w'' => e = .returned (.int .i64 (y % (M : Int))) /\ w' = w'' := fun M h1 h2 y w' h3 h4 => Jpd y M w' h3 h4 h1 (by omega)
 have HPK := lh gL
 obtain ⟨N, hN⟩ : ∃ N : Nat, cols % 3 + 1 = (N : Int) := ⟨(cols % 3 + 1).toNat, by omega⟩
 have mA : 1 <= N /\ N <= 3 := by omega
 obtain ⟨NC, iZ⟩ : ∃ NC : Nat, classes % 3 + 1 = (NC : Int) := ⟨(classes % 3 + 1).toNat, by omega⟩
 have kX : 1 <= NC /\ NC <= 3 := by omega
 have jA : Joq cols N = Jon cols := by unfold Joq Jon; rw [show (cols % 3).toNat + 1 = N by omega]
 obtain ⟨M0, gO⟩ : ∃ M0, Jov l classes cols smooth = M0 := ⟨_, rfl⟩
 rw [gO]
 obtain ⟨M1, dS⟩ : ∃ M1, Jo6 M0 way at_ by_ = M1 := ⟨_, rfl⟩
 rw [dS]
 have HM := lh (And.intro gO dS)
 have HN := lh (And.intro hN (And.intro iZ jA))
 have H := lh h
 have HL := lh hl
 have HI := lh (And.intro i1 (And.intro i2 (And.intro i3 (And.intro i4 (And.intro i5 i6)))))
 have HBB := lh hB
 have HLN := lh iY
 have HP1 : Hid (∀ w', Calls Tryz.prog 13 #[.int .i64 cols, .int .i64 3] w' fun e w'' => e = .returned (.int .i64 ((N : Int) - 1)) /\ w' = w'') := lh fun w' => by
  have h1 := gL 3 (by decide) (by decide) cols w' i2.1 i2.2
  rw [show cols % ((3 : Nat) : Int) = (N : Int) - 1 by omega] at h1
  exact h1
 clear h hl i1 i2 i3 i4 i5 i6 hB iY gO dS hN iZ gL jA
 obtain ⟨b0, hB, hZ⟩ := bx1 w 31 #[.bool false, .slice none 0 0, .slice none 0 0, .slice none 0 0, .slice none 0 0, .slice none 0 0]
 go_enter Tryz.func12, Tryz.ntmps12
 go_upto_region 1 with fail
 generalize (w.alloc (.cells #[.bool false, .slice none 0 0, .slice none 0 0, .slice none 0 0, .slice none 0 0, .slice none 0 0] 31)) = W at *
 have HBW := lh hB
 have HZ := lh hZ.out
 have B0 := lh b0
 clear hB hZ b0
 go_wp2_with fail
 go_loopw [15, 16] (fun v p wr => ∃ k : Nat, k <= N /\ p = .int .i64 (k : Int) /\ Own wr 3 zv v (Joq cols k) /\ (∀ b, v.ownBlock = some b -> W.heap.size <= b) /\ Below W.heap.size W wr) (fun _ p _ => N - (intOf p).toNat)
 case atStart => exact ⟨0, by omega, rfl, Own.nil_ _ _ _, (fun b h => by cases h), Below.refl _ _⟩
 case round =>
  obtain ⟨k, hk, rfl, ho, aR, j7⟩ := hrel
  rename World => wr
  have q1 : (N : Int) - 1 + 1 = N := by omega
  by_cases dT : k < N
  ·as_aux_lemma =>
   have k1 : (k : Int) < (N : Int) := by omega
   have dU := (Jph HI.out.2.1).1
   obtain ⟨cq, kY⟩ : ∃ cq, cols.tdiv 3 = cq := ⟨_, rfl⟩
   have eH := Jpg cols k
   rw [kY] at dU eH
   have bD := Jfv (x := cq) (by omega) (by omega)
   obtain ⟨y, hy⟩ : ∃ y, cq + (k : Int) = y := ⟨_, rfl⟩
   have bE := Jfv (x := y) (by omega) (by omega)
   rw [hy] at eH
   obtain ⟨t, ht⟩ : ∃ t, y % 3 = t := ⟨_, rfl⟩
   have HP2 : Hid (Calls Tryz.prog 13 #[.int .i64 y, .int .i64 3] wr fun e w'' => e = .returned (.int .i64 t) /\ wr = w'') := lh (by
    have h1 := HPK.out 3 (by decide) (by decide) y wr (by omega) (by omega)
    rw [show y % ((3 : Nat) : Int) = t by omega] at h1
    exact h1)
   rw [ht] at eH
   have mB : 0 <= t /\ t < 3 := by omega
   have HO := lh ho
   have HFR := lh (And.intro aR j7)
   have HSN := lh eH
   clear ho aR j7 eH ht HPK
   go_wp2_with fail
   refine (HP1.out _).mono ?_
   rintro e w1 ⟨rfl, rfl⟩
   go_wp2_with fail
   refine HP2.out.mono ?_
   rintro e w1 ⟨rfl, rfl⟩
   go_wp2_with (at_builtin; refine Joi (f := zv) Tryz.eltZ1 rfl (.tmp 30) (.tmp 37) rfl wr _ (Joq cols k) (t + 1) (.int .i64 (t + 1)) rfl rfl HO.out (by simp [Act.eval]) rfl (by rw [Jow]; unfold maxLen; omega) (by rw [Jow]; omega) ?_; intro v' w2 fS bQ)
   have eI := HFR.out.2.trans (bQ.below HFR.out.2.size HFR.out.1)
   have gP := bQ.fresh HFR.out.2.size HFR.out.1
   rw [<- HSN.out] at fS
   exact ⟨⟨k + 1, by omega, by go_num, fS, gP, eI⟩, by simp [intOf]; omega⟩
  as_aux_lemma =>
  obtain rfl : k = N := by omega
  have k1 : ¬ (k : Int) < (k : Int) := by omega
  rw [HN.out.2.2] at ho
  have aX : (Jon cols).length = k := by rw [<- HN.out.2.2, Jow]
  have HWL := lh aX
  obtain ⟨AW, cW, hv, -⟩ := ho.form
  rw [aX] at hv
  subst hv
  clear aX
  have HO := lh ho
  have HFR := lh (And.intro aR j7)
  clear ho aR j7
  obtain ⟨t4, jB⟩ : ∃ t4, smooth % 4 = t4 := ⟨_, rfl⟩
  obtain ⟨sq, jC⟩ : ∃ sq, smooth.tdiv 4 = sq := ⟨_, rfl⟩
  have jD := (Jph HI.out.2.2.1).2
  rw [jC] at jD
  obtain ⟨t5, jE⟩ : ∃ t5, sq % 3 = t5 := ⟨_, rfl⟩
  have mC := Jfv (x := sq) (by omega) (by omega)
  have mD : (0 <= t4 /\ t4 < 4) /\ 0 <= t5 /\ t5 < 3 := by omega
  obtain ⟨q, hq⟩ : ∃ q, Rat.divInt (t4 + 1) (t5 + 1) = q := ⟨_, rfl⟩
  have cH : Jo1 classes cols smooth = Uw NC (Jon cols) q := by
   unfold Jo1
   rw [show (classes % 3).toNat + 1 = NC by have := HN.out.2.1; omega, jC, jB, jE, <- Rat.divInt_eq_div, hq]
  have jF : Jp6 (NC : Int) (Jon cols) q = Uw NC (Jon cols) q := Jp5 (by
   have h1 := (Joz classes cols smooth).ok
   rw [cH, Kv, Yf] at h1
   have h2 := h1.1.1
   simpa [Uw] using h2)
  have HPC : Hid (∀ w', Calls Tryz.prog 13 #[.int .i64 classes, .int .i64 3] w' fun e w'' => e = .returned (.int .i64 ((NC : Int) - 1)) /\ w' = w'') := lh fun w' => by
   have h1 := HPK.out 3 (by decide) (by decide) classes w' HI.out.1.1 HI.out.1.2
   rw [show classes % ((3 : Nat) : Int) = (NC : Int) - 1 by have := HN.out.2.1; omega] at h1
   exact h1
  have HPS : Hid (∀ w', Calls Tryz.prog 13 #[.int .i64 smooth, .int .i64 4] w' fun e w'' => e = .returned (.int .i64 t4) /\ w' = w'') := lh fun w' => by
   have h1 := HPK.out 4 (by decide) (by decide) smooth w' HI.out.2.2.1.1 HI.out.2.2.1.2
   rw [show smooth % ((4 : Nat) : Int) = t4 by omega] at h1
   exact h1
  have HPT : Hid (∀ w', Calls Tryz.prog 13 #[.int .i64 sq, .int .i64 3] w' fun e w'' => e = .returned (.int .i64 t5) /\ w' = w'') := lh fun w' => by
   have h1 := HPK.out 3 (by decide) (by decide) sq w' (by omega) (by omega)
   rw [show sq % ((3 : Nat) : Int) = t5 by omega] at h1
   exact h1
  have HOV : Hid (∀ w', Calls Tryz.prog 47 #[.int .i64 (t4 + 1), .int .i64 (t5 + 1)] w' (Jmv q w')) := lh fun w' => by
   have h1 := Jk0 (t4 + 1) (t5 + 1) w' (by omega) (by omega) (by omega) (by omega) (by omega)
   rw [hq] at h1
   exact h1
  have q2 : (NC : Int) - 1 + 1 = NC := by omega
  have HST := lh (And.intro cH jF)
  clear jB jE hq cH jF jD
  go_wp2_with fail
  refine (HP1.out _).mono ?_
  rintro e w1 ⟨rfl, rfl⟩
  go_upto_region 6 with fail
  go_wp2_with fail
  refine (HPC.out _).mono ?_
  rintro e w1 ⟨rfl, rfl⟩
  go_wp2_with fail
  refine (HPS.out _).mono ?_
  rintro e w1 ⟨rfl, rfl⟩
  go_wp2_with fail
  refine (HPT.out _).mono ?_
  rintro e w1 ⟨rfl, rfl⟩
  go_wp2_with fail
  refine (HOV.out _).mono ?_
  rintro e w5 ⟨V, rfl, dV, t7⟩
  obtain ⟨ng, A7, l7, d7, A8, l8, d8, rfl⟩ := dV.shape
  have gQ : ReadsI w5 w5.heap.size AW k (Jon cols) := rkindI.more (rkindI.below (NRow.readsI (NRow.of HO.out)) t7) t7.size
  have HNW := lh (Jqu (NC : Int) AW k cW (Jon cols) ng A7 A8 l7 d7 l8 d8 w5.heap.size q w5 gQ zd (by omega) (fun x hx => by have := Jou hx; omega))
  have HB5 := lh (HFR.out.2.trans (t7.mono HFR.out.2.size))
  have HIQ := lh dV
  have HRW := lh gQ
  clear t7 dV gQ HPC HPS HPT HOV HP1
  rw [HST.out.2] at HNW
  go_wp2_with fail
  refine HNW.out.mono ?_
  rintro e w6 ⟨v, rfl, ⟨⟨A1, n1, c1⟩, ⟨A2, n2, c2⟩, ⟨A3, n3, c3⟩, F, G, Hh, rfl, ho⟩, bX⟩
  simp only [SW.v] at *
  go_upto_region 7 with fail
  have b17 := Blk.new w6 31 #[.bool ng, .slice A7 l7 d7, .slice A8 l8 d8, .slice A1 n1 c1, .slice A2 n2 c2, .slice A3 n3 c3]
  have j0 := Ja bX (Jb w6 (.cells #[.bool ng, .slice A7 l7 d7, .slice A8 l8 d8, .slice A1 n1 c1, .slice A2 n2 c2, .slice A3 n3 c3] 31))
  have eC := ho.next (Jb w6 (.cells #[.bool ng, .slice A7 l7 d7, .slice A8 l8 d8, .slice A1 n1 c1, .slice A2 n2 c2, .slice A3 n3 c3] 31))
  generalize w6.alloc (.cells #[.bool ng, .slice A7 l7 d7, .slice A8 l8 d8, .slice A1 n1 c1, .slice A2 n2 c2, .slice A3 n3 c3] 31) = w7 at *
  obtain ⟨o1, o2, o3⟩ := ho.old
  have eJ : w5.heap.size <= w6.heap.size := bX.size
  generalize w6.heap.size = g at *
  have eK : DrS w5.heap.size g (.bool ng) (.slice A7 l7 d7) (.slice A8 l8 d8) (Uw NC (Jon cols) q) w7 := ⟨⟨A1, n1, c1⟩, ⟨A2, n2, c2⟩, ⟨A3, n3, c3⟩, F, G, Hh, b17, eC, fun e => by have := o1 _ e; omega, fun e => by have := o2 _ e; omega, fun e => by have := o3 _ e; omega⟩
  have HDI : Hid (DrI (Jon cols) q l M0 w5.heap.size g (.bool ng) (.slice A7 l7 d7) (.slice A8 l8 d8) w5 0 w7) := lh ⟨24, 0, _, by omega, by omega, by rw [<- HM.out.1]; unfold Jov; rw [HST.out.1], by rw [<- HST.out.1]; exact Joz classes cols smooth, by omega, rfl, rfl, eK, j0⟩
  clear j0 bX ho eC b17 eK o1 o2 o3 HNW HST HO HFR
  go_upto_block 2 with fail
  go_cut [18] (fun v wc => (∃ i : Int, v = .int .i64 i) /\ DrF (Jon cols) q M0 w5.heap.size g (.bool ng) (.slice A7 l7 d7) (.slice A8 l8 d8) w5 wc)
  case first =>
   go_wp2_with fail
   go_loopw [18] (fun p wr => ∃ i : Nat, p = .int .i64 (i : Int) /\ DrI (Jon cols) q l M0 w5.heap.size g (.bool ng) (.slice A7 l7 d7) (.slice A8 l8 d8) w5 i wr) (fun p _ => 1000 - (intOf p).toNat)
   case atStart => exact ⟨0, rfl, HDI.out⟩
   case round =>
    obtain ⟨i, rfl, f, nT, mm, kZ, lA, y8, aL, gU, aN, bS, dB, j7⟩ := hrel
    clear HDI
    rename World => wr
    have aE := @Jpk f mm l i
    rw [aN, HWL.out, HLN.out, y8] at aE
    by_cases dC : i + k < n
    case neg =>
     have k2 : ¬ (i : Int) + (k : Int) < (n : Int) := by omega
     have e0 := aE fun h => dC h.1
     subst e0
     have HDF : Hid (DrF (Jon cols) q M0 w5.heap.size g (.bool ng) (.slice A7 l7 d7) (.slice A8 l8 d8) w5 wr) := lh ⟨nT, by omega, aL, aN, bS, dB, j7⟩
     clear aE y8 aL aN bS dB j7
     go_wp2_with fail
     go_meet
     exact ⟨⟨_, rfl⟩, HDF.out⟩
    have k2 : (i : Int) + (k : Int) < (n : Int) := by omega
    by_cases aY : i < 24
    case neg =>
     have k3 : ¬ (i : Int) < 24 := by omega
     have e0 := aE fun h => aY h.2
     subst e0
     have HDF : Hid (DrF (Jon cols) q M0 w5.heap.size g (.bool ng) (.slice A7 l7 d7) (.slice A8 l8 d8) w5 wr) := lh ⟨nT, by omega, aL, aN, bS, dB, j7⟩
     clear aE y8 aL aN bS dB j7
     go_wp2_with fail
     go_meet
     exact ⟨⟨_, rfl⟩, HDF.out⟩
    have k3 : (i : Int) < 24 := by omega
    clear aE
    obtain ⟨f', rfl, y9, dD, cJ⟩ := Jpl (l := l) aL (by omega) (by rw [aN, HWL.out, HLN.out]; exact ⟨dC, aY⟩) lA
    rw [aN] at y9 dD cJ
    rw [HWL.out] at cJ
    obtain ⟨row, o0⟩ : ∃ row, Jkx (l.drop (i + 1)) (Jon cols) = row := ⟨_, rfl⟩
    obtain ⟨⟨A1, n1, c1⟩, ⟨A2, n2, c2⟩, ⟨A3, n3, c3⟩, F, G, Hh, bk, ho, eL⟩ := dB
    simp only [SW.v] at bk
    obtain ⟨ad, g5, o5, y, rfl, eM, bY, hy, b5⟩ := H.out.spot (k := i) (by omega)
    have jG : l.getD i 0 = y := by rw [List.getD_eq_getElem?_getD, hy]; rfl
    have gV := (ho.read).seen.len
    have aT : mm.seen.length = n2 := ho.read.seen.len
    rw [jG, aT, o0] at y9 dD cJ
    have gW : 1 <= n2 /\ n2 <= 3 := by have := aL.classes; omega
    obtain ⟨cn, gY⟩ : ∃ cn : Nat, y % (n2 : Int) = (cn : Int) := ⟨(y % (n2 : Int)).toNat, by have := Int.emod_nonneg y (show (n2 : Int) ≠ 0 by omega); omega⟩
    rw [gY] at y9 dD cJ
    rw [Int.toNat_natCast] at y9 dD cJ
    obtain ⟨m', bZ⟩ : ∃ m', Jn mm row cn 1 = m' := ⟨_, rfl⟩
    have dE : m'.words = Jon cols := by rw [<- bZ]; exact aN
    have eN : m'.smooth = q := by rw [<- bZ]; exact bS
    rw [bZ] at y9 dD cJ
    obtain ⟨A9, dF⟩ : ∃ A9, Jg4 (some ad) c (i + 1) 1 = A9 := ⟨_, rfl⟩
    obtain ⟨n9, bF⟩ : ∃ n9, n - (i + 1) = n9 := ⟨_, rfl⟩
    obtain ⟨c9, eO⟩ : ∃ c9, c - (i + 1) = c9 := ⟨_, rfl⟩
    have cK : ∀ w' : World, (Instr.slice 22 (.slice (some ad) n c) (some (.int .i64 ((i : Int) + 1))) none none).run Tryz.prog w' = .ok (.slice A9 n9 c9) w' := fun w' => by
     have := Ji0 (P := Tryz.prog) (Tryz.eltZ1).under (Tryz.eltZ1).info (some ad) n c .i64 ((i : Int) + 1) (by omega) (by omega) w'
     rw [show ((i : Int) + 1).toNat = i + 1 by omega, dF, bF, eO] at this
     exact this
    have aU : Below w5.heap.size w5 wr := j7
    have eP : Below w.heap.size w wr := HBW.out.trans ((HB5.out.trans (j7.mono HB5.out.size)).mono HBW.out.size)
    have aJ : ReadsI w5 w5.heap.size A9 n9 (l.drop (i + 1)) := by
     have h1 : Reads w B 1 (Jg4 (some ad) c (i + 1) 1) (n - (i + 1)) ((l.map zv).drop ((i + 1) * 1)) := Reads.cut H.out (show i + 1 <= n by omega) fR
     rw [dF, bF, Nat.mul_one] at h1
     have h2 := rkindI.below (show ReadsI w B A9 n9 (l.drop (i + 1)) by unfold ReadsI; rw [List.map_drop]; exact h1) ((HBW.out.trans (HB5.out.mono HBW.out.size)).mono HBB.out)
     exact rkindI.more h2 (nt HBB.out (HBW.out.trans (HB5.out.mono HBW.out.size)).size)
    have eQ : ∀ w', Below wr.heap.size wr w' -> ∀ A6 c6, ReadsI w' w'.heap.size A6 k row -> Calls Tryz.prog 31 #[.agg #[.bool ng, .slice A7 l7 d7, .slice A8 l8 d8, .slice A1 n1 c1, .slice A2 n2 c2, .slice A3 n3 c3], .slice A6 k c6, .int .i64 (cn : Int)] w' fun e w'' => ∃ v, e = .returned v /\ (∃ u, v = .tuple #[u, .int .i64 0] /\ Jq3 w'.heap.size (.bool ng) (.slice A7 l7 d7) (.slice A8 l8 d8) (.slice A1 n1 c1) m' u w'') /\ Below w'.heap.size w' w'' := fun w' hb A6 c6 h6 => by
     refine (Jp3 ng A7 A8 l7 d7 l8 d8 A1 A2 A3 n1 c1 n2 c2 n3 c3 w'.heap.size mm A6 k c6 row cn w' (ho.next hb).read (by rw [bS]; exact (HIQ.out.below (j7.trans (hb.mono j7.size))).more (nt j7.size hb.size)) h6 zd (Za aL.ok) (by omega)).mono ?_
     rintro e w'' ⟨v, rfl, hv, fP⟩
     rw [y9] at hv
     exact ⟨v, rfl, Jqh hv, fP⟩
    have lB : n9 <= 9223372036854775807 := by omega
    have mE : IntKind.i64.wrap ((i : Int) + 1) = (i : Int) + 1 := IntWalk.i64_in _ (by omega)
    have HTE := lh eQ
    have BK := lh bk
    have HBX := lh aU
    have HBY := lh eP
    have HCUT := lh aJ
    have HGO := lh (And.intro y8 (And.intro cJ (And.intro dD (And.intro dE (And.intro eN gU)))))
    have HOA := lh (And.intro ho eL)
    have HMW := lh (show mm.words = m'.words by rw [dE, aN])
    have k5 : (i : Int) < (n : Int) := by omega
    have mF : m'.seen.length = n2 /\ True := ⟨by rw [<- bZ, Yt]; exact aT, trivial⟩
    clear eQ bk aU eP aJ y8 cJ dD dE eN gU ho eL dF bF eO y9 aL aN bS j7 gV aT bZ jG
    go_upto_region 10 with fail
    go_cut [19, 20] (fun v v20 wc => DrC wr.heap.size (.bool ng) (.slice A7 l7 d7) (.slice A8 l8 d8) (.slice A1 n1 c1) m' wr v v20 wc)
    case first =>
     refine Je0 (DrR wr (.bool ng) (.slice A7 l7 d7) (.slice A8 l8 d8) (.slice A1 n1 c1) k row m' (fun j => ([some (.agg #[.bool ng, .slice A7 l7 d7, .slice A8 l8 d8, .slice A1 n1 c1, .slice A2 n2 c2, .slice A3 n3 c3]), some (.slice (some ad) n c), some (.int .i64 (i : Int)), some (.int .i64 ((i : Int) + 1)), some (.slice A9 n9 c9), some (.slice AW k cW), none, some (.slice (some ad) n c), some (.int .i64 (i : Int)), some (.pointer (some (ad.add i))), some (.int .i64 y), some (.pointer (some ⟨g, 4, none⟩)), some (.slice A2 n2 c2), some (.int .i64 (n2 : Int)), some (.int .i64 (cn : Int)), none, none, none, none, none, none, none] : List (Option Value)).getD j none)) (by kernel_rfl) (by kernel_rfl) (by kernel_rfl) ?_ ?_ [some 69, some 70, some 71, some 72, some 73, some 74, some 75, some 76, some 77, some 78, some 79, some 80, some 81, some 82, some 83, some 84, some 68, some 85, some 86, some 19, none, some 20] rfl ?_
     ·constructor <;> first | exact Jt _ | exact Fixed.start _ _ | (intro h; cases h)
     ·refine ⟨⟨⟨⟨⟨⟨⟨⟨⟨⟨⟨⟨⟨⟨⟨⟨⟨⟨⟨⟨⟨⟨trivial, ?_⟩, ?_⟩, ?_⟩, ?_⟩, ?_⟩, ?_⟩, ?_⟩, ?_⟩, ?_⟩, ?_⟩, ?_⟩, ?_⟩, ?_⟩, ?_⟩, ?_⟩, ?_⟩, ?_⟩, ?_⟩, ?_⟩, ?_⟩, ?_⟩, ?_⟩ <;> intro d val a' w' hS hF hd hp
      ·have e8 : a'.tmps[17]?.getD undef = .pointer (some ⟨g, 0, none⟩) := hS.arg 17
       have b0' := BK.out.below hF.bel BK.out.lt
       obtain ⟨y0, y1, y2, y3, y4, y5⟩ := b0'.c6
       refine Xa (v := .agg #[.bool ng, .slice A7 l7 d7, .slice A8 l8 d8, .slice A1 n1 c1, .slice A2 n2 c2, .slice A3 n3 c3]) _ rfl rfl ?_ (show DrR _ _ _ _ _ _ _ _ _ _ _ _ from { hF with fx := hF.fx.step (.inr rfl) })
       clear hF hS hd hp
       go_simp
      ·have e8 : a'.tmps[0]?.getD undef = .slice (some ad) n c := hS.arg 0
       refine Xa (v := .slice (some ad) n c) _ rfl rfl ?_ (show DrR _ _ _ _ _ _ _ _ _ _ _ _ from { hF with fx := hF.fx.step (.inr rfl) })
       clear hF hS hd hp
       go_simp
      ·have e8 : a'.tmps[18]?.getD undef = .int .i64 (i : Int) := hS.arg 18
       refine Xa (v := .int .i64 (i : Int)) _ rfl rfl ?_ (show DrR _ _ _ _ _ _ _ _ _ _ _ _ from { hF with fx := hF.fx.step (.inr rfl) })
       clear hF hS hd hp
       go_simp
      ·have e1 := hS.fe 2 71 hF.fx (hp 2)
       refine Xa (v := .int .i64 ((i : Int) + 1)) _ rfl rfl ?_ (show DrR _ _ _ _ _ _ _ _ _ _ _ _ from { hF with fx := hF.fx.step (.inr rfl) })
       clear hF hS hd hp
       go_simp
      ·have e1 := hS.fe 1 70 hF.fx (hp 1)
       have e2 := hS.fe 3 72 hF.fx (hp 3)
       refine Xa (v := .slice A9 n9 c9) _ rfl rfl ?_ (show DrR _ _ _ _ _ _ _ _ _ _ _ _ from { hF with fx := hF.fx.step (.inr rfl) })
       clear hF hS hd hp
       go_simp
      ·have e8 : a'.tmps[15]?.getD undef = .slice AW k cW := hS.arg 15
       refine Xa (v := .slice AW k cW) _ rfl rfl ?_ (show DrR _ _ _ _ _ _ _ _ _ _ _ _ from { hF with fx := hF.fx.step (.inr rfl) })
       clear hF hS hd hp
       go_simp
      ·have e1 := hS.fe 4 73 hF.fx (hp 4)
       have e2 := hS.fe 5 74 hF.fx (hp 5)
       have aU := HBX.out.trans (hF.bel.mono HBX.out.size)
       refine Jjm (Ψ := fun v w'' => DrR wr _ _ _ _ _ _ _ _ (upI d 6) (Jf3 val 6 v) w'') _ rfl rfl (args := #[.slice A9 n9 c9, .slice AW k cW]) (w2 := w') (f := 25) ?_ ?_
       ·clear hF hS hd hp
        go_simp
       refine (Jpc A9 n9 c9 (l.drop (i + 1)) AW k cW (Jon cols) w5.heap.size w' (rkindI.below HCUT.out aU) (rkindI.below HRW.out aU) aU.size (by omega) (fun x hx => HL.out x (List.mem_of_mem_drop hx)) (by omega) (fun x hx => by have := Jou hx; omega)).mono ?_
       rintro e w2 ⟨v, rfl, dG, -, j9⟩
       have hG := hF.next j9
       rw [o0] at dG
       obtain ⟨A6, c6, eR, -⟩ := dG.form
       rw [show row.length = k by rw [<- o0, Jkw]; exact HWL.out] at eR
       subst eR
       exact ⟨_, rfl, { hG with fx := hG.fx.step (.inl rfl), v6 := fun _ => ⟨A6, c6, rfl, fun _ => NRow.readsI (NRow.of dG)⟩ }⟩
      ·have e8 : a'.tmps[0]?.getD undef = .slice (some ad) n c := hS.arg 0
       refine Xa (v := .slice (some ad) n c) _ rfl rfl ?_ (show DrR _ _ _ _ _ _ _ _ _ _ _ _ from { hF with fx := hF.fx.step (.inr rfl) })
       clear hF hS hd hp
       go_simp
      ·have e8 : a'.tmps[18]?.getD undef = .int .i64 (i : Int) := hS.arg 18
       refine Xa (v := .int .i64 (i : Int)) _ rfl rfl ?_ (show DrR _ _ _ _ _ _ _ _ _ _ _ _ from { hF with fx := hF.fx.step (.inr rfl) })
       clear hF hS hd hp
       go_simp
      ·have e1 := hS.fe 7 76 hF.fx (hp 7)
       have e2 := hS.fe 8 77 hF.fx (hp 8)
       refine Xa (v := .pointer (some (ad.add i))) _ rfl rfl ?_ (show DrR _ _ _ _ _ _ _ _ _ _ _ _ from { hF with fx := hF.fx.step (.inr rfl) })
       clear hF hS hd hp
       go_simp
      ·have e1 := hS.fe 9 78 hF.fx (hp 9)
       rw [eM] at e1
       have t7 := b5.below (HBY.out.trans (hF.bel.mono HBY.out.size)) (Nat.lt_of_lt_of_le bY HBB.out)
       have bX := t7.1
       refine Xa (v := .int .i64 y) _ rfl rfl ?_ (show DrR _ _ _ _ _ _ _ _ _ _ _ _ from { hF with fx := hF.fx.step (.inr rfl) })
       clear hF hS hd hp
       go_simp
      ·have e8 : a'.tmps[17]?.getD undef = .pointer (some ⟨g, 0, none⟩) := hS.arg 17
       refine Xa (v := .pointer (some ⟨g, 4, none⟩)) _ rfl rfl ?_ (show DrR _ _ _ _ _ _ _ _ _ _ _ _ from { hF with fx := hF.fx.step (.inr rfl) })
       clear hF hS hd hp
       go_simp
      ·have e1 := hS.fe 11 80 hF.fx (hp 11)
       have b0' := BK.out.below hF.bel BK.out.lt
       obtain ⟨y0, y1, y2, y3, y4, y5⟩ := b0'.c6
       refine Xa (v := .slice A2 n2 c2) _ rfl rfl ?_ (show DrR _ _ _ _ _ _ _ _ _ _ _ _ from { hF with fx := hF.fx.step (.inr rfl) })
       clear hF hS hd hp
       go_simp
      ·have e1 := hS.fe 12 81 hF.fx (hp 12)
       refine Xa (v := .int .i64 (n2 : Int)) _ rfl rfl ?_ (show DrR _ _ _ _ _ _ _ _ _ _ _ _ from { hF with fx := hF.fx.step (.inr rfl) })
       clear hF hS hd hp
       go_simp
      ·have e1 := hS.fe 10 79 hF.fx (hp 10)
       have e2 := hS.fe 13 82 hF.fx (hp 13)
       refine Jjm (Ψ := fun v w'' => DrR wr _ _ _ _ _ _ _ _ (upI d 14) (Jf3 val 14 v) w'') _ rfl rfl (args := #[.int .i64 y, .int .i64 (n2 : Int)]) (w2 := w') (f := 13) ?_ ?_
       ·clear hF hS hd hp
        go_simp
       refine (HPK.out n2 gW.1 (by omega) y w' (HL.out y (List.mem_of_getElem? hy)).1 (HL.out y (List.mem_of_getElem? hy)).2).mono ?_
       rintro e w2 ⟨rfl, rfl⟩
       rw [gY]
       exact ⟨_, rfl, { hF with fx := hF.fx.step (.inr rfl) }⟩
      ·have e1 := hS.fe 0 69 hF.fx (hp 0)
       have e3 := hS.fe 14 83 hF.fx (hp 14)
       have e2 := hS.res 6 75 (hp 6)
       obtain ⟨A6, c6, e6, h6⟩ := hF.v6 (hp 6)
       rw [e6] at e2
       have h6 := h6 hd
       refine Jjm (Ψ := fun v w'' => DrR wr _ _ _ _ _ _ _ _ (upI d 15) (Jf3 val 15 v) w'') _ rfl rfl (args := #[.agg #[.bool ng, .slice A7 l7 d7, .slice A8 l8 d8, .slice A1 n1 c1, .slice A2 n2 c2, .slice A3 n3 c3], .slice A6 k c6, .int .i64 (cn : Int)]) (w2 := w') (f := 31) ?_ ?_
       ·clear hF hS hd hp
        go_simp
       refine (HTE.out w' hF.bel A6 c6 h6).mono ?_
       rintro e w2 ⟨v, rfl, ⟨u, rfl, S, C, G', H', rfl, hs, cA, o9, bT⟩, j9⟩
       have hG := hF.next j9
       have aO := hF.bel.size
       refine ⟨_, rfl, { hG with fx := hG.fx.step (.inl rfl), v6 := fun h => (hG.v6 h).imp fun A h => h.imp fun c h => ⟨h.1, fun h' => Bool.noConfusion (show true = false from h')⟩, v15 := fun _ => ⟨_, _, _, _, _, _, rfl, by simp [Value.oneCell', SW.v], S, C, G', H', rfl, hs, cA, fun x hx => ⟨nt aO (o9 x hx).1, (o9 x hx).2⟩, fun x hx => nt aO (bT x hx), fun x hx => ?_⟩, v16 := fun h => absurd ((hF.v16 h).1) (by rw [hd]; decide), v17 := fun h => absurd ((hF.v17 h).1) (by rw [hd]; decide), v18 := fun h => absurd ((hF.v18 h).1) (by rw [hd]; decide) }⟩
       obtain ⟨g', z0, z1, z2, z3, z4, z5, e11, gZ, aF, -⟩ := hF.v19 hx.1
       have e12 := Jps (e11.symm.trans hx.2)
       subst e12
       have aM := aF.lt
       exact ⟨fun e => by have := (o9 _ e).1; omega, fun e => by have := bT _ e; omega⟩
      ·have e1 := hS.res 15 84 (hp 15)
       have h6 := hp 15
       refine Xa (v := val 15) _ rfl rfl ?_ (show DrR _ _ _ _ _ _ _ _ _ _ _ _ from { hF with fx := hF.fx.step (.inl rfl), v16 := fun _ => ⟨h6, rfl⟩ })
       clear hF hS hd hp
       go_simp
      ·have e1 := hS.res 16 68 (hp 16)
       obtain ⟨h6, h7⟩ := hF.v16 (hp 16)
       obtain ⟨q0, q1', q2', q3, q4, q5, e6, -⟩ := hF.v15 h6
       rw [h7, e6] at e1
       refine Xa (v := .agg #[q0, q1', q2', q3, q4, q5]) _ rfl rfl ?_ (show DrR _ _ _ _ _ _ _ _ _ _ _ _ from { hF with fx := hF.fx.step (.inl rfl), v17 := fun _ => ⟨h6, fun u y (e : val 15 = _) => by rw [e6] at e; injection e with e; exact (Jq6 e).1⟩, v19 := fun h => (hF.v19 h).imp fun g h => h.imp fun y0 h => h.imp fun y1 h => h.imp fun y2 h => h.imp fun y3 h => h.imp fun y4 h => h.imp fun y5 h => ⟨h.1, h.2.1, h.2.2.1, fun h' => absurd (h.2.2.2 h').1 (by rw [hd]; decide)⟩ })
       clear hF hS hd hp
       go_simp
      ·have e1 := hS.res 16 68 (hp 16)
       obtain ⟨h6, h7⟩ := hF.v16 (hp 16)
       obtain ⟨q0, q1', q2', q3, q4, q5, e6, -⟩ := hF.v15 h6
       rw [h7, e6] at e1
       refine Xa (v := .int .i64 0) _ rfl rfl ?_ (show DrR _ _ _ _ _ _ _ _ _ _ _ _ from { hF with fx := hF.fx.step (.inl rfl), v18 := fun _ => ⟨h6, fun u y (e : val 15 = _) => by rw [e6] at e; injection e with e; exact (Jq6 e).2⟩, v21 := fun h => absurd ((hF.v21 h).1) (by rw [hd]; decide) })
       clear hF hS hd hp
       go_simp
      ·have hG := hF.next (Jb w' (.cells #[.bool false, .slice none 0 0, .slice none 0 0, .slice none 0 0, .slice none 0 0, .slice none 0 0] 31))
       have aO := hF.bel.size
       refine Xa (v := .pointer (some ⟨w'.heap.size, 0, none⟩)) (w2 := w'.alloc (.cells #[.bool false, .slice none 0 0, .slice none 0 0, .slice none 0 0, .slice none 0 0, .slice none 0 0] 31)) _ rfl rfl ?_ (show DrR _ _ _ _ _ _ _ _ _ _ _ _ from { hG with fx := hG.fx.step (.inl rfl), v15 := fun h => ?_, v19 := fun _ => ⟨_, _, _, _, _, _, _, rfl, aO, Blk.new _ _ _, fun h => absurd (hF.v20 h) (by rw [hd]; decide)⟩, v20 := fun _ => rfl })
       ·clear hG hF hS hd hp
        go_simp
       obtain ⟨q0, q1', q2', q3, q4, q5, e6, l6, aK⟩ := hF.v15 h
       exact ⟨q0, q1', q2', q3, q4, q5, e6, l6, aK.next (Jb _ _) fun g hg => .inr (by rw [<- Jps (show Value.pointer (some ⟨w'.heap.size, 0, none⟩) = .pointer (some ⟨g, 0, none⟩) from hg.2)]; exact Nat.le_refl _)⟩
      ·obtain ⟨h6, h8⟩ := hF.v17 (hp 17)
       have t8 := hp 19
       obtain ⟨g', z0, z1, z2, z3, z4, z5, e11, o9, aF, -⟩ := hF.v19 t8
       obtain ⟨q0, q1', q2', q3, q4, q5, e6, l6, aK⟩ := hF.v15 h6
       have e8 := h8 _ _ e6
       exact Jde _ rfl rfl _ _ _ rfl rfl g' #[q0, q1', q2', q3, q4, q5] _ ((hS.got 19 19 t8 rfl (Nat.le_of_ble_eq_true (by kernel_rfl))).trans e11) ((hS.got 17 85 (hp 17) rfl (Nat.le_of_ble_eq_true (by kernel_rfl))).trans e8) _ aF (by kernel_rfl) rfl l6 fun w2 j9 cL => show DrR _ _ _ _ _ _ _ _ _ _ _ _ from { hF with bel := hF.bel.trans (cL.below hF.bel.size o9), fx := hF.fx.step (.inl rfl), v6 := fun h => (hF.v6 h).imp fun A h => h.imp fun c h => ⟨h.1, fun h' => absurd (show d 15 = false from h') (by rw [h6]; decide)⟩, v15 := fun h => ⟨q0, q1', q2', q3, q4, q5, e6, l6, aK.exc cL ⟨t8, e11⟩⟩, v19 := fun _ => ⟨g', _, _, _, _, _, _, e11, o9, j9, fun _ => ⟨hp 17, e8⟩⟩, v20 := fun _ => t8 }
      ·have e1 := hS.res 18 86 (hp 18)
       have h9 := hp 18
       refine Xa (v := val 18) _ rfl rfl ?_ (show DrR _ _ _ _ _ _ _ _ _ _ _ _ from { hF with fx := hF.fx.step (.inl rfl), v21 := fun _ => ⟨h9, rfl⟩ })
       clear hF hS hd hp
       go_simp
     intro d val w' hF hd
     simp only [Exit.then, Jd7, Act.put, List.setIfInBounds_toArray, List.set_cons_succ, List.set_cons_zero]
     refine ‹∀ a' w', Met _ a' w' -> _› _ _ ?_
     go_meet
     exact hF.end_ hd
    case rest =>
     obtain ⟨g', S, C, G', H', rfl, rfl, bk', hs, cA, o9, bT, hb⟩ := hcut
     rename World => wc
     have eS := BK.out.lt
     have bkc := BK.out.below hb eS
     have hr := Js 3 zv
     have hJ := hr.loc HOA.out.1.words hb.size fun x hx => hb.block x (hr.lt HOA.out.1.words hx)
     rw [HMW.out] at hJ
     have iA := fun x (hx : F x) => hr.lt HOA.out.1.words hx
     have HX := lh (And.intro (show ∀ x, F x -> x ≠ g from fun x hx e => HOA.out.2.1 (by rw [<- e]; exact hx)) (And.intro (show ∀ x, G' x -> x ≠ g from fun x hx e => by have := (o9 x hx).1; omega) (show ∀ x, H' x -> x ≠ g from fun x hx e => by have := bT x hx; omega)))
     have jH : OwB 3 22 65 w5.heap.size wc ⟨A1, n1, c1⟩ S C F G' H' m' := ⟨hJ, hs, cA, HOA.out.1.from1, fun x hx => nt HBX.out.size (o9 x hx).1, fun x hx => nt HBX.out.size (bT x hx), fun x hx e => by have := iA x hx; have := (o9 x e).1; omega, fun x hx e => by have := iA x hx; have := bT x e; omega, fun x hx => (o9 x hx).2⟩
     have HO' := lh jH
     have HBC := lh (HBX.out.trans (hb.mono HBX.out.size))
     have BKC := lh bkc
     obtain ⟨x0, x1, x2, x3, x4, x5⟩ := bk'.c6
     clear jH hJ iA hs cA o9 bT hb bkc bk' hr HTE HPK cK
     go_wp2_with (refine Jr rfl _ (.tmp 17) (.tmp 89) rfl g #[.bool ng, .slice A7 l7 d7, .slice A8 l8 d8, .slice A1 n1 c1, .slice S.A S.n S.c, .slice C.A C.n C.c] _ rfl rfl _ BKC.out (by kernel_rfl) rfl (by simp [Value.oneCell']) ?_; intro w8 dQ jI; have HX8 := lh jI; have HB8 := lh dQ; clear jI dQ x0 x1 x2 x3 x4 x5)
     have mG : (i : Int) + (k : Int) + 1 = ((i + k + 1 : Nat) : Int) := by omega
     have eT : DrI (Jon cols) q l M0 w5.heap.size g (.bool ng) (.slice A7 l7 d7) (.slice A8 l8 d8) w5 (i + k + 1) w8 := ⟨f', nT + 1, m', by omega, by omega, HGO.out.2.1.symm.trans HGO.out.1, HGO.out.2.2.1, by have := HGO.out.2.2.2.2.2; omega, HGO.out.2.2.2.1, HGO.out.2.2.2.2.1, ⟨⟨A1, n1, c1⟩, S, C, F, G', H', HB8.out, HO'.out.exc HX8.out (fun e => HX.out.1 g e rfl) (fun e => HX.out.2.1 g e rfl) (fun e => HX.out.2.2 g e rfl), fun e => HX.out.1 g e rfl, fun e => HX.out.2.1 g e rfl, fun e => HX.out.2.2 g e rfl⟩, HBC.out.trans (HX8.out.below HBC.out.size eJ)⟩
     have HFIN := lh eT
     clear eT
     go_roundw
     case rel => exact ⟨i + k + 1, by go_num, HFIN.out⟩
     case measure => simp [intOf]; omega
  case rest =>
   obtain ⟨⟨iv, rfl⟩, nT, gU, aL, aN, bS, dB, t7⟩ := hcut
   rename World => wc
   obtain ⟨⟨A1, n1, c1⟩, ⟨A2, n2, c2⟩, ⟨A3, n3, c3⟩, F, G, Hh, bk, ho, eL⟩ := dB
   simp only [SW.v] at bk
   have jJ : n1 = k := by have h1 : M0.words.length = n1 := ho.read.words.len; rw [<- h1, aN]; exact HWL.out
   subst jJ
   have aT : M0.seen.length = n2 := ho.read.seen.len
   have gW : 1 <= n2 /\ n2 <= 3 := by have := aL.classes; omega
   obtain ⟨kk, jK⟩ : ∃ kk : Nat, at_ % (n2 : Int) = (kk : Int) := ⟨(at_ % (n2 : Int)).toNat, by have := Int.emod_nonneg at_ (show (n2 : Int) ≠ 0 by omega); omega⟩
   have eU : kk < n2 := by have := Int.emod_lt_of_pos at_ (show (0 : Int) < n2 by omega); omega
   obtain ⟨aq, jL⟩ : ∃ aq, at_.tdiv 3 = aq := ⟨_, rfl⟩
   have eV := (Jph HI.out.2.2.2.2.1).1
   rw [jL] at eV
   have mH := Jfv (x := aq) (by omega) (by omega)
   obtain ⟨cc, jM⟩ : ∃ cc : Nat, aq % (n1 : Int) = (cc : Int) := ⟨(aq % (n1 : Int)).toNat, by have := Int.emod_nonneg aq (show (n1 : Int) ≠ 0 by omega); omega⟩
   have lC : cc < n1 := by have := Int.emod_lt_of_pos aq (show (0 : Int) < n1 by omega); omega
   obtain ⟨tb, lD⟩ : ∃ tb, by_ % 9 = tb := ⟨_, rfl⟩
   have lE : 0 <= tb /\ tb < 9 := by omega
   obtain ⟨wy, jN⟩ : ∃ wy, way % 14 = wy := ⟨_, rfl⟩
   have jO : 0 <= wy /\ wy < 14 := by omega
   have HP3 : Hid (∀ w', Calls Tryz.prog 13 #[.int .i64 at_, .int .i64 (n2 : Int)] w' fun e w'' => e = .returned (.int .i64 (kk : Int)) /\ w' = w'') := lh fun w' => by
    have h1 := HPK.out n2 (by omega) (by omega) at_ w' HI.out.2.2.2.2.1.1 HI.out.2.2.2.2.1.2
    rw [jK] at h1
    exact h1
   have HP4 : Hid (∀ w', Calls Tryz.prog 13 #[.int .i64 aq, .int .i64 (n1 : Int)] w' fun e w'' => e = .returned (.int .i64 (cc : Int)) /\ w' = w'') := lh fun w' => by
    have h1 := HPK.out n1 (by omega) (by omega) aq w' (by omega) (by omega)
    rw [jM] at h1
    exact h1
   have HP5 : Hid (∀ w', Calls Tryz.prog 13 #[.int .i64 by_, .int .i64 9] w' fun e w'' => e = .returned (.int .i64 tb) /\ w' = w'') := lh fun w' => by
    have h1 := HPK.out 9 (by decide) (by decide) by_ w' HI.out.2.2.2.2.2.1 HI.out.2.2.2.2.2.2
    rw [show by_ % ((9 : Nat) : Int) = tb by omega] at h1
    exact h1
   have HP6 : Hid (∀ w', Calls Tryz.prog 13 #[.int .i64 way, .int .i64 14] w' fun e w'' => e = .returned (.int .i64 wy) /\ w' = w'') := lh fun w' => by
    have h1 := HPK.out 14 (by decide) (by decide) way w' HI.out.2.2.2.1.1 HI.out.2.2.2.1.2
    rw [show way % ((14 : Nat) : Int) = wy by omega] at h1
    exact h1
   obtain ⟨bb, gH⟩ : ∃ bb, tb - 2 = bb := ⟨_, rfl⟩
   have lF : -2 <= bb /\ bb <= 6 := by omega
   have mI := Jfv (x := bb) (by omega) (by omega)
   have aS : Hid (Jo6 M0 way at_ by_ = M1 /\ (at_ % (M0.seen.length : Int)).toNat = kk /\ ((at_.tdiv 3) % (M0.words.length : Int)).toNat = cc /\ by_ % 9 - 2 = bb /\ way % 14 = wy) := lh ⟨HM.out.2, by rw [aT]; omega, by rw [aN, HWL.out, jL]; omega, by omega, jN⟩
   have BK := lh bk
   have HO := lh (And.intro ho eL)
   have HDR := lh (And.intro aL (And.intro aN (And.intro bS aT)))
   have HB6 := lh t7
   obtain ⟨x0, x1, x2, x3, x4, x5⟩ := bk.c6
   clear jK jM lD jN aL aN bS aT ho eL t7 bk HPK eV
   go_wp2_with fail
   refine (HP3.out _).mono ?_
   rintro e w1 ⟨rfl, rfl⟩
   go_wp2_with fail
   refine (HP4.out _).mono ?_
   rintro e w1 ⟨rfl, rfl⟩
   go_wp2_with fail
   refine (HP5.out _).mono ?_
   rintro e w1 ⟨rfl, rfl⟩
   go_wp2_with fail
   refine (HP6.out _).mono ?_
   rintro e w1 ⟨rfl, rfl⟩
   go_upto_block 4 with fail
   go_cut [17] (fun v wd => v = .pointer (some ⟨g, 0, none⟩) /\ DrQ g w.heap.size M1 wd /\ Below W.heap.size W wd)
   case first =>
    have dS : Jpi M0 wy kk cc bb = M1 := by rw [<- aS.out.1, Jpo, aS.out.2.1, aS.out.2.2.1, aS.out.2.2.2.1, aS.out.2.2.2.2]
    have HM1 := lh dS
    have jP : Below W.heap.size W wc := HB5.out.trans (HB6.out.mono HB5.out.size)
    have HBV := lh jP
    clear dS jP
    have dH : w.heap.size < w5.heap.size := Nat.lt_of_lt_of_le B0.out.lt HB5.out.size
    have HZQ : Hid (∀ wd, Below w5.heap.size w5 wd -> ∀ w', Exc w.heap.size wd w' -> IsQ w' w'.heap.size (.agg #[.bool ng, .slice A7 l7 d7, .slice A8 l8 d8]) M0.smooth) := lh fun wd hd w' hx => by
     rw [HDR.out.2.2.1]
     exact ((HIQ.out.below hd).more hd.size).excB (B0.out.below (HB5.out.trans (hd.mono HB5.out.size)) B0.out.lt) Jq1 hx
    have HWS := lh (show ∀ x, w5.heap.size <= x -> W.heap.size <= x from fun x hx => nt HB5.out.size hx)
    by_cases jQ : wy = 0
    ·subst jQ
     have e0 := HM1.out
     unfold Jpi at e0
     rw [if_pos rfl] at e0
     have HE := lh e0
     clear e0 aS HM1
     obtain ⟨gS, rfl⟩ := HO.out.1.seen.blk (by rw [HDR.out.2.2.2]; omega)
     obtain ⟨x, hx⟩ : ∃ x, M0.seen[kk]? = some x := ⟨_, List.getElem?_eq_getElem (by rw [HDR.out.2.2.2]; omega)⟩
     have aZ := HO.out.1.seen.cell hx
     unfold zv at aZ
     have iB := HO.out.1.seen.frozen kk
     have eW : w5.heap.size <= gS := HO.out.1.from2 gS ((HO.out.1.seen.2 gS).2 rfl)
     have eX : g ≠ gS := fun e => HO.out.2.2.1 (by rw [e]; exact (HO.out.1.seen.2 gS).2 rfl)
     have k1 : (kk : Int) < (n2 : Int) := by omega
     have HS := lh (And.intro eW eX)
     clear hx eW eX
     go_wp2_with fail
     go_meet
     rw [<- HE.out]
     exact ⟨rfl, DrQ.of (W := ⟨A1, n1, c1⟩) (S := ⟨some ⟨gS, 0, none⟩, n2, c2⟩) (C := ⟨A3, n3, c3⟩) (BK.out.far HS.out.2 _) (HZQ.out _ (HB6.out.setCell HS.out.1 _)) ((HO.out.1.setSeen kk bb).rdx dH), HBV.out.setCell (HWS.out _ HS.out.1) _⟩
    by_cases jR : wy = 6
    ·subst jR
     have e0 := HM1.out
     unfold Jpi at e0
     rw [if_neg (by decide), if_neg (by decide), if_neg (by decide), if_neg (by decide), if_neg (by decide), if_neg (by decide), if_pos rfl] at e0
     have HE := lh e0
     clear e0 aS HM1
     obtain ⟨gS, rfl⟩ := HO.out.1.seen.blk (by rw [HDR.out.2.2.2]; omega)
     obtain ⟨x, hx⟩ : ∃ x, M0.seen[kk]? = some x := ⟨_, List.getElem?_eq_getElem (by rw [HDR.out.2.2.2]; omega)⟩
     have aZ := HO.out.1.seen.cell hx
     unfold zv at aZ
     have iB := HO.out.1.seen.frozen kk
     have eW : w5.heap.size <= gS := HO.out.1.from2 gS ((HO.out.1.seen.2 gS).2 rfl)
     have eX : g ≠ gS := fun e => HO.out.2.2.1 (by rw [e]; exact (HO.out.1.seen.2 gS).2 rfl)
     have k1 : (kk : Int) < (n2 : Int) := by omega
     have HS := lh (And.intro eW eX)
     clear hx eW eX
     go_wp2_with fail
     go_meet
     rw [<- HE.out]
     exact ⟨rfl, DrQ.of (W := ⟨A1, n1, c1⟩) (S := ⟨some ⟨gS, 0, none⟩, n2, c2⟩) (C := ⟨A3, n3, c3⟩) (BK.out.far HS.out.2 _) (HZQ.out _ (HB6.out.setCell HS.out.1 _)) ((HO.out.1.setSeen kk 1073741824).rdx dH), HBV.out.setCell (HWS.out _ HS.out.1) _⟩
    by_cases bD : wy = 1
    ·subst bD
     have e0 := HM1.out
     unfold Jpi at e0
     rw [if_neg (by decide), if_pos rfl] at e0
     have HE := lh e0
     clear e0 aS HM1
     have cN := Qy HDR.out.1.ok
     have dR : kk < M0.counts.length := by rw [cN.tabs, HDR.out.2.2.2]; exact eU
     have iC : M0.counts.length = n3 := ReadsS.len HO.out.1.read.counts
     obtain ⟨gT, rfl⟩ := HO.out.1.counts.addr (by omega)
     obtain ⟨t, ht⟩ : ∃ t, M0.counts[kk]? = some t := ⟨_, List.getElem?_eq_getElem dR⟩
     have aX : M0.words.length = n1 := HO.out.1.read.words.len
     have dU : t.length = n1 := by rw [(cN.fits t (List.mem_of_getElem? ht)).1, aX]
     obtain ⟨b, hb⟩ : ∃ b, t[cc]? = some b := ⟨_, List.getElem?_eq_getElem (by omega)⟩
     have lG := (cN.nums t (List.mem_of_getElem? ht) b (List.mem_of_getElem? hb)).2.2.2.1
     obtain ⟨y, hy⟩ : ∃ y, b[0]? = some y := ⟨_, List.getElem?_eq_getElem (by omega)⟩
     obtain ⟨u, q1, x, q2, d1, d2, d3, d4⟩ := HO.out.1.deep ht hb hy
     obtain ⟨H', r1, r2, r3⟩ := HO.out.1.setCount ht hb d1 d2 0 bb
     unfold zv at d3
     rw [dU] at d1
     have jS := HO.out.1.from3 x r3
     have eY : g ≠ x := fun e => HO.out.2.2.2 (by rw [e]; exact r3)
     have k1 : (kk : Int) < (n3 : Int) := by omega
     have k2 : (cc : Int) < (n1 : Int) := by omega
     have k3 : (0 : Int) < (b.length : Int) := by omega
     have e9 : ({ M0 with counts := M0.counts.set kk (t.set cc (b.set 0 bb)) } : BM) = M1 := by rw [<- HE.out, List.getD_eq_getElem?_getD, ht, Option.getD_some, List.getD_eq_getElem?_getD, hb, Option.getD_some]
     have HS := lh (And.intro jS (And.intro eY (And.intro r1 e9)))
     clear jS eY r1 r2 r3 e9 cN ht hb hy iC aX dU lG dR
     go_wp2_with fail
     go_meet
     rw [<- HS.out.2.2.2]
     exact ⟨rfl, DrQ.of (W := ⟨A1, n1, c1⟩) (S := ⟨A2, n2, c2⟩) (C := ⟨some ⟨gT, 0, none⟩, n3, c3⟩) (BK.out.far HS.out.2.1 _) (HZQ.out _ (HB6.out.setCell HS.out.1 _)) (HS.out.2.2.1.rdx dH), HBV.out.setCell (HWS.out _ HS.out.1) _⟩
    by_cases cO : wy = 5
    ·subst cO
     have e0 := HM1.out
     unfold Jpi at e0
     rw [if_neg (by decide), if_neg (by decide), if_neg (by decide), if_neg (by decide), if_neg (by decide), if_pos rfl] at e0
     have HE := lh e0
     clear e0 aS HM1
     have lH := HDR.out.2.2.2
     have jT : n2 <= c2 := by
      obtain ⟨A0, c0, e, h1, -⟩ := Own.form HO.out.1.seen.1
      injection (show Value.slice A2 n2 c2 = _ from e) with e1 e2 e3
      omega
     obtain ⟨Ad, dI⟩ : ∃ Ad, Jg4 A2 c2 1 1 = Ad := ⟨_, rfl⟩
     have hcut : ∀ w' : World, (Instr.slice 22 (.slice A2 n2 c2) (some (.int .i64 1)) none none).run Tryz.prog w' = .ok (.slice Ad (n2 - 1) (c2 - 1)) w' := fun w' => by
      have := Ji0 (P := Tryz.prog) (Tryz.eltZ1).under (Tryz.eltZ1).info A2 n2 c2 .i64 1 (by omega) (by omega) w'
      rw [show (1 : Int).toNat = 1 from rfl, dI] at this
      exact this
     have iB := BK.out.frozen 4
     have aC := (Exc.refl g wc).set_ 4 (.slice Ad (n2 - 1) (c2 - 1))
     have jU : W.heap.size <= g := nt HB5.out.size eJ
     have HS := lh (And.intro jT (And.intro dI (And.intro aC jU)))
     clear lH jT dI aC jU
     go_wp2_with fail
     go_meet
     rw [<- HE.out]
     have fS := HO.out.1.exc HS.out.2.2.1 HO.out.2.1 HO.out.2.2.1 HO.out.2.2.2
     have bk2 : Blk (wc.setCell ⟨g, 4, none⟩ (.slice Ad (n2 - 1) (c2 - 1))) g 31 #[.bool ng, .slice A7 l7 d7, .slice A8 l8 d8, .slice A1 n1 c1, .slice Ad (n2 - 1) (c2 - 1), .slice A3 n3 c3] := by simpa using BK.out.set_ 4 (.slice Ad (n2 - 1) (c2 - 1))
     have eG := RdX.seen1 (fS.rdx dH) gW.1 HS.out.1
     rw [HS.out.2.1] at eG
     exact ⟨rfl, DrQ.of (W := ⟨A1, n1, c1⟩) (S := ⟨Ad, n2 - 1, c2 - 1⟩) (C := ⟨A3, n3, c3⟩) bk2 (HZQ.out _ (HB6.out.setCell eJ _)) eG, HBV.out.setCell HS.out.2.2.2 _⟩
    by_cases bE : wy = 2
    ·subst bE
     have e0 := HM1.out
     unfold Jpi at e0
     rw [if_neg (by decide), if_neg (by decide), if_pos rfl] at e0
     have HE := lh e0
     clear e0 aS HM1
     have dA := fun w' => Jus bb w' (by omega) (by omega)
     have HOF := lh dA
     clear dA
     go_wp2_with fail
     refine (HOF.out _).mono ?_
     rintro e w9 ⟨v, rfl, dJ, bP⟩
     obtain ⟨ng9, B7, m7, f7, B8, m8, f8, rfl⟩ := dJ.shape
     have bk9 := BK.out.below bP BK.out.lt
     clear x0 x1 x2 x3 x4 x5
     obtain ⟨x0, x1, x2, x3, x4, x5⟩ := bk9.c6
     have z0 := bk9.frozen 0
     have z1 := bk9.frozen 1
     have z2 := bk9.frozen 2
     have H9 := lh (And.intro bk9 (And.intro dJ bP))
     clear bk9 dJ bP HOF
     go_wp2_with fail
     go_meet
     rw [<- HE.out]
     have aC : Exc g w9 (((w9.setCell ⟨g, 0, none⟩ (.bool ng9)).setCell ⟨g, 1, none⟩ (.slice B7 m7 f7)).setCell ⟨g, 2, none⟩ (.slice B8 m8 f8)) := (((Exc.refl g w9).set_ 0 _).set_ 1 _).set_ 2 _
     have bk2 : Blk (((w9.setCell ⟨g, 0, none⟩ (.bool ng9)).setCell ⟨g, 1, none⟩ (.slice B7 m7 f7)).setCell ⟨g, 2, none⟩ (.slice B8 m8 f8)) g 31 #[.bool ng9, .slice B7 m7 f7, .slice B8 m8 f8, .slice A1 n1 c1, .slice A2 n2 c2, .slice A3 n3 c3] := by simpa using ((H9.out.1.set_ 0 (.bool ng9)).set_ 1 (.slice B7 m7 f7)).set_ 2 (.slice B8 m8 f8)
     have bG := (HBV.out.trans (H9.out.2.2.mono HBV.out.size)).trans (aC.below (HBV.out.trans (H9.out.2.2.mono HBV.out.size)).size (nt HB5.out.size eJ))
     have dK := ((HO.out.1.next H9.out.2.2).exc aC HO.out.2.1 HO.out.2.2.1 HO.out.2.2.2).rdx dH
     exact ⟨rfl, DrQ.of (W := ⟨A1, n1, c1⟩) (S := ⟨A2, n2, c2⟩) (C := ⟨A3, n3, c3⟩) bk2 (fun w' hx => (H9.out.2.1.excB H9.out.1 Jq1 aC).excB (B0.out.below bG B0.out.lt) Jq1 hx) (fun w' hx => ⟨(dK w' hx).words, (dK w' hx).seen, (dK w' hx).counts⟩), bG⟩
    by_cases cP : wy = 3
    ·subst cP
     have e0 := HM1.out
     unfold Jpi at e0
     rw [if_neg (by decide), if_neg (by decide), if_neg (by decide), if_pos rfl] at e0
     have HE := lh e0
     clear e0 aS HM1
     have aX : M0.words.length = n1 := HO.out.1.read.words.len
     have HRC := lh (Reads.alloc HO.out.1.read.words zd (.cells #[] 3))
     have HE0 := lh (Jpb wc)
     have HWN := lh aX
     have bkA := BK.out.alloc (.cells #[] 3)
     clear x0 x1 x2 x3 x4 x5
     obtain ⟨x0, x1, x2, x3, x4, x5⟩ := bkA.c6
     clear bkA aX
     go_upto_region 25 with (at_builtin; refine Jnx Tryz.eltZ1 rfl (.tmp 131) (.tmp 133) rfl (wc.alloc (.cells #[] 3)) _ [] wc.heap.size A1 n1 c1 M0.words rfl HE0.out rfl HRC.out (fun _ => rfl) (by unfold maxLen; simp; omega) (by simp; omega) ?_; intro v' w9 bU o9; obtain ⟨A6, c6, rfl, iD, aR, bP⟩ := Jpf bU o9; rw [HWN.out] at iD aR ⊢; have bk9 := BK.out.below bP BK.out.lt; have lI := bk9.frozen 3; have lJ := bk9.cell 3; have H9 := lh (And.intro bk9 (And.intro iD (And.intro aR bP))); clear bU o9 iD aR bP bk9 x0 x1 x2 x3 x4 x5)
     obtain ⟨g9, rfl⟩ := Own.addr H9.out.2.1 (by rw [HWN.out]; omega)
     have fT : wc.heap.size <= g9 := H9.out.2.2.1 g9 rfl
     have bF : g ≠ g9 := by have := BK.out.lt; omega
     have aC := (Exc.refl g w9).set_ 3 (.slice (some ⟨g9, 0, none⟩) n1 c6)
     have cB := (HO.out.1.newWords (W' := ⟨some ⟨g9, 0, none⟩, n1, c6⟩) H9.out.2.2.2 HB6.out.size H9.out.2.1 H9.out.2.2.1).exc aC (fun e => bF (Option.some.inj e).symm) HO.out.2.2.1 HO.out.2.2.2
     have bk10 : Blk (w9.setCell ⟨g, 3, none⟩ (.slice (some ⟨g9, 0, none⟩) n1 c6)) g 31 #[.bool ng, .slice A7 l7 d7, .slice A8 l8 d8, .slice (some ⟨g9, 0, none⟩) n1 c6, .slice A2 n2 c2, .slice A3 n3 c3] := by simpa using H9.out.1.set_ 3 (.slice (some ⟨g9, 0, none⟩) n1 c6)
     have eZ := (HB6.out.trans (H9.out.2.2.2.mono HB6.out.size)).trans (aC.below (HB6.out.trans (H9.out.2.2.2.mono HB6.out.size)).size eJ)
     have bY : w5.heap.size <= g9 := nt HB6.out.size fT
     clear lI lJ aC H9
     generalize w9.setCell ⟨g, 3, none⟩ (.slice (some ⟨g9, 0, none⟩) n1 c6) = w10 at *
     obtain ⟨x, hx⟩ : ∃ x, M0.words[cc]? = some x := ⟨_, List.getElem?_eq_getElem (by rw [HWN.out]; omega)⟩
     have aZ := cB.words.cell hx
     unfold zv at aZ
     have iB := cB.words.frozen cc
     obtain ⟨x0, x1, x2, x3, x4, x5⟩ := bk10.c6
     have k1 : (cc : Int) < (n1 : Int) := by omega
     have H10 := lh (And.intro bk10 (And.intro cB (And.intro eZ (And.intro bF bY))))
     clear bk10 cB eZ bF bY fT hx HRC HE0
     go_wp2_with fail
     go_meet
     rw [<- HE.out]
     have bG := (HB5.out.trans (H10.out.2.2.1.mono HB5.out.size))
     exact ⟨rfl, DrQ.of (W := ⟨some ⟨g9, 0, none⟩, n1, c6⟩) (S := ⟨A2, n2, c2⟩) (C := ⟨A3, n3, c3⟩) (H10.out.1.far H10.out.2.2.2.1 _) (HZQ.out _ (H10.out.2.2.1.setCell H10.out.2.2.2.2 _)) ((H10.out.2.1.setWordsD cc bb).rdx dH), bG.setCell (HWS.out _ H10.out.2.2.2.2) _⟩
    by_cases cQ : wy = 4
    ·subst cQ
     have e0 := HM1.out
     unfold Jpi at e0
     rw [if_neg (by decide), if_neg (by decide), if_neg (by decide), if_neg (by decide), if_pos rfl] at e0
     have HE := lh e0
     clear e0 aS HM1
     have cN := Qy HDR.out.1.ok
     have dR : kk < M0.counts.length := by rw [cN.tabs, HDR.out.2.2.2]; exact eU
     have iC : M0.counts.length = n3 := ReadsS.len HO.out.1.read.counts
     obtain ⟨gT, rfl⟩ := HO.out.1.counts.addr (by omega)
     obtain ⟨t, ht⟩ : ∃ t, M0.counts[kk]? = some t := ⟨_, List.getElem?_eq_getElem dR⟩
     have aX : M0.words.length = n1 := HO.out.1.read.words.len
     have dU : 1 <= t.length := by rw [(cN.fits t (List.mem_of_getElem? ht)).1, aX]; omega
     obtain ⟨At, ct, d1, d2, d3, d4, d5, d6⟩ := (HO.out.1.next (Jt wc)).rdxTab dH ht dU
     obtain ⟨Ad, dI⟩ : ∃ Ad, Jg4 At ct 1 1 = Ad := ⟨_, rfl⟩
     rw [dI] at d6
     have hcut : ∀ w' : World, (Instr.slice 65 (.slice At t.length ct) (some (.int .i64 1)) none none).run Tryz.prog w' = .ok (.slice Ad (t.length - 1) (ct - 1)) w' := fun w' => by
      have := Ji0 (P := Tryz.prog) (Tryz.eltZ2).under (Tryz.eltZ2).info At t.length ct .i64 1 (by omega) (by omega) w'
      rw [show (1 : Int).toNat = 1 from rfl, dI] at this
      exact this
     have k1 : (kk : Int) < (n3 : Int) := by omega
     have eY : g ≠ gT := fun e => HO.out.2.2.2 (by rw [e]; exact d5)
     have e9 : ({ M0 with counts := M0.counts.set kk (t.drop 1) } : BM) = M1 := by rw [<- HE.out, List.getD_eq_getElem?_getD, ht, Option.getD_some]
     have HS := lh (And.intro d4 (And.intro eY (And.intro d6 e9)))
     clear d4 d5 d6 d2 eY e9 cN ht iC aX dR dI
     go_wp2_with fail
     refine Jo4 10 (fun i => ([.pointer (some ⟨g, 5, none⟩), .slice (some ⟨gT, 0, none⟩) n3 c3, .int .i64 (kk : Int), .pointer (some ⟨g, 5, none⟩), .slice (some ⟨gT, 0, none⟩) n3 c3, .int .i64 (kk : Int), .pointer (some ⟨gT, kk, none⟩), .slice At t.length ct, .slice Ad (t.length - 1) (ct - 1), .pointer (some ⟨gT, kk, none⟩)] : List Value).getD i undef) (wc.drew.setCell ⟨gT, kk, none⟩ (.slice Ad (t.length - 1) (ct - 1))) (by kernel_rfl) (by kernel_rfl) (by kernel_rfl) (by kernel_rfl) ?_ ?_ [some 143, some 144, some 145, some 146, some 147, some 148, some 149, some 150, some 151, some 152, none] rfl ?_
     ·refine ⟨⟨⟨⟨⟨⟨⟨⟨⟨⟨trivial, ?_⟩, ?_⟩, ?_⟩, ?_⟩, ?_⟩, ?_⟩, ?_⟩, ?_⟩, ?_⟩, ?_⟩ <;> intro d a' hS hp
      ·have e1 : a'.tmps[17]?.getD undef = .pointer (some ⟨g, 0, none⟩) := hS.arg 17
       refine ⟨_, rfl, .inl ⟨rfl, (show _ = Result.ok (Next.value (.pointer (some ⟨g, 5, none⟩))) _ from ?_)⟩⟩
       clear hS hp
       go_simp
      ·have e1 : a'.tmps[143]?.getD undef = .pointer (some ⟨g, 5, none⟩) := hS.res 0 143 (hp 0)
       refine ⟨_, rfl, .inl ⟨rfl, (show _ = Result.ok (Next.value (.slice (some ⟨gT, 0, none⟩) n3 c3)) _ from ?_)⟩⟩
       clear hS hp
       go_simp
      ·have e1 : a'.tmps[21]?.getD undef = .int .i64 (kk : Int) := hS.arg 21
       refine ⟨_, rfl, .inl ⟨rfl, (show _ = Result.ok (Next.value (.int .i64 (kk : Int))) _ from ?_)⟩⟩
       clear hS hp
       go_simp
      ·have e1 : a'.tmps[17]?.getD undef = .pointer (some ⟨g, 0, none⟩) := hS.arg 17
       refine ⟨_, rfl, .inl ⟨rfl, (show _ = Result.ok (Next.value (.pointer (some ⟨g, 5, none⟩))) _ from ?_)⟩⟩
       clear hS hp
       go_simp
      ·have e1 : a'.tmps[146]?.getD undef = .pointer (some ⟨g, 5, none⟩) := hS.res 3 146 (hp 3)
       refine ⟨_, rfl, .inl ⟨rfl, (show _ = Result.ok (Next.value (.slice (some ⟨gT, 0, none⟩) n3 c3)) _ from ?_)⟩⟩
       clear hS hp
       go_simp
      ·have e1 : a'.tmps[21]?.getD undef = .int .i64 (kk : Int) := hS.arg 21
       refine ⟨_, rfl, .inl ⟨rfl, (show _ = Result.ok (Next.value (.int .i64 (kk : Int))) _ from ?_)⟩⟩
       clear hS hp
       go_simp
      ·have e1 : a'.tmps[147]?.getD undef = .slice (some ⟨gT, 0, none⟩) n3 c3 := hS.res 4 147 (hp 4)
       have e2 : a'.tmps[148]?.getD undef = .int .i64 (kk : Int) := hS.res 5 148 (hp 5)
       refine ⟨_, rfl, .inl ⟨rfl, (show _ = Result.ok (Next.value (.pointer (some ⟨gT, kk, none⟩))) _ from ?_)⟩⟩
       clear hS hp
       go_simp
      ·have e1 : a'.tmps[149]?.getD undef = .pointer (some ⟨gT, kk, none⟩) := hS.res 6 149 (hp 6)
       refine ⟨_, rfl, .inl ⟨rfl, (show _ = Result.ok (Next.value (.slice At t.length ct)) _ from ?_)⟩⟩
       clear hS hp
       go_simp
      ·have e1 : a'.tmps[150]?.getD undef = .slice At t.length ct := hS.res 7 150 (hp 7)
       refine ⟨_, rfl, .inl ⟨rfl, (show _ = Result.ok (Next.value (.slice Ad (t.length - 1) (ct - 1))) _ from ?_)⟩⟩
       clear hS hp
       go_simp
      ·have e1 : a'.tmps[144]?.getD undef = .slice (some ⟨gT, 0, none⟩) n3 c3 := hS.res 1 144 (hp 1)
       have e2 : a'.tmps[145]?.getD undef = .int .i64 (kk : Int) := hS.res 2 145 (hp 2)
       refine ⟨_, rfl, .inl ⟨rfl, (show _ = Result.ok (Next.value (.pointer (some ⟨gT, kk, none⟩))) _ from ?_)⟩⟩
       clear hS hp
       go_simp
     ·intro d a' hS hd
      have e1 : a'.tmps[152]?.getD undef = .pointer (some ⟨gT, kk, none⟩) := hS.res 9 152 (hd 9 (by decide)) rfl (by kernel_rfl)
      have e2 : a'.tmps[151]?.getD undef = .slice Ad (t.length - 1) (ct - 1) := hS.res 8 151 (hd 8 (by decide)) rfl (by kernel_rfl)
      refine ⟨_, rfl, rfl, .inl ⟨?_, rfl⟩⟩
      clear hS hd
      go_simp
     simp only [Exit.inBlock, Exit.then, Jd7, Act.put, List.setIfInBounds_toArray, List.set_cons_succ, List.set_cons_zero]
     refine ‹∀ (a' : Act) (w' : World), _ -> _› _ _ ?_
     go_wp2_with fail
     go_meet
     rw [<- HS.out.2.2.2]
     exact ⟨rfl, DrQ.of (W := ⟨A1, n1, c1⟩) (S := ⟨A2, n2, c2⟩) (C := ⟨some ⟨gT, 0, none⟩, n3, c3⟩) (BK.out.drew.far HS.out.2.1 _) (HZQ.out _ ((HB6.out.trans ((Jt wc).mono HB6.out.size)).setCell HS.out.1 _)) HS.out.2.2.1, (HBV.out.trans ((Jt wc).mono HBV.out.size)).setCell (HWS.out _ HS.out.1) _⟩
    have bH : ¬ (wy = 0 \/ wy = 1 \/ wy = 2 \/ wy = 3 \/ wy = 4 \/ wy = 5 \/ wy = 6) := by omega
    have lK : 7 <= wy := by omega
    clear jQ bD bE cP cQ cO jR
    have e0 := HM1.out
    rw [Jo2 bH] at e0
    have HE := lh e0
    have p0 : (wy == 0) = false := by simp; omega
    have p1 : (wy == 1) = false := by simp; omega
    have p2 : (wy == 2) = false := by simp; omega
    have p3 : (wy == 3) = false := by simp; omega
    have p4 : (wy == 4) = false := by simp; omega
    have p5 : (wy == 5) = false := by simp; omega
    have p6 : (wy == 6) = false := by simp; omega
    have r0 : ¬ wy = 0 := by omega
    have r1 : ¬ wy = 1 := by omega
    have r2 : ¬ wy = 2 := by omega
    have r3 : ¬ wy = 3 := by omega
    have r4 : ¬ wy = 4 := by omega
    have r5 : ¬ wy = 5 := by omega
    have r6 : ¬ wy = 6 := by omega
    clear e0 bH aS HM1
    go_wp2_with fail
    go_meet
    rw [<- HE.out]
    have b0c := B0.out.below HBV.out B0.out.lt
    exact ⟨rfl, ⟨ng, A7, A8, l7, d7, l8, d8, ⟨A1, n1, c1⟩, ⟨A2, n2, c2⟩, ⟨A3, n3, c3⟩, BK.out, fun w' hx => ⟨by rw [HDR.out.2.2.1]; exact ((HIQ.out.below HB6.out).more HB6.out.size).excB b0c Jq1 hx, (HO.out.1.exc hx (fun e => by have := HO.out.1.from1 _ e; omega) (fun e => by have := HO.out.1.from2 _ e; omega) (fun e => by have := HO.out.1.from3 _ e; omega)).read⟩⟩, HBV.out⟩
   case rest =>
    obtain ⟨rfl, ⟨ng', A7', A8', l7', d7', l8', d8', W', S', C', bk, hq⟩, bG⟩ := hcut
    rename World => wd
    obtain ⟨y0, y1, y2, y3, y4, y5⟩ := bk.c6
    have BR := lh (B0.out.below bG B0.out.lt)
    have HQ := lh hq
    have HBD := lh (HBW.out.trans (bG.mono HBW.out.size))
    clear bk hq bG HP3 HP4 HP5 HP6 x0 x1 x2 x3 x4 x5 HDR HO BK HB6 HRW HIQ HB5 aS HI HL H HWL HN HM
    simp only [SW.v] at y3 y4 y5
    generalize hgR : w.heap.size = gR at BR HQ ⊢
    go_wp2_with (refine Jr rfl _ (.tmp 14) (.tmp 165) rfl gR #[.bool ng', .slice A7' l7' d7', .slice A8' l8' d8', .slice W'.A W'.n W'.c, .slice S'.A S'.n S'.c, .slice C'.A C'.n C'.c] _ rfl rfl _ BR.out (by kernel_rfl) rfl (by simp [Value.oneCell']) ?_; intro w7 j0 j8; have HX7 := lh j8; have HB7 := lh j0; clear j8 j0 y0 y1 y2 y3 y4 y5)
    obtain ⟨p0, p1, p2, p3, p4, p5⟩ := HB7.out.c6
    refine bodyPost_ret (v := .agg #[.bool ng', .slice A7' l7' d7', .slice A8' l8' d8', .slice W'.A W'.n W'.c, .slice S'.A S'.n S'.c, .slice C'.A C'.n C'.c]) (by simp [results, Tryz.results12, go_sem, p0, p1, p2, p3, p4, p5]) rfl ?_
    exact ⟨_, rfl, ⟨ng', A7', A8', l7', d7', l8', d8', W', S', C', rfl, (HQ.out w7 HX7.out).1, (HQ.out w7 HX7.out).2⟩, HBD.out.trans (HX7.out.below HBD.out.size (Nat.le_of_eq hgR))⟩
theorem Jrt (a : Rat) : Jc2 a a = 0 := by
 unfold Jc2
 rw [if_neg Rat.lt_irrefl, if_neg Rat.lt_irrefl]
def FixR (W : World) (FX : Nat -> Option Value) (d : Nat -> Bool) (val : Nat -> Value) (w : World) : Prop := Below W.heap.size W w /\ Fixed FX d val
theorem FixR.one {W w : World} {FX : Nat -> Option Value} {d : Nat -> Bool} {val : Nat -> Value} {i : Nat} {x : Value} (h : FixR W FX d val w) (hx : FX i = some x) : FixR W FX (upI d i) (Jf3 val i x) w := ⟨h.1, h.2.step (.inr hx)⟩
theorem FixR.call {W w w' : World} {FX : Nat -> Option Value} {d : Nat -> Bool} {val : Nat -> Value} {i : Nat} {x : Value} (h : FixR W FX d val w) (hb : Below w.heap.size w w') (hx : FX i = some x) : FixR W FX (upI d i) (Jf3 val i x) w' := ⟨h.1.trans (hb.mono h.1.size), h.2.step (.inr hx)⟩
theorem Jrr (ng : Bool) (A7 A8 : Option Addr) (l7 d7 l8 d8 : Nat) (A1 A2 A3 : Option Addr) (n1 c1 n2 c2 n3 c3 : Nat) (ng' : Bool) (Y7 Y8 : Option Addr) (l7' d7' l8' d8' : Nat) (Y1 Y2 Y3 : Option Addr) (c1' c2' c3' B : Nat) (m : BM) (w : World) (h : RdB w B ⟨A1, n1, c1⟩ ⟨A2, n2, c2⟩ ⟨A3, n3, c3⟩ m) (hq : IsQ w B (.agg #[.bool ng, .slice A7 l7 d7, .slice A8 l8 d8]) m.smooth)
  (h' : RdB w B ⟨Y1, n1, c1'⟩ ⟨Y2, n2, c2'⟩ ⟨Y3, n3, c3'⟩ m) (dW : IsQ w B (.agg #[.bool ng', .slice Y7 l7' d7', .slice Y8 l8' d8']) m.smooth) (hB : B <= w.heap.size) (hL : LenB m) (hs : QS 68719476736 m.smooth) :
  Calls Tryz.prog 59 #[.agg #[.bool ng, .slice A7 l7 d7, .slice A8 l8 d8, .slice A1 n1 c1, .slice A2 n2 c2, .slice A3 n3 c3], .agg #[.bool ng', .slice Y7 l7' d7', .slice Y8 l8' d8', .slice Y1 n1 c1', .slice Y2 n2 c2', .slice Y3 n3 c3']] w (Ret (.bool true) w) := by
 have bD : m.words.length = n1 := h.words.len
 have bE : m.seen.length = n2 := h.seen.len
 have cP : m.counts.length = n3 := ReadsS.len h.counts
 have hn : n1 <= 1000 /\ n2 <= 1000 /\ n3 <= 1000 := by have := hL.words; have := hL.seen; have := hL.counts; omega
 obtain ⟨b0, b1, hB, hZ⟩ := bx2 w 31 #[.bool ng, .slice A7 l7 d7, .slice A8 l8 d8, .slice A1 n1 c1, .slice A2 n2 c2, .slice A3 n3 c3] 31 #[.bool ng', .slice Y7 l7' d7', .slice Y8 l8' d8', .slice Y1 n1 c1', .slice Y2 n2 c2', .slice Y3 n3 c3']
 go_enter Tryz.func59, Tryz.ntmps59
 go_upto_region 1 with fail
 generalize ((w.alloc (.cells #[.bool ng, .slice A7 l7 d7, .slice A8 l8 d8, .slice A1 n1 c1, .slice A2 n2 c2, .slice A3 n3 c3] 31)).alloc (.cells #[.bool ng', .slice Y7 l7' d7', .slice Y8 l8' d8', .slice Y1 n1 c1', .slice Y2 n2 c2', .slice Y3 n3 c3'] 31)) = W at *
 rename B <= w.heap.size => hBB
 have HCM : Hid (∀ w', Below w.heap.size w w' -> Calls Tryz.prog 76 #[.agg #[.bool ng, .slice A7 l7 d7, .slice A8 l8 d8], .agg #[.bool ng', .slice Y7 l7' d7', .slice Y8 l8' d8']] w' (Ret (.int .i64 0) w')) := lh fun w' hb => by
  have h1 := Jrx m.smooth m.smooth B _ _ w' (hq.below (hb.mono hBB)) (dW.below (hb.mono hBB)) (nt hBB hb.size) hs hs
  rw [Jrt] at h1
  exact h1
 have HSW : Hid (∀ w', Below w.heap.size w w' -> Calls Tryz.prog 106 #[.slice A1 n1 c1, .slice Y1 n1 c1'] w' (Ret (.bool true) w')) := lh fun w' hb => (Jq8 A1 Y1 n1 c1 c1' m.words B B w' (rkindI.below h.words (hb.mono hBB)) (rkindI.below h'.words (hb.mono hBB)) (by omega)).mono fun e w'' h => ⟨h.1, by obtain ⟨k, hk⟩ := h.2; rw [hk]; exact Jw (Below.refl _ _) k⟩
 have HSS : Hid (∀ w', Below w.heap.size w w' -> Calls Tryz.prog 106 #[.slice A2 n2 c2, .slice Y2 n2 c2'] w' (Ret (.bool true) w')) := lh fun w' hb => (Jq8 A2 Y2 n2 c2 c2' m.seen B B w' (rkindI.below h.seen (hb.mono hBB)) (rkindI.below h'.seen (hb.mono hBB)) (by omega)).mono fun e w'' h => ⟨h.1, by obtain ⟨k, hk⟩ := h.2; rw [hk]; exact Jw (Below.refl _ _) k⟩
 have H := lh h.counts
 have H' := lh h'.counts
 have HW := lh cP
 have HL := lh hL
 have HBW := lh hB
 have HBB := lh hBB
 have B0 := lh b0
 have B1 := lh b1
 have aP := b0.lt
 have bI := b1.lt
 have aO := hB.size
 have q0 : ((0 : Int) != 0) = false := by simp
 have q1 : ((n3 : Int) != (n3 : Int)) = false := by simp
 have q2 : ((n3 : Int) == (n3 : Int)) = true := by simp
 obtain ⟨x0, x1, x2, x3, x4, x5⟩ := b0.c6
 obtain ⟨y0, y1, y2, y3, y4, y5⟩ := b1.c6
 clear h h' hq dW hL hs bD bE cP hB hZ hBB b0 b1
 go_wp2_with fail
 refine (HCM.out _ HBW.out).mono ?_
 rintro e w1 ⟨rfl, j6⟩
 have HB1 := lh (HBW.out.trans (j6.mono HBW.out.size))
 have B0' := B0.out.below j6 aP
 have B1' := B1.out.below j6 bI
 have HS1 := lh j6
 clear j6 x0 x1 x2 x3 x4 x5 y0 y1 y2 y3 y4 y5
 obtain ⟨x0, x1, x2, x3, x4, x5⟩ := B0'.c6
 obtain ⟨y0, y1, y2, y3, y4, y5⟩ := B1'.c6
 go_wp2_with fail
 refine (HSW.out _ HB1.out).mono ?_
 rintro e w2 ⟨rfl, j9⟩
 have bJ := HS1.out.trans (j9.mono HS1.out.size)
 have B0'' := B0.out.below bJ aP
 have B1'' := B1.out.below bJ bI
 have HS2 := lh bJ
 have HB2 := lh (HBW.out.trans (bJ.mono HBW.out.size))
 clear j9 bJ x0 x1 x2 x3 x4 x5 y0 y1 y2 y3 y4 y5 B0' B1' HS1 HB1
 obtain ⟨x0, x1, x2, x3, x4, x5⟩ := B0''.c6
 obtain ⟨y0, y1, y2, y3, y4, y5⟩ := B1''.c6
 go_wp2_with fail
 refine (HSS.out _ HB2.out).mono ?_
 rintro e w3 ⟨rfl, aI⟩
 have cD := HS2.out.trans (aI.mono HS2.out.size)
 have B03 := B0.out.below cD aP
 have B13 := B1.out.below cD bI
 have HS3 := lh cD
 clear aI cD x0 x1 x2 x3 x4 x5 y0 y1 y2 y3 y4 y5 B0'' B1'' HS2 HB2
 obtain ⟨x0, x1, x2, x3, x4, x5⟩ := B03.c6
 obtain ⟨y0, y1, y2, y3, y4, y5⟩ := B13.c6
 clear B03 B13
 go_wp2_with fail
 clear x0 x1 x2 x3 x4 x5 y0 y1 y2 y3 y4 y5
 go_loopw [5] (fun p wr => ∃ k : Nat, k <= n3 /\ p = .int .i64 (k : Int) /\ Below W.heap.size W wr) (fun p _ => n3 - (intOf p).toNat)
 case atStart => exact ⟨0, by omega, rfl, HS3.out⟩
 case round =>
  obtain ⟨k, hk, rfl, bV⟩ := hrel
  rename World => wr
  have HBR := lh bV
  have b0 := B0.out.below bV aP
  have b1 := B1.out.below bV bI
  have j7 := HBW.out.trans (bV.mono HBW.out.size)
  obtain ⟨x0, x1, x2, x3, x4, x5⟩ := b0.c6
  obtain ⟨y0, y1, y2, y3, y4, y5⟩ := b1.c6
  by_cases dT : k < n3
  ·as_aux_lemma =>
   have k1 : (k : Int) < (n3 : Int) := by omega
   obtain ⟨t, ht⟩ : ∃ t, m.counts[k]? = some t := ⟨_, List.getElem?_eq_getElem (by have := HW.out; omega)⟩
   obtain ⟨ad, A4, n4, c4, rfl, aM, hc, hr⟩ := H.out.at_ ht
   obtain ⟨ad', Y4, n4', c4', rfl, dL, eD, cT⟩ := H'.out.at_ ht
   have iE : t.length = n4 := ReadsS.len hr
   obtain rfl : n4' = n4 := by rw [<- iE]; exact (ReadsS.len cT).symm
   have jV : n4' <= 1000 := by have := (HL.out.rows t (List.mem_of_getElem? ht)).1; omega
   have jW := (HL.out.rows t (List.mem_of_getElem? ht)).2
   have dC := Qg (j7.mono HBB.out) hc aM
   have aY := Qg (j7.mono HBB.out) eD dL
   have q3 : ((n4' : Int) != (n4' : Int)) = false := by simp
   have q4 : ((n4' : Int) == (n4' : Int)) = true := by simp
   have HR := lh (And.intro hr (And.intro cT (And.intro iE jW)))
   have HCC := lh (And.intro dC aY)
   have lL := j7.size
   have HK1 := lh (fun w' (hb : Below w.heap.size w w') => Qg (hb.mono HBB.out) hc aM)
   have HK2 := lh (fun w' (hb : Below w.heap.size w w') => Qg (hb.mono HBB.out) eD dL)
   have HB9 := lh j7
   clear hc eD hr cT iE jW ht b0 b1 bV aM dL
   go_upto_region 6 with fail
   go_cut [57] (fun v wc => v = .bool false /\ Below wr.heap.size wr wc)
   case first =>
    go_quiet (fail)
    go_wp2_with fail
    go_meet
    exact ⟨rfl, Jw (Below.refl _ _) _⟩
   case rest =>
    obtain ⟨rfl, aB⟩ := hcut
    rename World => wc
    clear x0 x1 x2 x3 x4 x5 y0 y1 y2 y3 y4 y5
    have HBC := lh (HBR.out.trans (aB.mono HBR.out.size))
    clear aB
    go_wp2_with fail
    go_loopw [6] (fun p w2 => ∃ c : Nat, c <= n4' /\ p = .int .i64 (c : Int) /\ Below W.heap.size W w2) (fun p _ => n4' - (intOf p).toNat)
    case atStart => exact ⟨0, by omega, rfl, HBC.out⟩
    case round =>
     obtain ⟨c, hc, rfl, j9⟩ := hrel
     rename World => w2
     have HB2 := lh j9
     have aA := HBW.out.trans (j9.mono HBW.out.size)
     have b0 := B0.out.below j9 aP
     have b1 := B1.out.below j9 bI
     obtain ⟨x0, x1, x2, x3, x4, x5⟩ := b0.c6
     obtain ⟨y0, y1, y2, y3, y4, y5⟩ := b1.c6
     have dC := HK1.out w2 aA
     have aY := HK2.out w2 aA
     by_cases gY : c < n4'
     ·as_aux_lemma =>
      have k2 : (c : Int) < (n4' : Int) := by omega
      obtain ⟨s9, cE⟩ : ∃ s9, t[c]? = some s9 := ⟨_, List.getElem?_eq_getElem (by have := HR.out.2.2.1; omega)⟩
      obtain ⟨ad5, A5, n5, c5, rfl, fA, iF, iG⟩ := HR.out.1.at_ cE
      obtain ⟨ad6, A6, n6, c6, rfl, fB, iH, iI⟩ := HR.out.2.1.at_ cE
      have jX : s9.length = n5 := ReadsI.len iG
      obtain rfl : n6 = n5 := by rw [<- jX]; exact (ReadsI.len iI).symm
      have jY : n6 <= 1000 := by have := HR.out.2.2.2 s9 (List.mem_of_getElem? cE); omega
      have HC56 := lh (And.intro fA (And.intro iF (And.intro fB iH)))
      have HSI : Hid (∀ w', Below w2.heap.size w2 w' -> Calls Tryz.prog 106 #[.slice A5 n6 c5, .slice A6 n6 c6] w' (Ret (.bool true) w')) := lh fun w' hb => by
       have aU := aA.trans (hb.mono aA.size)
       exact (Jq8 A5 A6 n6 c5 c6 s9 B B w' (rkindI.below iG (aU.mono HBB.out)) (rkindI.below iI (aU.mono HBB.out)) (by omega)).mono fun e w'' h => ⟨h.1, by obtain ⟨k, hk⟩ := h.2; rw [hk]; exact Jw (Below.refl _ _) k⟩
      have fC := fun w' (hb : Below w2.heap.size w2 w') => Qg ((aA.trans (hb.mono aA.size)).mono HBB.out) iF fA
      have fD := fun w' (hb : Below w2.heap.size w2 w') => Qg ((aA.trans (hb.mono aA.size)).mono HBB.out) iH fB
      have HK3 := lh (And.intro fC fD)
      have HBW2 := lh aA
      clear iF iH iG iI cE fC fD aA j9 b0 b1 jX
      go_upto_region 11 with fail
      go_cut [85] (fun v wd => v = .bool false /\ Below w2.heap.size w2 wd)
      case first =>
       refine Je0 (FixR w2 (fun j => ([some (.pointer (some ⟨w.heap.size, 5, none⟩)), some (.slice (some ad) n3 c3), some (.int .i64 (k : Int)), some (.pointer (some (ad.add k))), some ((.slice (some ad5) n4' c4)), some (.int .i64 (c : Int)), some (.pointer (some (ad5.add c))), some (.slice A5 n6 c5), some (.pointer (some ⟨w.heap.size + 1, 5, none⟩)), some ((.slice (some ad') n3 c3')), some (.int .i64 (k : Int)), some ((.pointer (some (ad'.add k)))), some ((.slice (some ad6) n4' c4')), some (.int .i64 (c : Int)), some (.pointer (some (ad6.add c))), some (.slice A6 n6 c6), some (.bool true), some (.bool false)] : List (Option Value)).getD j none)) (by kernel_rfl) (by kernel_rfl) (by kernel_rfl) ?_ ?_ [some 68, some 69, some 70, some 71, some 72, some 73, some 74, some 75, some 76, some 77, some 78, some 79, some 80, some 81, some 82, some 83, some 84, some 85] rfl ?_
       ·exact ⟨Jt _, Fixed.start _ _⟩
       ·refine ⟨⟨⟨⟨⟨⟨⟨⟨⟨⟨⟨⟨⟨⟨⟨⟨⟨⟨trivial, ?_⟩, ?_⟩, ?_⟩, ?_⟩, ?_⟩, ?_⟩, ?_⟩, ?_⟩, ?_⟩, ?_⟩, ?_⟩, ?_⟩, ?_⟩, ?_⟩, ?_⟩, ?_⟩, ?_⟩, ?_⟩ <;> intro d val a' w' hS hF hd hp
        ·have e8 : a'.tmps[2]?.getD undef = .pointer (some ⟨w.heap.size, 0, none⟩) := hS.arg 2
         refine Xa (v := .pointer (some ⟨w.heap.size, 5, none⟩)) _ rfl rfl ?_ (show FixR _ _ _ _ _ from hF.one rfl)
         clear hF hS hd hp
         go_simp
        ·have e1 : a'.tmps[68]?.getD undef = .pointer (some ⟨w.heap.size, 5, none⟩) := (hS.res 0 68 (hp 0)).trans (hF.2 0 _ rfl (hp 0))
         have aU := HB2.out.trans (hF.1.mono HB2.out.size)
         have b0' := B0.out.below aU aP
         obtain ⟨z0, z1, z2, z3, z4, z5⟩ := b0'.c6
         refine Xa (v := .slice (some ad) n3 c3) _ rfl rfl ?_ (show FixR _ _ _ _ _ from hF.one rfl)
         clear hF hS hd hp
         go_simp
        ·have e8 : a'.tmps[5]?.getD undef = .int .i64 (k : Int) := hS.arg 5
         refine Xa (v := .int .i64 (k : Int)) _ rfl rfl ?_ (show FixR _ _ _ _ _ from hF.one rfl)
         clear hF hS hd hp
         go_simp
        ·have e1 : a'.tmps[69]?.getD undef = .slice (some ad) n3 c3 := (hS.res 1 69 (hp 1)).trans (hF.2 1 _ rfl (hp 1))
         have e2 : a'.tmps[70]?.getD undef = .int .i64 (k : Int) := (hS.res 2 70 (hp 2)).trans (hF.2 2 _ rfl (hp 2))
         refine Xa (v := .pointer (some (ad.add k))) _ rfl rfl ?_ (show FixR _ _ _ _ _ from hF.one rfl)
         clear hF hS hd hp
         go_simp
        ·have e1 : a'.tmps[71]?.getD undef = .pointer (some (ad.add k)) := (hS.res 3 71 (hp 3)).trans (hF.2 3 _ rfl (hp 3))
         have aZ := HK1.out w' (HBW2.out.trans (hF.1.mono HBW2.out.size))
         refine Xa (v := (.slice (some ad5) n4' c4)) _ rfl rfl ?_ (show FixR _ _ _ _ _ from hF.one rfl)
         clear hF hS hd hp
         go_simp
        ·have e8 : a'.tmps[6]?.getD undef = .int .i64 (c : Int) := hS.arg 6
         refine Xa (v := .int .i64 (c : Int)) _ rfl rfl ?_ (show FixR _ _ _ _ _ from hF.one rfl)
         clear hF hS hd hp
         go_simp
        ·have e1 : a'.tmps[72]?.getD undef = (.slice (some ad5) n4' c4) := (hS.res 4 72 (hp 4)).trans (hF.2 4 _ rfl (hp 4))
         have e2 : a'.tmps[73]?.getD undef = .int .i64 (c : Int) := (hS.res 5 73 (hp 5)).trans (hF.2 5 _ rfl (hp 5))
         refine Xa (v := .pointer (some (ad5.add c))) _ rfl rfl ?_ (show FixR _ _ _ _ _ from hF.one rfl)
         clear hF hS hd hp
         go_simp
        ·have e1 : a'.tmps[74]?.getD undef = .pointer (some (ad5.add c)) := (hS.res 6 74 (hp 6)).trans (hF.2 6 _ rfl (hp 6))
         have aZ := HK3.out.1 w' hF.1
         refine Xa (v := .slice A5 n6 c5) _ rfl rfl ?_ (show FixR _ _ _ _ _ from hF.one rfl)
         clear hF hS hd hp
         go_simp
        ·have e8 : a'.tmps[3]?.getD undef = .pointer (some ⟨w.heap.size + 1, 0, none⟩) := hS.arg 3
         refine Xa (v := .pointer (some ⟨w.heap.size + 1, 5, none⟩)) _ rfl rfl ?_ (show FixR _ _ _ _ _ from hF.one rfl)
         clear hF hS hd hp
         go_simp
        ·have e1 : a'.tmps[76]?.getD undef = .pointer (some ⟨w.heap.size + 1, 5, none⟩) := (hS.res 8 76 (hp 8)).trans (hF.2 8 _ rfl (hp 8))
         have aU := HB2.out.trans (hF.1.mono HB2.out.size)
         have b0' := B1.out.below aU bI
         obtain ⟨z0, z1, z2, z3, z4, z5⟩ := b0'.c6
         refine Xa (v := (.slice (some ad') n3 c3')) _ rfl rfl ?_ (show FixR _ _ _ _ _ from hF.one rfl)
         clear hF hS hd hp
         go_simp
        ·have e8 : a'.tmps[5]?.getD undef = .int .i64 (k : Int) := hS.arg 5
         refine Xa (v := .int .i64 (k : Int)) _ rfl rfl ?_ (show FixR _ _ _ _ _ from hF.one rfl)
         clear hF hS hd hp
         go_simp
        ·have e1 : a'.tmps[77]?.getD undef = (.slice (some ad') n3 c3') := (hS.res 9 77 (hp 9)).trans (hF.2 9 _ rfl (hp 9))
         have e2 : a'.tmps[78]?.getD undef = .int .i64 (k : Int) := (hS.res 10 78 (hp 10)).trans (hF.2 10 _ rfl (hp 10))
         refine Xa (v := (.pointer (some (ad'.add k)))) _ rfl rfl ?_ (show FixR _ _ _ _ _ from hF.one rfl)
         clear hF hS hd hp
         go_simp
        ·have e1 : a'.tmps[79]?.getD undef = (.pointer (some (ad'.add k))) := (hS.res 11 79 (hp 11)).trans (hF.2 11 _ rfl (hp 11))
         have aZ := HK2.out w' (HBW2.out.trans (hF.1.mono HBW2.out.size))
         refine Xa (v := (.slice (some ad6) n4' c4')) _ rfl rfl ?_ (show FixR _ _ _ _ _ from hF.one rfl)
         clear hF hS hd hp
         go_simp
        ·have e8 : a'.tmps[6]?.getD undef = .int .i64 (c : Int) := hS.arg 6
         refine Xa (v := .int .i64 (c : Int)) _ rfl rfl ?_ (show FixR _ _ _ _ _ from hF.one rfl)
         clear hF hS hd hp
         go_simp
        ·have e1 : a'.tmps[80]?.getD undef = (.slice (some ad6) n4' c4') := (hS.res 12 80 (hp 12)).trans (hF.2 12 _ rfl (hp 12))
         have e2 : a'.tmps[81]?.getD undef = .int .i64 (c : Int) := (hS.res 13 81 (hp 13)).trans (hF.2 13 _ rfl (hp 13))
         refine Xa (v := .pointer (some (ad6.add c))) _ rfl rfl ?_ (show FixR _ _ _ _ _ from hF.one rfl)
         clear hF hS hd hp
         go_simp
        ·have e1 : a'.tmps[82]?.getD undef = .pointer (some (ad6.add c)) := (hS.res 14 82 (hp 14)).trans (hF.2 14 _ rfl (hp 14))
         have aZ := HK3.out.2 w' hF.1
         refine Xa (v := .slice A6 n6 c6) _ rfl rfl ?_ (show FixR _ _ _ _ _ from hF.one rfl)
         clear hF hS hd hp
         go_simp
        ·have e1 : a'.tmps[75]?.getD undef = .slice A5 n6 c5 := (hS.res 7 75 (hp 7)).trans (hF.2 7 _ rfl (hp 7))
         have e2 : a'.tmps[83]?.getD undef = .slice A6 n6 c6 := (hS.res 15 83 (hp 15)).trans (hF.2 15 _ rfl (hp 15))
         refine Jjm (Ψ := fun v w'' => FixR w2 _ (upI d 16) (Jf3 val 16 v) w'') _ rfl rfl (args := #[.slice A5 n6 c5, .slice A6 n6 c6]) (w2 := w') (f := 106) ?_ ?_
         ·clear hF hS hd hp
          go_simp
         refine (HSI.out w' hF.1).mono ?_
         rintro e w3 ⟨rfl, aI⟩
         exact ⟨_, rfl, hF.call aI rfl⟩
        ·have e1 : a'.tmps[84]?.getD undef = .bool true := (hS.res 16 84 (hp 16)).trans (hF.2 16 _ rfl (hp 16))
         refine Xa (v := .bool false) _ rfl rfl ?_ (show FixR _ _ _ _ _ from hF.one rfl)
         clear hF hS hd hp
         go_simp
       intro d val w' hF hd
       simp only [Exit.then, Jd7, Act.put, List.setIfInBounds_toArray, List.set_cons_succ, List.set_cons_zero]
       refine ‹∀ a' w', Met _ a' w' -> _› _ _ ?_
       go_meet
       exact ⟨hF.2 17 _ rfl (hd 17 (by decide)), hF.1⟩
      case rest =>
       obtain ⟨rfl, bG⟩ := hcut
       rename World => wd
       have HBD := lh (HB2.out.trans (bG.mono HB2.out.size))
       clear bG x0 x1 x2 x3 x4 x5 y0 y1 y2 y3 y4 y5 dC aY
       go_wp2_with fail
       go_roundw
       case rel => exact ⟨c + 1, by omega, by go_num, HBD.out⟩
       case measure => simp [intOf]; omega
     as_aux_lemma =>
     obtain rfl : c = n4' := by omega
     have k2 : ¬ (c : Int) < (c : Int) := by omega
     clear j9 aA b0 b1
     go_wp2_with fail
     exact ⟨⟨k + 1, by omega, by go_num, HB2.out⟩, by simp [intOf]; omega⟩
  as_aux_lemma =>
  obtain rfl : k = n3 := by omega
  have k1 : ¬ (k : Int) < (k : Int) := by omega
  have HB9 := lh j7
  clear j7 bV b0 b1
  go_wp2
  go_ret
  exact ⟨rfl, HB9.out⟩
structure SamR (W : World) (q : Rat) (s1 s2 s3 : Value) (FX : Nat -> Option Value) (d : Nat -> Bool) (val : Nat -> Value) (w : World) : Prop where
 bel : Below W.heap.size W w
 fx : Fixed FX d val
 v2 : d 2 = true -> ∃ (a : Bool) (A A' : Option Addr) (l c l' c' : Nat), val 2 = .agg #[.bool a, .slice A l c, .slice A' l' c'] /\ IsQ w w.heap.size (.agg #[.bool a, .slice A l c, .slice A' l' c']) q
 v9 : d 9 = true -> d 2 = true /\ ∀ x y z, val 2 = .agg #[x, y, z] -> val 9 = .agg #[x, y, z, s1, s2, s3]
theorem SamR.next {W w w' : World} {q : Rat} {s1 s2 s3 : Value} {FX : Nat -> Option Value} {d : Nat -> Bool} {val : Nat -> Value} (h : SamR W q s1 s2 s3 FX d val w) (hb : Below w.heap.size w w') : SamR W q s1 s2 s3 FX d val w' where
 bel := h.bel.trans (hb.mono h.bel.size)
 fx := h.fx
 v2 := fun h1 => by
  obtain ⟨a, A, A', l, c, l', c', e, hq⟩ := h.v2 h1
  exact ⟨a, A, A', l, c, l', c', e, (hq.below hb).more hb.size⟩
 v9 := h.v9
theorem arr3 {a b c x y z : Value} (h : #[a, b, c] = #[x, y, z]) : a = x /\ b = y /\ c = z := by simpa using h
theorem Jrn (X1 X2 X3 : Option Addr) (n1 s1 n2 s2 n3 s3 : Nat) (ng' : Bool) (Y7 Y8 : Option Addr) (l7' d7' l8' d8' : Nat) (Y1 Y2 Y3 : Option Addr) (c1' c2' c3' B : Nat) (m : BM) (w : World) (h : RdB w B ⟨X1, n1, s1⟩ ⟨X2, n2, s2⟩ ⟨X3, n3, s3⟩ m)
  (h' : RdB w B ⟨Y1, n1, c1'⟩ ⟨Y2, n2, c2'⟩ ⟨Y3, n3, c3'⟩ m) (dW : IsQ w B (.agg #[.bool ng', .slice Y7 l7' d7', .slice Y8 l8' d8']) m.smooth) (hB : B <= w.heap.size) (hL : LenB m) (hs : QS 68719476736 m.smooth) :
  Calls Tryz.prog 23 #[.agg #[.bool (decide (m.smooth.num < 0)), .int .u64 (lo m.smooth.num.natAbs : Int), .string (mo m.smooth.num.natAbs), .int .u64 (lo ((qden m.smooth)) : Int), .string (mo ((qden m.smooth))), .slice X1 n1 s1, .slice X2 n2 s2, .slice X3 n3 s3], .agg #[.bool ng', .slice Y7 l7' d7', .slice Y8 l8' d8', .slice Y1 n1 c1', .slice Y2 n2 c2', .slice Y3 n3 c3']] w (Ret (.bool true) w) := by
 obtain ⟨q, hq⟩ : ∃ q, m.smooth = q := ⟨_, rfl⟩
 have fU := fun w' => Jlj m.smooth w' (hs.mono (by omega))
 unfold qV at fU
 rw [hq] at fU hs dW ⊢
 obtain ⟨b0, b1, hB, hZ⟩ := bx2 w 43 #[.bool (decide (q.num < 0)), .int .u64 (lo q.num.natAbs : Int), .string (mo q.num.natAbs), .int .u64 (lo (qden q) : Int), .string (mo (qden q)), .slice X1 n1 s1, .slice X2 n2 s2, .slice X3 n3 s3] 31 #[.bool ng', .slice Y7 l7' d7', .slice Y8 l8' d8', .slice Y1 n1 c1', .slice Y2 n2 c2', .slice Y3 n3 c3']
 go_enter Tryz.func23, Tryz.ntmps23
 go_upto_region 1 with fail
 generalize ((w.alloc (.cells #[.bool (decide (q.num < 0)), .int .u64 (lo q.num.natAbs : Int), .string (mo q.num.natAbs), .int .u64 (lo (qden q) : Int), .string (mo (qden q)), .slice X1 n1 s1, .slice X2 n2 s2, .slice X3 n3 s3] 43)).alloc (.cells #[.bool ng', .slice Y7 l7' d7', .slice Y8 l8' d8', .slice Y1 n1 c1', .slice Y2 n2 c2', .slice Y3 n3 c3'] 31)) = W at *
 rename B <= w.heap.size => hBB
 have HSA : Hid (∀ w' a A A' l c l' c', Below w.heap.size w w' -> IsQ w' w'.heap.size (.agg #[.bool a, .slice A l c, .slice A' l' c']) q -> Calls Tryz.prog 59 #[.agg #[.bool a, .slice A l c, .slice A' l' c', .slice X1 n1 s1, .slice X2 n2 s2, .slice X3 n3 s3], .agg #[.bool ng', .slice Y7 l7' d7', .slice Y8 l8' d8', .slice Y1 n1 c1', .slice Y2 n2 c2', .slice Y3 n3 c3']] w' (Ret (.bool true) w')) := lh fun w' a A A' l c l' c' hb hi =>
  Jrr a A A' l c l' c' X1 X2 X3 n1 s1 n2 s2 n3 s3 ng' Y7 Y8 l7' d7' l8' d8' Y1 Y2 Y3 c1' c2' c3' w'.heap.size m w' ((h.below (hb.mono hBB)).more (nt hBB hb.size)) (by rw [hq]; exact hi) ((h'.below (hb.mono hBB)).more (nt hBB hb.size)) (by rw [hq]; exact (dW.below (hb.mono hBB)).more (nt hBB hb.size)) zd hL (by rw [hq]; exact hs)
 have HOU := lh fU
 have HBW := lh hB
 have B0 := lh b0
 have B1 := lh b1
 have aP := b0.lt
 have bI := b1.lt
 clear h h' dW hB hL hs fU hZ b0 b1 hq
 go_cut [4] (fun v wc => v = .bool true /\ Below W.heap.size W wc)
 case first =>
  refine Je0 (SamR W q (.slice X1 n1 s1) (.slice X2 n2 s2) (.slice X3 n3 s3) (fun j => ([some (.pointer (some ⟨w.heap.size, 0, none⟩)), some (.agg #[.bool (decide (q.num < 0)), .int .u64 (lo q.num.natAbs : Int), .string (mo q.num.natAbs), .int .u64 (lo ((qden q)) : Int), .string (mo ((qden q)))]), none, some (.pointer (some ⟨w.heap.size, 5, none⟩)), some (.slice X1 n1 s1), some (.pointer (some ⟨w.heap.size, 6, none⟩)), some (.slice X2 n2 s2), some (.pointer (some ⟨w.heap.size, 7, none⟩)), some (.slice X3 n3 s3), none, some (.agg #[.bool ng', .slice Y7 l7' d7', .slice Y8 l8' d8', .slice Y1 n1 c1', .slice Y2 n2 c2', .slice Y3 n3 c3']), some (.bool true), some (.bool true)] : List (Option Value)).getD j none)) (by kernel_rfl) (by kernel_rfl) (by kernel_rfl) ?_ ?_ [some 5, some 6, some 7, some 8, some 9, some 10, some 11, some 12, some 13, some 14, some 15, some 16, some 4] rfl ?_
  ·constructor <;> first | exact Jt _ | exact Fixed.start _ _ | (intro h; cases h)
  ·refine ⟨⟨⟨⟨⟨⟨⟨⟨⟨⟨⟨⟨⟨trivial, ?_⟩, ?_⟩, ?_⟩, ?_⟩, ?_⟩, ?_⟩, ?_⟩, ?_⟩, ?_⟩, ?_⟩, ?_⟩, ?_⟩, ?_⟩ <;> intro d val a' w' hS hF hd hp
   ·have e8 : a'.tmps[2]?.getD undef = .pointer (some ⟨w.heap.size, 0, none⟩) := hS.arg 2
    refine Xa (v := .pointer (some ⟨w.heap.size, 0, none⟩)) _ rfl rfl ?_ (show SamR _ _ _ _ _ _ _ _ _ from ⟨hF.bel, hF.fx.step (.inr rfl), hF.v2, hF.v9⟩)
    clear hF hS hd hp
    go_simp
   ·have e1 : a'.tmps[5]?.getD undef = .pointer (some ⟨w.heap.size, 0, none⟩) := (hS.res 0 5 (hp 0)).trans (hF.fx 0 _ rfl (hp 0))
    have b0' := B0.out.below hF.bel aP
    obtain ⟨y0, y1, y2, y3, y4, y5, y6, y7⟩ := b0'.c8
    refine Xa (v := .agg #[.bool (decide (q.num < 0)), .int .u64 (lo q.num.natAbs : Int), .string (mo q.num.natAbs), .int .u64 (lo ((qden q)) : Int), .string (mo ((qden q)))]) _ rfl rfl ?_ (show SamR _ _ _ _ _ _ _ _ _ from ⟨hF.bel, hF.fx.step (.inr rfl), hF.v2, hF.v9⟩)
    clear hF hS hd hp
    go_simp
   ·have e1 : a'.tmps[6]?.getD undef = .agg #[.bool (decide (q.num < 0)), .int .u64 (lo q.num.natAbs : Int), .string (mo q.num.natAbs), .int .u64 (lo ((qden q)) : Int), .string (mo ((qden q)))] := (hS.res 1 6 (hp 1)).trans (hF.fx 1 _ rfl (hp 1))
    refine Jjm (Ψ := fun v w'' => SamR W _ _ _ _ _ (upI d 2) (Jf3 val 2 v) w'') _ rfl rfl (args := #[.agg #[.bool (decide (q.num < 0)), .int .u64 (lo q.num.natAbs : Int), .string (mo q.num.natAbs), .int .u64 (lo ((qden q)) : Int), .string (mo ((qden q)))]]) (w2 := w') (f := 60) ?_ ?_
    ·clear hF hS hd hp
     go_simp
    refine (HOU.out w').mono ?_
    rintro e w3 ⟨V, rfl, hV, aI⟩
    obtain ⟨a, A, l, c, A', l', c', rfl⟩ := hV.shape
    have hG := hF.next aI
    exact ⟨_, rfl, ⟨hG.bel, hG.fx.step (.inl rfl), fun _ => ⟨a, A, A', l, c, l', c', rfl, hV⟩, fun h => absurd (hG.v9 h).1 (by rw [hd]; decide)⟩⟩
   ·have e8 : a'.tmps[2]?.getD undef = .pointer (some ⟨w.heap.size, 0, none⟩) := hS.arg 2
    refine Xa (v := .pointer (some ⟨w.heap.size, 5, none⟩)) _ rfl rfl ?_ (show SamR _ _ _ _ _ _ _ _ _ from ⟨hF.bel, hF.fx.step (.inr rfl), hF.v2, hF.v9⟩)
    clear hF hS hd hp
    go_simp
   ·have e1 : a'.tmps[8]?.getD undef = .pointer (some ⟨w.heap.size, 5, none⟩) := (hS.res 3 8 (hp 3)).trans (hF.fx 3 _ rfl (hp 3))
    have b0' := B0.out.below hF.bel aP
    obtain ⟨y0, y1, y2, y3, y4, y5, y6, y7⟩ := b0'.c8
    refine Xa (v := .slice X1 n1 s1) _ rfl rfl ?_ (show SamR _ _ _ _ _ _ _ _ _ from ⟨hF.bel, hF.fx.step (.inr rfl), hF.v2, hF.v9⟩)
    clear hF hS hd hp
    go_simp
   ·have e8 : a'.tmps[2]?.getD undef = .pointer (some ⟨w.heap.size, 0, none⟩) := hS.arg 2
    refine Xa (v := .pointer (some ⟨w.heap.size, 6, none⟩)) _ rfl rfl ?_ (show SamR _ _ _ _ _ _ _ _ _ from ⟨hF.bel, hF.fx.step (.inr rfl), hF.v2, hF.v9⟩)
    clear hF hS hd hp
    go_simp
   ·have e1 : a'.tmps[10]?.getD undef = .pointer (some ⟨w.heap.size, 6, none⟩) := (hS.res 5 10 (hp 5)).trans (hF.fx 5 _ rfl (hp 5))
    have b0' := B0.out.below hF.bel aP
    obtain ⟨y0, y1, y2, y3, y4, y5, y6, y7⟩ := b0'.c8
    refine Xa (v := .slice X2 n2 s2) _ rfl rfl ?_ (show SamR _ _ _ _ _ _ _ _ _ from ⟨hF.bel, hF.fx.step (.inr rfl), hF.v2, hF.v9⟩)
    clear hF hS hd hp
    go_simp
   ·have e8 : a'.tmps[2]?.getD undef = .pointer (some ⟨w.heap.size, 0, none⟩) := hS.arg 2
    refine Xa (v := .pointer (some ⟨w.heap.size, 7, none⟩)) _ rfl rfl ?_ (show SamR _ _ _ _ _ _ _ _ _ from ⟨hF.bel, hF.fx.step (.inr rfl), hF.v2, hF.v9⟩)
    clear hF hS hd hp
    go_simp
   ·have e1 : a'.tmps[12]?.getD undef = .pointer (some ⟨w.heap.size, 7, none⟩) := (hS.res 7 12 (hp 7)).trans (hF.fx 7 _ rfl (hp 7))
    have b0' := B0.out.below hF.bel aP
    obtain ⟨y0, y1, y2, y3, y4, y5, y6, y7⟩ := b0'.c8
    refine Xa (v := .slice X3 n3 s3) _ rfl rfl ?_ (show SamR _ _ _ _ _ _ _ _ _ from ⟨hF.bel, hF.fx.step (.inr rfl), hF.v2, hF.v9⟩)
    clear hF hS hd hp
    go_simp
   ·have e1 := hS.res 2 7 (hp 2)
    have h2 := hp 2
    obtain ⟨a, A, A', l, c, l', c', e, -⟩ := hF.v2 h2
    rw [e] at e1
    have e2 : a'.tmps[9]?.getD undef = .slice X1 n1 s1 := (hS.res 4 9 (hp 4)).trans (hF.fx 4 _ rfl (hp 4))
    have e3 : a'.tmps[11]?.getD undef = .slice X2 n2 s2 := (hS.res 6 11 (hp 6)).trans (hF.fx 6 _ rfl (hp 6))
    have e4 : a'.tmps[13]?.getD undef = .slice X3 n3 s3 := (hS.res 8 13 (hp 8)).trans (hF.fx 8 _ rfl (hp 8))
    refine Xa (v := .agg #[.bool a, .slice A l c, .slice A' l' c', .slice X1 n1 s1, .slice X2 n2 s2, .slice X3 n3 s3]) _ rfl rfl ?_ (show SamR _ _ _ _ _ _ _ _ _ from ⟨hF.bel, hF.fx.step (.inl rfl), hF.v2, fun _ => ⟨h2, fun x y z (e' : val 2 = _) => by rw [e] at e'; injection e' with e'; obtain ⟨rfl, rfl, rfl⟩ := arr3 e'; rfl⟩⟩)
    clear hF hS hd hp
    go_simp
   ·have e8 : a'.tmps[3]?.getD undef = .pointer (some ⟨w.heap.size + 1, 0, none⟩) := hS.arg 3
    have b1' := B1.out.below hF.bel bI
    obtain ⟨y0, y1, y2, y3, y4, y5⟩ := b1'.c6
    refine Xa (v := .agg #[.bool ng', .slice Y7 l7' d7', .slice Y8 l8' d8', .slice Y1 n1 c1', .slice Y2 n2 c2', .slice Y3 n3 c3']) _ rfl rfl ?_ (show SamR _ _ _ _ _ _ _ _ _ from ⟨hF.bel, hF.fx.step (.inr rfl), hF.v2, hF.v9⟩)
    clear hF hS hd hp
    go_simp
   ·have e1 := hS.res 9 14 (hp 9)
    obtain ⟨h2, h9⟩ := hF.v9 (hp 9)
    obtain ⟨a, A, A', l, c, l', c', e, hi⟩ := hF.v2 h2
    rw [h9 _ _ _ e] at e1
    have e2 : a'.tmps[15]?.getD undef = .agg #[.bool ng', .slice Y7 l7' d7', .slice Y8 l8' d8', .slice Y1 n1 c1', .slice Y2 n2 c2', .slice Y3 n3 c3'] := (hS.res 10 15 (hp 10)).trans (hF.fx 10 _ rfl (hp 10))
    refine Jjm (Ψ := fun v w'' => SamR W _ _ _ _ _ (upI d 11) (Jf3 val 11 v) w'') _ rfl rfl (args := #[.agg #[.bool a, .slice A l c, .slice A' l' c', .slice X1 n1 s1, .slice X2 n2 s2, .slice X3 n3 s3], .agg #[.bool ng', .slice Y7 l7' d7', .slice Y8 l8' d8', .slice Y1 n1 c1', .slice Y2 n2 c2', .slice Y3 n3 c3']]) (w2 := w') (f := 59) ?_ ?_
    ·clear hF hS hd hp
     go_simp
    refine (HSA.out w' a A A' l c l' c' (HBW.out.trans (hF.bel.mono HBW.out.size)) hi).mono ?_
    rintro e w3 ⟨rfl, aI⟩
    have hG := hF.next aI
    exact ⟨_, rfl, ⟨hG.bel, hG.fx.step (.inr rfl), hG.v2, hG.v9⟩⟩
   ·have e1 : a'.tmps[16]?.getD undef = .bool true := (hS.res 11 16 (hp 11)).trans (hF.fx 11 _ rfl (hp 11))
    refine Xa (v := .bool true) _ rfl rfl ?_ (show SamR _ _ _ _ _ _ _ _ _ from ⟨hF.bel, hF.fx.step (.inr rfl), hF.v2, hF.v9⟩)
    clear hF hS hd hp
    go_simp
  intro d val w' hF hd
  simp only [Exit.then, Jd7, Act.put, List.setIfInBounds_toArray, List.set_cons_succ, List.set_cons_zero]
  refine ‹∀ a' w', Met _ a' w' -> _› _ _ ?_
  go_meet
  exact ⟨hF.fx 12 _ rfl (hd 12 (by decide)), hF.bel⟩
 case rest =>
  obtain ⟨rfl, aB⟩ := hcut
  have HB9 := lh (HBW.out.trans (aB.mono HBW.out.size))
  clear aB
  go_wp2
  go_ret
  exact ⟨rfl, HB9.out⟩
theorem Juk {m : BM} (h : LenB m) (way a b : Int) : LenB (Jo6 m way a b) := by
 have fE : ∀ {l : List (List (List Int))} {k : Nat} {t : List (List Int)}, (∀ x ∈ l, x.length <= 1000 /\ ∀ s9 ∈ x, s9.length <= 1000) -> (t.length <= 1000 /\ ∀ s9 ∈ t, s9.length <= 1000) -> ∀ x ∈ l.set k t, x.length <= 1000 /\ ∀ s9 ∈ x, s9.length <= 1000 := fun h1 h2 x hx => (List.mem_or_eq_of_mem_set hx).elim (h1 x) fun e => e ▸ h2
 have bK : ∀ k, ((m.counts.getD k []).length <= 1000 /\ ∀ s9 ∈ m.counts.getD k [], s9.length <= 1000) := fun k => by
  rw [List.getD_eq_getElem?_getD]
  cases e : m.counts[k]? with
  | none => exact ⟨Nat.zero_le _, fun s9 hc => by cases hc⟩
  | some t => exact h.rows t (List.mem_of_getElem? e)
 unfold Jo6
 simp only
 split
 ·exact ⟨h.words, by rw [List.length_set]; exact h.seen, h.counts, h.rows⟩
 split
 ·refine ⟨h.words, h.seen, by rw [List.length_set]; exact h.counts, fE h.rows ⟨by rw [List.length_set]; exact (bK _).1, fun s9 hc => ?_⟩⟩
  rcases List.mem_or_eq_of_mem_set hc with h1 | rfl
  ·exact (bK _).2 s9 h1
  rw [List.length_set, List.getD_eq_getElem?_getD]
  cases e : (m.counts.getD (a % (m.seen.length : Int)).toNat [])[((a.tdiv 3) % (m.words.length : Int)).toNat]? with
  | none => exact Nat.zero_le _
  | some s9 => exact (bK _).2 s9 (List.mem_of_getElem? e)
 split
 ·exact ⟨h.words, h.seen, h.counts, h.rows⟩
 split
 ·exact ⟨by rw [List.length_set]; exact h.words, h.seen, h.counts, h.rows⟩
 split
 ·exact ⟨h.words, h.seen, by rw [List.length_set]; exact h.counts, fE h.rows ⟨by rw [List.length_drop]; have := (bK (a % (m.seen.length : Int)).toNat).1; omega, fun s9 hc => (bK _).2 s9 (List.mem_of_mem_drop hc)⟩⟩
 split
 ·exact ⟨h.words, by rw [List.length_drop]; have := h.seen; omega, h.counts, h.rows⟩
 split
 ·exact ⟨h.words, by rw [List.length_set]; exact h.seen, h.counts, h.rows⟩
 exact h
theorem Jum {m : BM} (h : QS 1000 m.smooth) (way a b : Int) : QS 1000 (Jo6 m way a b).smooth := by
 have hb : QS 1000 (((b % 9 - 2 : Int)) : Rat) := by
  have h0 : 0 <= b % 9 /\ b % 9 < 9 := by omega
  rcases Int.le_total 0 (b % 9 - 2) with h1 | h1
  ·exact (QS.cnt (k := 4) h1 (by omega) (by omega)).mono (by omega)
  have h2 := (QS.cnt (k := 4) (n := -(b % 9 - 2)) (by omega) (by omega) (by omega)).neg
  rw [show ((-(b % 9 - 2) : Int) : Rat) = -(((b % 9 - 2 : Int)) : Rat) from Rat.intCast_neg _, Rat.neg_neg] at h2
  exact h2.mono (by omega)
 unfold Jo6
 simp only
 split
 ·exact h
 split
 ·exact h
 split
 ·exact hb
 split
 ·exact h
 split
 ·exact h
 split
 ·exact h
 split
 ·exact h
 exact h
theorem Juj (w : World) : Calls Tryz.prog 22 #[.agg #[.bool false, .int .u64 0, .string ⟨#[]⟩, .int .u64 0, .string ⟨#[]⟩, .slice none 0 0, .slice none 0 0, .slice none 0 0]] w (Ret (.bool true) w) := by
 have iJ := fun w => Vn 0 w ⟨by decide, by decide⟩
 rw [show qV 0 = .agg #[.bool false, .int .u64 0, .string ⟨#[]⟩, .int .u64 0, .string ⟨#[]⟩] from rfl] at iJ
 have HSG := lh iJ
 clear iJ
 obtain ⟨b0, hB, hZ⟩ := bx1 w 43 #[.bool false, .int .u64 0, .string ⟨#[]⟩, .int .u64 0, .string ⟨#[]⟩, .slice none 0 0, .slice none 0 0, .slice none 0 0]
 go_enter Tryz.func22, Tryz.ntmps22
 go_upto_region 1 with fail
 generalize (w.alloc (.cells #[.bool false, .int .u64 0, .string ⟨#[]⟩, .int .u64 0, .string ⟨#[]⟩, .slice none 0 0, .slice none 0 0, .slice none 0 0] 43)) = W at *
 obtain ⟨x0, x1, x2, x3, x4, x5, x6, x7⟩ := b0.c8
 have B0' := lh b0
 have HB := lh hB
 clear b0 hB
 go_wp2_with fail
 refine (HSG.out _).mono ?_
 rintro e w1 ⟨rfl, j6⟩
 clear x0 x1 x2 x3 x4 x5 x6 x7
 obtain ⟨x0, x1, x2, x3, x4, x5, x6, x7⟩ := (B0'.out.below j6 B0'.out.lt).c8
 have HB1 := lh (HB.out.trans (j6.mono HB.out.size))
 clear j6
 go_wp2
 go_ret
 exact ⟨rfl, HB1.out⟩
theorem Ju1 {t : List (List Int)} (h : t.length <= 1000 /\ ∀ s9 ∈ t, s9.length <= 1000) (row : List Int) (b : Int) : (Zs t row b).length <= 1000 /\ ∀ s9 ∈ Zs t row b, s9.length <= 1000 := by
 refine ⟨by rw [Yn]; omega, fun s9 hc => ?_⟩
 obtain ⟨i, hi, e⟩ := List.getElem_of_mem hc
 unfold Zs at e hi
 rw [List.getElem_zipWith] at e
 rw [<- e, Ki]
 exact h.2 _ (List.getElem_mem _)
theorem Juu {m : BM} (h : LenB m) (row : List Int) (c : Nat) (b : Int) : LenB (Jn m row c b) := by
 refine ⟨h.words, by rw [Yt]; exact h.seen, by show (m.counts.set _ _).length <= 1000; rw [List.length_set]; exact h.counts, fun t ht => ?_⟩
 rcases List.mem_or_eq_of_mem_set (show t ∈ m.counts.set c (Zs (m.counts.getD c []) row b) from ht) with h1 | rfl
 ·exact h.rows t h1
 refine Ju1 ?_ row b
 rw [List.getD_eq_getElem?_getD]
 cases e : m.counts[c]? with
 | none => exact ⟨Nat.zero_le _, fun s9 hc => by cases hc⟩
 | some t => exact h.rows t (List.mem_of_getElem? e)
theorem Jit (x y : Int) (w : World) : Calls Tryz.prog 71 #[.int .i64 x, .int .i64 y] w (Ret (.int .i64 x) w) := by
 go_enter Tryz.func71, Tryz.ntmps71
 go_wp2
 go_ret
 exact ⟨rfl, Below.refl _ _⟩
theorem Jih (args : Array Value) (w : World) : (callFunc 71 args).run Tryz.prog w = .ok (.enter 71 args) w := by
 go_simp
def FitC (n1 n2 n3 : Nat) (m : BM) (W : World) (v v12 : Value) (wc : World) : Prop :=
 ∃ (g : Nat) (AW : Option Addr) (cW gS gC : Nat) (F G H : Nat -> Prop), v = .pointer (some ⟨g, 0, none⟩) /\ v12 = .int .i64 0 /\ Blk wc g 43 #[.bool (decide (m.smooth.num < 0)), .int .u64 (lo m.smooth.num.natAbs : Int), .string (mo m.smooth.num.natAbs), .int .u64 (lo ((qden m.smooth)) : Int), .string (mo ((qden m.smooth))), .slice AW n1 cW, .slice (some ⟨gS, 0, none⟩) n2 n2, .slice (some ⟨gC, 0, none⟩) n3 n3] /\
  OwB 3 22 65 W.heap.size wc ⟨AW, n1, cW⟩ ⟨some ⟨gS, 0, none⟩, n2, n2⟩ ⟨some ⟨gC, 0, none⟩, n3, n3⟩ F G H m /\ Below W.heap.size W wc
theorem Joh {a b u y : Value} (h : #[a, b] = #[u, y]) : a = u /\ b = y := by simpa using h
theorem Ji1 {g g' : Nat} (h : Value.pointer (some ⟨g, 0, none⟩) = .pointer (some ⟨g', 0, none⟩)) : g = g' := by
 injection h with h
 injection h with h
 injection h with h
def FitM (n1 n2 n3 : Nat) (m : BM) (W : World) (u : Value) (w : World) (X : Nat -> Prop) : Prop := ∃ (AW : Option Addr) (cW gS gC : Nat) (F G H : Nat -> Prop), u = .agg #[.bool (decide (m.smooth.num < 0)), .int .u64 (lo m.smooth.num.natAbs : Int), .string (mo m.smooth.num.natAbs), .int .u64 (lo ((qden m.smooth)) : Int), .string (mo ((qden m.smooth))), .slice AW n1 cW, .slice (some ⟨gS, 0, none⟩) n2 n2, .slice (some ⟨gC, 0, none⟩) n3 n3] /\
  OwB 3 22 65 W.heap.size w ⟨AW, n1, cW⟩ ⟨some ⟨gS, 0, none⟩, n2, n2⟩ ⟨some ⟨gC, 0, none⟩, n3, n3⟩ F G H m /\ ∀ g, X g -> ¬ F g /\ ¬ G g /\ ¬ H g
structure FitR (W : World) (n1 n2 n3 : Nat) (m : BM) (er : Int) (x0 x1 x2 x3 x4 x5 : Value) (d : Nat -> Bool) (val : Nat -> Value) (w : World) : Prop where
 bel : Below W.heap.size W w
 v0 : d 0 = true -> val 0 = x0
 v1 : d 1 = true -> val 1 = x1
 v2 : d 2 = true -> val 2 = x2
 v3 : d 3 = true -> val 3 = x3
 v4 : d 4 = true -> val 4 = x4
 v5 : d 5 = true -> val 5 = x5
 v6 : d 6 = true -> ∃ c0 c1 c2 c3 c4 c5 c6 c7, val 6 = .tuple #[.agg #[c0, c1, c2, c3, c4, c5, c6, c7], .int .i64 er] /\ (#[c0, c1, c2, c3, c4, c5, c6, c7].all (·.oneCell') = true) /\ (er = 0 -> FitM n1 n2 n3 m W (.agg #[c0, c1, c2, c3, c4, c5, c6, c7]) w fun g => d 10 = true /\ val 10 = .pointer (some ⟨g, 0, none⟩))
 v7 : d 7 = true -> d 6 = true /\ val 7 = val 6
 v8 : d 8 = true -> d 6 = true /\ ∀ u y, val 6 = .tuple #[u, y] -> val 8 = u
 v9 : d 9 = true -> d 6 = true /\ ∀ u y, val 6 = .tuple #[u, y] -> val 9 = y
 v10 : d 10 = true -> ∃ g y0 y1 y2 y3 y4 y5 y6 y7, val 10 = .pointer (some ⟨g, 0, none⟩) /\ W.heap.size <= g /\ Blk w g 43 #[y0, y1, y2, y3, y4, y5, y6, y7] /\ (d 11 = true -> d 8 = true /\ val 8 = .agg #[y0, y1, y2, y3, y4, y5, y6, y7])
 v11 : d 11 = true -> d 10 = true
 v12 : d 12 = true -> d 9 = true /\ val 12 = val 9
theorem Jky {L n1 n2 n3 : Nat} {m : BM} {er : Int} {v : Value} {W w : World} (h : Jhk L n1 n2 n3 (m, er) v w) (hL : W.heap.size <= L) : ∃ c0 c1 c2 c3 c4 c5 c6 c7, v = .tuple #[.agg #[c0, c1, c2, c3, c4, c5, c6, c7], .int .i64 er] /\ (#[c0, c1, c2, c3, c4, c5, c6, c7].all (·.oneCell') = true) /\ (er = 0 -> FitM n1 n2 n3 m W (.agg #[c0, c1, c2, c3, c4, c5, c6, c7]) w fun g => g < L) := by
 rcases h with ⟨h0, u, rfl, AW, cW, gS, gC, F, G, H, rfl, ho⟩ | ⟨h0, rfl⟩
 ·simp only at h0
  subst h0
  exact ⟨_, _, _, _, _, _, _, _, rfl, by simp [Value.oneCell'], fun _ => ⟨AW, cW, gS, gC, F, G, H, rfl, ho.low hL, fun g hg => ⟨fun e => by have := ho.from1 _ e; omega, fun e => by have := ho.from2 _ e; omega, fun e => by have := ho.from3 _ e; omega⟩⟩⟩
 exact ⟨_, _, _, _, _, _, _, _, rfl, by simp [Value.oneCell'], fun h => absurd h h0⟩
theorem FitM.next {n1 n2 n3 : Nat} {m : BM} {W w w' : World} {u : Value} {X Y : Nat -> Prop} (h : FitM n1 n2 n3 m W u w X) (hb : Below w.heap.size w w') (hY : ∀ g, Y g -> X g \/ w.heap.size <= g) : FitM n1 n2 n3 m W u w' Y := by
 obtain ⟨AW, cW, gS, gC, F, G, H, h1, ho, h2⟩ := h
 obtain ⟨o1, o2, o3⟩ := ho.old
 refine ⟨AW, cW, gS, gC, F, G, H, h1, ho.next hb, fun g hg => ?_⟩
 rcases hY g hg with h3 | h3
 ·exact h2 g h3
 exact ⟨fun e => by have := o1 _ e; omega, fun e => by have := o2 _ e; omega, fun e => by have := o3 _ e; omega⟩
theorem FitM.sub {n1 n2 n3 : Nat} {m : BM} {W w : World} {u : Value} {X Y : Nat -> Prop} (h : FitM n1 n2 n3 m W u w X) (hY : ∀ g, Y g -> X g) : FitM n1 n2 n3 m W u w Y := by
 obtain ⟨AW, cW, gS, gC, F, G, H, h1, ho, h2⟩ := h
 exact ⟨AW, cW, gS, gC, F, G, H, h1, ho, fun g hg => h2 g (hY g hg)⟩
theorem FitM.exc {n1 n2 n3 g : Nat} {m : BM} {W w w' : World} {u : Value} {X : Nat -> Prop} (h : FitM n1 n2 n3 m W u w X) (hx : Exc g w w') (hg : X g) : FitM n1 n2 n3 m W u w' X := by
 obtain ⟨AW, cW, gS, gC, F, G, H, h1, ho, h2⟩ := h
 have h3 := h2 g hg
 exact ⟨AW, cW, gS, gC, F, G, H, h1, ho.exc hx h3.1 h3.2.1 h3.2.2, h2⟩
def FitX (n1 n2 n3 : Nat) (m : BM) (er : Int) (W : World) (v v12 : Value) (wc : World) : Prop :=
 v12 = .int .i64 er /\ Below W.heap.size W wc /\ (er = 0 -> FitC n1 n2 n3 m W v (.int .i64 0) wc)
theorem Jie {m : BM} {rows : List (List Int)} {ls : List Int} {k : Nat} {r : List Int} {x : Int} (hr : rows[k]? = some r) (hx : ls[k]? = some x) :
  Jby m ((rows.zip ls).drop k) = if (Xg m r x).2 ≠ 0 then (BM.none, (Xg m r x).2) else Jby (Xg m r x).1 ((rows.zip ls).drop (k + 1)) := by
 have hz : (rows.zip ls)[k]? = some (r, x) := by rw [List.getElem?_zip_eq_some]; exact ⟨hr, hx⟩
 obtain ⟨hk, he⟩ := List.getElem?_eq_some_iff.1 hz
 rw [List.drop_eq_getElem_cons hk, he]
 rfl
theorem Jf7 {m : BM} {row : List Int} {c : Int} (h : (Xg m row c).2 = 0) : Jk (Xg m row c).1 = 0 /\ (Xg m row c).1.smooth = m.smooth := by
 unfold Xg at h ⊢
 by_cases h1 : Xq m row c = 0
 ·rw [if_neg (by simp [h1])] at h ⊢
  obtain ⟨aH, mJ, dC, lM⟩ := Ye h1
  by_cases h2 : 1073741824 <= m.seen.getD c.toNat 0
  ·rw [if_pos h2] at h
   simp at h
  rw [if_neg h2]
  refine ⟨Jas aH lM.1 fun s hs => ?_, rfl⟩
  rw [List.getD_eq_getElem?_getD, hs] at h2
  simpa using h2
 rw [if_pos h1] at h
 exact absurd h h1
def Jok (n1 n2 n3 L gR g8 : Nat) (w0 : World) (m : BM) (wr : World) : Prop :=
 ∃ (AW : Option Addr) (cW gS gC : Nat) (F G H : Nat -> Prop), Blk wr g8 43 #[.bool (decide (m.smooth.num < 0)), .int .u64 (lo m.smooth.num.natAbs : Int), .string (mo m.smooth.num.natAbs), .int .u64 (lo ((qden m.smooth)) : Int), .string (mo ((qden m.smooth))), .slice AW n1 cW, .slice (some ⟨gS, 0, none⟩) n2 n2, .slice (some ⟨gC, 0, none⟩) n3 n3] /\
  OwB 3 22 65 L wr ⟨AW, n1, cW⟩ ⟨some ⟨gS, 0, none⟩, n2, n2⟩ ⟨some ⟨gC, 0, none⟩, n3, n3⟩ F G H m /\ (¬ F g8 /\ ¬ G g8 /\ ¬ H g8) /\ Blk wr gR 43 #[.bool false, .int .u64 0, .string ⟨#[]⟩, .int .u64 0, .string ⟨#[]⟩, .slice none 0 0, .slice none 0 0, .slice none 0 0] /\ Below w0.heap.size w0 wr
theorem Jkj (X1 X2 X3 : Option Addr) (n1 s1 n2 s2 n3 s3 B : Nat) (m : BM) (A4 : Option Addr) (n4 s4 : Nat) (rows : List (List Int)) (A5 : Option Addr) (n5 s5 : Nat) (ls : List Int) (w : World) (h : RdB w B ⟨X1, n1, s1⟩ ⟨X2, n2, s2⟩ ⟨X3, n3, s3⟩ m) (h4 : ReadsS ReadsI w B A4 n4 rows) (h5 : ReadsI w B A5 n5 ls) (hB : B <= w.heap.size) (hL : LenB m) (jV : n4 <= 1000) (cU : ∀ r ∈ rows, r.length <= 1000) (jY : n5 <= 1000) (hs : QS 1099511627776 m.smooth) :
  Calls Tryz.prog 34 #[.agg #[.bool (decide (m.smooth.num < 0)), .int .u64 (lo m.smooth.num.natAbs : Int), .string (mo m.smooth.num.natAbs), .int .u64 (lo ((qden m.smooth)) : Int), .string (mo ((qden m.smooth))), .slice X1 n1 s1, .slice X2 n2 s2, .slice X3 n3 s3], .slice A4 n4 s4, .slice A5 n5 s5] w fun e w' => ∃ v, e = .returned v /\ Jhk w.heap.size n1 n2 n3 (Jif m rows ls) v w' /\ Below w.heap.size w w' := by
 have bD : m.words.length = n1 := h.words.len
 have bE : m.seen.length = n2 := h.seen.len
 have cP : m.counts.length = n3 := ReadsS.len h.counts
 have cQ : rows.length = n4 := ReadsS.len h4
 have cO : ls.length = n5 := h5.len
 obtain ⟨R, hR⟩ : ∃ R, Jif m rows ls = R := ⟨_, rfl⟩
 rw [hR]
 have HR := lh hR
 clear hR
 obtain ⟨b0, b1, hB, hZ⟩ := bx2 w 43 #[.bool (decide (m.smooth.num < 0)), .int .u64 (lo m.smooth.num.natAbs : Int), .string (mo m.smooth.num.natAbs), .int .u64 (lo (qden m.smooth) : Int), .string (mo (qden m.smooth)), .slice X1 n1 s1, .slice X2 n2 s2, .slice X3 n3 s3] 43 #[.bool false, .int .u64 0, .string ⟨#[]⟩, .int .u64 0, .string ⟨#[]⟩, .slice none 0 0, .slice none 0 0, .slice none 0 0]
 go_enter Tryz.func34, Tryz.ntmps34
 go_upto_region 1 with fail
 generalize ((w.alloc (.cells #[.bool (decide (m.smooth.num < 0)), .int .u64 (lo m.smooth.num.natAbs : Int), .string (mo m.smooth.num.natAbs), .int .u64 (lo (qden m.smooth) : Int), .string (mo (qden m.smooth)), .slice X1 n1 s1, .slice X2 n2 s2, .slice X3 n3 s3] 43)).alloc (.cells #[.bool false, .int .u64 0, .string ⟨#[]⟩, .int .u64 0, .string ⟨#[]⟩, .slice none 0 0, .slice none 0 0, .slice none 0 0] 43)) = W at *
 rename B <= w.heap.size => hBB
 have HCK := lh (Zm X1 X2 X3 n1 s1 n2 s2 n3 s3 B m W (h.below (hB.mono hBB)) (nt hBB hB.size) hL hs)
 have H := lh h
 have H4 := lh h4
 have H5 := lh h5
 have HL := lh hL
 have HS := lh hs
 have HRL := lh cU
 have HW := lh (And.intro bD (And.intro bE (And.intro cP (And.intro cQ cO))))
 have HBW := lh hB
 have HBB := lh hBB
 have HZ := lh hZ.out
 obtain ⟨r, hr⟩ : ∃ r, Jk m = r := ⟨_, rfl⟩
 rw [hr] at HCK
 have HRC := lh hr
 obtain ⟨x0, x1, x2, x3, x4, x5, x6, x7⟩ := b0.c8
 clear h h4 h5 hL hs cU bD bE cP cQ cO hB hZ hBB hr
 go_wp2_with fail
 refine HCK.out.mono ?_
 rintro e w1 ⟨rfl, j6⟩
 have b0 := b0.below j6 b0.lt
 have b1 := b1.below j6 b1.lt
 have HB1 := lh (HBW.out.trans (j6.mono HBW.out.size))
 clear x0 x1 x2 x3 x4 x5 x6 x7 j6 HBW HCK
 obtain ⟨x0, x1, x2, x3, x4, x5, x6, x7⟩ := b0.c8
 have bA := show w.heap.size <= w.heap.size + 1 by omega
 generalize hgR : w.heap.size + 1 = gR at *
 have HGR := lh hgR
 have HB2 := lh b1
 have HC := lh b0
 clear b0 b1 hgR
 by_cases fF : r = 0
 case neg =>
  obtain rfl : R = (BM.none, 1) := by rw [<- HR.out]; unfold Jif; rw [if_pos (by rw [HRC.out]; exact fF)]
  have q1 : (r != 0) = true := by simp; omega
  have q2 : (r == 0) = false := by simp; omega
  go_wp2_with (refine Jr rfl _ (.tmp 6) (.tmp 16) rfl gR #[.bool false, .int .u64 0, .string ⟨#[]⟩, .int .u64 0, .string ⟨#[]⟩, .slice none 0 0, .slice none 0 0, .slice none 0 0] _ rfl rfl _ HB2.out (by kernel_rfl) rfl (by simp [Value.oneCell']) ?_; intro w7 j0 j8; have HX7 := lh j8; have HB7 := lh j0; clear j8 j0 x0 x1 x2 x3 x4 x5 x6 x7)
  obtain ⟨p0, p1, p2, p3, p4, p5, p6, p7⟩ := HB7.out.c8
  refine bodyPost_ret (v := .tuple #[.agg #[.bool false, .int .u64 0, .string ⟨#[]⟩, .int .u64 0, .string ⟨#[]⟩, .slice none 0 0, .slice none 0 0, .slice none 0 0], .int .i64 1]) (by simp [results, Tryz.results34, go_sem, p0, p1, p2, p3, p4, p5, p6, p7]) rfl ?_
  exact ⟨_, rfl, .inr ⟨by simp, rfl⟩, HB1.out.trans (HX7.out.below HB1.out.size bA)⟩
 subst fF
 by_cases dM : n4 = n5 /\ n4 <= 300
 case neg =>
  obtain rfl : R = (BM.none, 5) := by rw [<- HR.out]; unfold Jif; rw [if_neg (by rw [HRC.out]; simp), if_pos (by have := HW.out; omega)]
  have HQ : Hid (((n4 : Int) = (n5 : Int) /\ (300 : Int) < (n4 : Int)) \/ ¬ (n4 : Int) = (n5 : Int)) := lh (by omega)
  clear HR HRC
  rcases HQ.out with ⟨k1, k2⟩ | k1
  ·have q1 : ((n4 : Int) != (n5 : Int)) = false := by simp; omega
   have q2 : ((n4 : Int) == (n5 : Int)) = true := by simp; omega
   have q3 : decide ((300 : Int) < (n4 : Int)) = true := decide_eq_true k2
   clear HQ dM k1
   go_wp2_with (refine Jr rfl _ (.tmp 6) (.tmp 27) rfl gR #[.bool false, .int .u64 0, .string ⟨#[]⟩, .int .u64 0, .string ⟨#[]⟩, .slice none 0 0, .slice none 0 0, .slice none 0 0] _ rfl rfl _ HB2.out (by kernel_rfl) rfl (by simp [Value.oneCell']) ?_; intro w7 j0 j8; have HX7 := lh j8; have HB7 := lh j0; clear j8 j0 x0 x1 x2 x3 x4 x5 x6 x7)
   obtain ⟨p0, p1, p2, p3, p4, p5, p6, p7⟩ := HB7.out.c8
   refine bodyPost_ret (v := .tuple #[.agg #[.bool false, .int .u64 0, .string ⟨#[]⟩, .int .u64 0, .string ⟨#[]⟩, .slice none 0 0, .slice none 0 0, .slice none 0 0], .int .i64 5]) (by simp [results, Tryz.results34, go_sem, p0, p1, p2, p3, p4, p5, p6, p7]) rfl ?_
   exact ⟨_, rfl, .inr ⟨by simp, rfl⟩, HB1.out.trans (HX7.out.below HB1.out.size bA)⟩
  have q1 : ((n4 : Int) != (n5 : Int)) = true := by simp; omega
  have q2 : ((n4 : Int) == (n5 : Int)) = false := by simp; omega
  clear HQ dM
  go_wp2_with (refine Jr rfl _ (.tmp 6) (.tmp 27) rfl gR #[.bool false, .int .u64 0, .string ⟨#[]⟩, .int .u64 0, .string ⟨#[]⟩, .slice none 0 0, .slice none 0 0, .slice none 0 0] _ rfl rfl _ HB2.out (by kernel_rfl) rfl (by simp [Value.oneCell']) ?_; intro w7 j0 j8; have HX7 := lh j8; have HB7 := lh j0; clear j8 j0 x0 x1 x2 x3 x4 x5 x6 x7)
  obtain ⟨p0, p1, p2, p3, p4, p5, p6, p7⟩ := HB7.out.c8
  refine bodyPost_ret (v := .tuple #[.agg #[.bool false, .int .u64 0, .string ⟨#[]⟩, .int .u64 0, .string ⟨#[]⟩, .slice none 0 0, .slice none 0 0, .slice none 0 0], .int .i64 5]) (by simp [results, Tryz.results34, go_sem, p0, p1, p2, p3, p4, p5, p6, p7]) rfl ?_
  exact ⟨_, rfl, .inr ⟨by simp, rfl⟩, HB1.out.trans (HX7.out.below HB1.out.size bA)⟩
 obtain ⟨rfl, fG⟩ := dM
 have aH := HRC.out
 obtain rfl : R = Jby m (rows.zip ls) := by rw [<- HR.out]; unfold Jif; rw [if_neg (by rw [aH]; simp), if_neg (by have := HW.out; omega)]
 have hM := HB1.out.mono HBB.out
 have HMG := lh (Um 71 Jih (fun x _ => x) (fun _ => True) (fun x y w _ _ => Jit x y w) X1 X2 X3 n1 s1 n2 s2 n3 s3 X1 X2 X3 n1 s1 n2 s2 n3 s3 B m m w1 (H.out.below hM) (H.out.below hM) (nt HBB.out HB1.out.size) HL.out (Jat aH))
 rw [Jal (fun _ _ => rfl)] at HMG
 have q1 : ((n4 : Int) != (n4 : Int)) = false := by simp
 have q2 : ((n4 : Int) == (n4 : Int)) = true := by simp
 have q3 : decide ((300 : Int) < (n4 : Int)) = false := decide_eq_false (by omega)
 clear hM aH HR
 go_wp2_with fail
 refine HMG.out.mono ?_
 rintro e w2 ⟨v, rfl, ⟨AW, cW, gS, gC, F, G, H9, rfl, ho⟩, j9⟩
 have eS := HB2.out.lt
 have B2 := HB2.out.below j9 eS
 have jZ : gR < w1.heap.size := eS
 have lN := j9.size
 have fV := Js 3 zv
 have bI : ∀ k, F k -> k < w2.heap.size := fun k hk => fV.lt ho.words hk
 have kA : ∀ k, G k -> k < w2.heap.size := fun k hk => fV.lt ho.seen hk
 have kB : ∀ k, H9 k -> k < w2.heap.size := fun k hk => ho.counts.lt (Xt fV _) hk
 go_upto_region 6 with fail
 have cH : Jok n1 n2 n3 w1.heap.size gR w2.heap.size w m (w2.alloc (.cells #[.bool (decide (m.smooth.num < 0)), .int .u64 (lo m.smooth.num.natAbs : Int), .string (mo m.smooth.num.natAbs), .int .u64 (lo ((qden m.smooth)) : Int), .string (mo ((qden m.smooth))), .slice AW n1 cW, .slice (some ⟨gS, 0, none⟩) n2 n2, .slice (some ⟨gC, 0, none⟩) n3 n3] 43)) :=
  ⟨AW, cW, gS, gC, F, G, H9, Blk.new _ _ _, ho.next (Jb _ _), ⟨fun e => by have := bI _ e; omega, fun e => by have := kA _ e; omega, fun e => by have := kB _ e; omega⟩, B2.alloc _, (HB1.out.trans (j9.mono HB1.out.size)).trans ((Jb _ _).mono (nt HB1.out.size j9.size))⟩
 generalize w2.alloc (.cells #[.bool (decide (m.smooth.num < 0)), .int .u64 (lo m.smooth.num.natAbs : Int), .string (mo m.smooth.num.natAbs), .int .u64 (lo ((qden m.smooth)) : Int), .string (mo ((qden m.smooth))), .slice AW n1 cW, .slice (some ⟨gS, 0, none⟩) n2 n2, .slice (some ⟨gC, 0, none⟩) n3 n3] 43) = w3 at *
 generalize w2.heap.size = g8 at *
 have mK : gR < g8 := by omega
 have iK : w.heap.size <= g8 := by omega
 have HST := lh cH
 have HQM := HS
 have HL1 := lh (And.intro jZ HB1.out.size)
 generalize w1.heap.size = L at *
 clear cH ho j9 B2 bI kA kB fV HMG HB2 HC x0 x1 x2 x3 x4 x5 x6 x7 HB1 eS jZ lN b0 b1 HZ
 go_wp2_with fail
 go_loopw [33] (fun p wr => ∃ (k : Nat) (mk : BM), k <= n4 /\ p = .int .i64 (k : Int) /\ Hid (Jby m (rows.zip ls) = Jby mk ((rows.zip ls).drop k)) /\ Jk mk = 0 /\ QS 1099511627776 mk.smooth /\ Jok n1 n2 n3 L gR g8 w mk wr) (fun p _ => n4 - (intOf p).toNat)
 case atStart => exact ⟨0, m, by omega, rfl, lh (by rw [List.drop_zero]), HRC.out, HQM.out, HST.out⟩
 case round =>
  obtain ⟨k, mk, hk, rfl, aV, aH, aG, kC⟩ := hrel
  rename World => wr
  clear HST HRC
  by_cases dT : k < n4
  ·as_aux_lemma =>
   have k1 : (k : Int) < (n4 : Int) := by omega
   obtain ⟨AW, cW, gS, gC, F, G, H9, b8, ho, iL, bR, j7⟩ := kC
   obtain ⟨row, o0⟩ : ∃ row, rows[k]? = some row := ⟨_, List.getElem?_eq_getElem (by have := HW.out; omega)⟩
   obtain ⟨ad, A', m', c', rfl, aM, fW, dN⟩ := H4.out.at_ o0
   have fH := Qg (j7.mono HBB.out) fW aM
   obtain ⟨ad5, g5, o5, x, rfl, eM, bY, hx, b5⟩ := H5.out.spot (k := k) dT
   have b5 := b5.below (j7.mono HBB.out) bY
   have iM : row.length = m' := dN.len
   have bZ : m' <= 1000 := by have := HRL.out row (List.mem_of_getElem? o0); omega
   have bL := rkindI.more (rkindI.below dN (j7.mono HBB.out)) (nt HBB.out j7.size)
   have y9 := fun w' (hb : Below wr.heap.size wr w') => Jb3 AW (some ⟨gS, 0, none⟩) (some ⟨gC, 0, none⟩) n1 cW n2 n2 n3 n3 wr.heap.size mk A' m' c' row x w' (ho.read.below hb) (rkindI.below bL hb) hb.size (Za aH) bZ aG
   have y8 := Jie (m := mk) o0 hx
   have bM := @Jf7 mk row x
   obtain ⟨t, ht⟩ : ∃ t, Xg mk row x = t := ⟨_, rfl⟩
   rw [ht] at y8 bM y9
   obtain ⟨mt, er⟩ := t
   simp only at y8 bM
   have kD := b8.lt
   have iN := bR.lt
   have lO : L <= wr.heap.size := by
    have hG : G gS := (ho.seen.2 gS).2 rfl
    have h1 := ho.from2 gS hG
    have h2 := (Js 3 zv).lt ho.seen hG
    omega
   have HBR := lh (And.intro bR iN)
   have HB8 := lh b8
   have HBW := lh j7
   have HTE := lh y9
   clear y9 o0 hx fW dN bL ho iL bR j7 ht iM aM
   go_upto_region 9 with fail
   go_cut [11, 12] (fun v v12 wc => FitX n1 n2 n3 mt er wr v v12 wc)
   case first =>
    refine Je0 (FitR wr n1 n2 n3 mt er (.agg #[.bool (decide (mk.smooth.num < 0)), .int .u64 (lo mk.smooth.num.natAbs : Int), .string (mo mk.smooth.num.natAbs), .int .u64 (lo ((qden mk.smooth)) : Int), .string (mo ((qden mk.smooth))), .slice AW n1 cW, .slice (some ⟨gS, 0, none⟩) n2 n2, .slice (some ⟨gC, 0, none⟩) n3 n3]) (.slice A' m' c') (.slice (some ad5) n4 s5) (.int .i64 (k : Int)) (.pointer (some (ad5.add k))) (.int .i64 x)) (by kernel_rfl) (by kernel_rfl) (by kernel_rfl) ?_ ?_ [some 39, some 40, some 41, some 42, some 43, some 44, some 45, some 38, some 46, some 47, some 11, none, some 12] rfl ?_
    ·constructor <;> first | exact Jt _ | (intro h; cases h)
    ·refine ⟨⟨⟨⟨⟨⟨⟨⟨⟨⟨⟨⟨⟨trivial, ?_⟩, ?_⟩, ?_⟩, ?_⟩, ?_⟩, ?_⟩, ?_⟩, ?_⟩, ?_⟩, ?_⟩, ?_⟩, ?_⟩, ?_⟩ <;> intro d val a' w' hS hF hd hp
     ·have b8' := HB8.out.below hF.bel kD
      obtain ⟨y0, y1, y2, y3, y4, y5, y6, y7⟩ := b8'.c8
      have e8 : a'.tmps[8]?.getD undef = .pointer (some ⟨g8, 0, none⟩) := hS.arg 8
      refine Xa _ rfl rfl ?_ (show FitR _ _ _ _ _ _ _ _ _ _ _ _ _ _ _ from { hF with v0 := fun _ => rfl })
      clear hF hS hd hp
      go_simp
     ·have e8 : a'.tmps[10]?.getD undef = .slice A' m' c' := hS.arg 10
      refine Xa _ rfl rfl ?_ (show FitR _ _ _ _ _ _ _ _ _ _ _ _ _ _ _ from { hF with v1 := fun _ => rfl })
      clear hF hS hd hp
      go_simp
     ·have e8 : a'.tmps[2]?.getD undef = .slice (some ad5) n4 s5 := hS.arg 2
      refine Xa _ rfl rfl ?_ (show FitR _ _ _ _ _ _ _ _ _ _ _ _ _ _ _ from { hF with v2 := fun _ => rfl })
      clear hF hS hd hp
      go_simp
     ·have e8 : a'.tmps[9]?.getD undef = .int .i64 (k : Int) := hS.arg 9
      refine Xa _ rfl rfl ?_ (show FitR _ _ _ _ _ _ _ _ _ _ _ _ _ _ _ from { hF with v3 := fun _ => rfl })
      clear hF hS hd hp
      go_simp
     ·have e1 := hS.res 2 41 (hp 2)
      have e2 := hS.res 3 42 (hp 3)
      rw [hF.v2 (hp 2)] at e1
      rw [hF.v3 (hp 3)] at e2
      refine Xa _ rfl rfl ?_ (show FitR _ _ _ _ _ _ _ _ _ _ _ _ _ _ _ from { hF with v4 := fun _ => rfl })
      clear hF hS hd hp
      go_simp
     ·have e1 := hS.res 4 43 (hp 4)
      rw [hF.v4 (hp 4), eM] at e1
      have t7 := b5.below hF.bel (Nat.lt_of_lt_of_le bY (nt HBB.out HBW.out.size))
      have bX := t7.1
      refine Xa _ rfl rfl ?_ (show FitR _ _ _ _ _ _ _ _ _ _ _ _ _ _ _ from { hF with v5 := fun _ => rfl })
      clear hF hS hd hp
      go_simp
     ·have e1 := hS.res 0 39 (hp 0)
      have e2 := hS.res 1 40 (hp 1)
      have e3 := hS.res 5 44 (hp 5)
      rw [hF.v0 (hp 0)] at e1
      rw [hF.v1 (hp 1)] at e2
      rw [hF.v5 (hp 5)] at e3
      refine Jjm (Ψ := fun v w'' => FitR wr n1 n2 n3 mt er _ _ _ _ _ _ (upI d 6) (Jf3 val 6 v) w'') _ rfl rfl (args := #[.agg #[.bool (decide (mk.smooth.num < 0)), .int .u64 (lo mk.smooth.num.natAbs : Int), .string (mo mk.smooth.num.natAbs), .int .u64 (lo ((qden mk.smooth)) : Int), .string (mo ((qden mk.smooth))), .slice AW n1 cW, .slice (some ⟨gS, 0, none⟩) n2 n2, .slice (some ⟨gC, 0, none⟩) n3 n3], .slice A' m' c', .int .i64 x]) (w2 := w') (f := 29) ?_ ?_
      ·clear hF hS hd hp
       go_simp
      refine (HTE.out w' hF.bel).mono ?_
      rintro e w2 ⟨v, rfl, hv, j9⟩
      have aO := hF.bel.size
      obtain ⟨c0, c1, c2, c3, c4, c5, c6, c7, rfl, l6, aK⟩ := Jky hv aO
      refine ⟨_, rfl, hF.bel.trans (j9.mono aO), hF.v0, hF.v1, hF.v2, hF.v3, hF.v4, hF.v5, fun _ => ⟨c0, c1, c2, c3, c4, c5, c6, c7, rfl, l6, fun h0 => (aK h0).sub fun g hg => ?_⟩, fun h => absurd ((hF.v7 h).1) (by rw [hd]; decide), fun h => absurd ((hF.v8 h).1) (by rw [hd]; decide), fun h => absurd ((hF.v9 h).1) (by rw [hd]; decide), fun h => ?_, hF.v11, hF.v12⟩
      ·obtain ⟨g', z0, z1, z2, z3, z4, z5, z6, z7, e11, o9, aF, -⟩ := hF.v10 hg.1
       rw [<- Ji1 (e11.symm.trans hg.2)]
       exact aF.lt
      obtain ⟨g', z0, z1, z2, z3, z4, z5, z6, z7, e11, o9, aF, cZ⟩ := hF.v10 h
      exact ⟨g', z0, z1, z2, z3, z4, z5, z6, z7, e11, o9, aF.below j9 aF.lt, cZ⟩
     ·have e1 := hS.res 6 45 (hp 6)
      have h6 := hp 6
      refine Xa (v := val 6) _ rfl rfl ?_ (show FitR _ _ _ _ _ _ _ _ _ _ _ _ _ _ _ from { hF with v7 := fun _ => ⟨h6, rfl⟩ })
      clear hF hS hd hp
      go_simp
     ·have e1 := hS.res 7 38 (hp 7)
      obtain ⟨h6, h7⟩ := hF.v7 (hp 7)
      obtain ⟨c0, c1, c2, c3, c4, c5, c6, c7, e6, -⟩ := hF.v6 h6
      rw [h7, e6] at e1
      refine Xa (v := .agg #[c0, c1, c2, c3, c4, c5, c6, c7]) _ rfl rfl ?_ (show FitR _ _ _ _ _ _ _ _ _ _ _ _ _ _ _ from { hF with v8 := fun _ => ⟨h6, fun u y (e : val 6 = _) => by rw [e6] at e; injection e with e; exact (Joh e).1⟩, v10 := fun h => (hF.v10 h).imp fun g h => h.imp fun y0 h => h.imp fun y1 h => h.imp fun y2 h => h.imp fun y3 h => h.imp fun y4 h => h.imp fun y5 h => h.imp fun y6 h => h.imp fun y7 h => ⟨h.1, h.2.1, h.2.2.1, fun h' => absurd (h.2.2.2 h').1 (by rw [hd]; decide)⟩ })
      clear hF hS hd hp
      go_simp
     ·have e1 := hS.res 7 38 (hp 7)
      obtain ⟨h6, h7⟩ := hF.v7 (hp 7)
      obtain ⟨c0, c1, c2, c3, c4, c5, c6, c7, e6, -⟩ := hF.v6 h6
      rw [h7, e6] at e1
      refine Xa (v := .int .i64 er) _ rfl rfl ?_ (show FitR _ _ _ _ _ _ _ _ _ _ _ _ _ _ _ from { hF with v9 := fun _ => ⟨h6, fun u y (e : val 6 = _) => by rw [e6] at e; injection e with e; exact (Joh e).2⟩, v12 := fun h => absurd ((hF.v12 h).1) (by rw [hd]; decide) })
      clear hF hS hd hp
      go_simp
     ·have aO := hF.bel.size
      refine Xa (v := .pointer (some ⟨w'.heap.size, 0, none⟩)) (w2 := w'.alloc (.cells #[.bool false, .int .u64 0, .string ⟨#[]⟩, .int .u64 0, .string ⟨#[]⟩, .slice none 0 0, .slice none 0 0, .slice none 0 0] 43)) _ rfl rfl ?_ (show FitR _ _ _ _ _ _ _ _ _ _ _ _ _ _ _ from { hF with bel := Ja hF.bel (Jb _ _), v6 := fun h => ?_, v10 := fun _ => ⟨_, _, _, _, _, _, _, _, _, rfl, aO, Blk.new _ _ _, fun h => absurd (hF.v11 h) (by rw [hd]; decide)⟩, v11 := fun _ => rfl })
      ·clear hF hS hd hp
       go_simp
      obtain ⟨c0, c1, c2, c3, c4, c5, c6, c7, e6, l6, aK⟩ := hF.v6 h
      exact ⟨c0, c1, c2, c3, c4, c5, c6, c7, e6, l6, fun h0 => (aK h0).next (Jb _ _) fun g hg => .inr (by rw [<- Ji1 (show Value.pointer (some ⟨w'.heap.size, 0, none⟩) = .pointer (some ⟨g, 0, none⟩) from hg.2)]; exact Nat.le_refl _)⟩
     ·obtain ⟨h6, h8⟩ := hF.v8 (hp 8)
      have t8 := hp 10
      obtain ⟨g', z0, z1, z2, z3, z4, z5, z6, z7, e11, o9, aF, -⟩ := hF.v10 t8
      obtain ⟨c0, c1, c2, c3, c4, c5, c6, c7, e6, l6, aK⟩ := hF.v6 h6
      have e8 := h8 _ _ e6
      exact Jde _ rfl rfl _ _ _ rfl rfl g' #[c0, c1, c2, c3, c4, c5, c6, c7] _ ((hS.got 10 11 t8 rfl (Nat.le_of_ble_eq_true (by kernel_rfl))).trans e11) ((hS.got 8 46 (hp 8) rfl (Nat.le_of_ble_eq_true (by kernel_rfl))).trans e8) _ aF (by kernel_rfl) rfl l6 fun w2 j9 cL => show FitR _ _ _ _ _ _ _ _ _ _ _ _ _ _ _ from { hF with bel := hF.bel.trans (cL.below hF.bel.size o9), v6 := fun h => ⟨c0, c1, c2, c3, c4, c5, c6, c7, e6, l6, fun h0 => (aK h0).exc cL ⟨t8, e11⟩⟩, v10 := fun _ => ⟨g', _, _, _, _, _, _, _, _, e11, o9, j9, fun _ => ⟨hp 8, e8⟩⟩, v11 := fun _ => t8 }
     ·have e1 := hS.res 9 47 (hp 9)
      have h9 := hp 9
      refine Xa (v := val 9) _ rfl rfl ?_ (show FitR _ _ _ _ _ _ _ _ _ _ _ _ _ _ _ from { hF with v12 := fun _ => ⟨h9, rfl⟩ })
      clear hF hS hd hp
      go_simp
    intro d val w' hF hd
    simp only [Exit.then, Jd7, Act.put, List.setIfInBounds_toArray, List.set_cons_succ, List.set_cons_zero]
    refine ‹∀ a' w', Met _ a' w' -> _› _ _ ?_
    go_meet
    have k6 := hd 6 (by decide)
    obtain ⟨c0, c1, c2, c3, c4, c5, c6, c7, e6, l6, aK⟩ := hF.v6 k6
    have e9 := (hF.v9 (hd 9 (by decide))).2 _ _ e6
    obtain ⟨g', z0, z1, z2, z3, z4, z5, z6, z7, e11, o9, aF, lP⟩ := hF.v10 (hd 10 (by decide))
    refine ⟨(hF.v12 (hd 12 (by decide))).2.trans e9, hF.bel, fun h0 => ?_⟩
    obtain ⟨AW1, cW1, gS1, gC1, F1, G1, H1, e0, bU, -⟩ := aK h0
    have e8 := ((lP (hd 11 (by decide))).2.symm.trans ((hF.v8 (hd 8 (by decide))).2 _ _ e6)).trans e0
    injection e8 with e8
    rw [e8] at aF
    exact ⟨g', AW1, cW1, gS1, gC1, F1, G1, H1, e11, rfl, aF, bU, hF.bel⟩
   case rest =>
    obtain ⟨rfl, j6, dO⟩ := hcut
    rename World => wc
    by_cases dP : er = 0
    ·subst dP
     obtain ⟨aY, aT⟩ := bM rfl
     rw [if_neg (by simp)] at y8
     have HF2 := lh (aV.out.trans y8)
     have HCQ := lh (And.intro aY (show QS 1099511627776 mt.smooth by rw [aT]; exact aG))
     obtain ⟨g11, AW1, cW1, gS1, gC1, F1, G1, H1, rfl, -, b11, bU, -⟩ := dO rfl
     clear y8 bM aV aY aT aH aG dO
     obtain ⟨y0, y1, y2, y3, y4, y5, y6, y7⟩ := b11.c8
     have B8 := lh (HB8.out.below j6 kD)
     have BR := lh (HBR.out.1.below j6 HBR.out.2)
     have HX := lh (show ¬ F1 g8 /\ ¬ G1 g8 /\ ¬ H1 g8 from ⟨fun e => by have := bU.from1 _ e; omega, fun e => by have := bU.from2 _ e; omega, fun e => by have := bU.from3 _ e; omega⟩)
     have HO1 := lh (bU.low (show L <= wr.heap.size from lO))
     have HB1 := lh (HBW.out.trans (j6.mono HBW.out.size))
     clear b11 bU j6 HBR HB8 HBW HTE b8 b5 fH
     go_wp2_with (refine Jr rfl _ (.tmp 8) (.tmp 52) rfl g8 #[.bool (decide (mt.smooth.num < 0)), .int .u64 (lo mt.smooth.num.natAbs : Int), .string (mo mt.smooth.num.natAbs), .int .u64 (lo ((qden mt.smooth)) : Int), .string (mo ((qden mt.smooth))), .slice AW1 n1 cW1, .slice (some ⟨gS1, 0, none⟩) n2 n2, .slice (some ⟨gC1, 0, none⟩) n3 n3] _ rfl rfl _ B8.out (by kernel_rfl) rfl (by simp [Value.oneCell']) ?_; intro w7 j0 j8; have HX7 := lh j8; have HB7 := lh j0; clear j8 j0 y0 y1 y2 y3 y4 y5 y6 y7)
     exact ⟨⟨k + 1, mt, by omega, by go_num, HF2, HCQ.out.1, HCQ.out.2, AW1, cW1, gS1, gC1, F1, G1, H1, HB7.out, HO1.out.exc HX7.out HX.out.1 HX.out.2.1 HX.out.2.2, HX.out, BR.out.exc HX7.out (by omega), HB1.out.trans (HX7.out.below HB1.out.size iK)⟩, by simp [intOf]; omega⟩
    rw [if_pos dP] at y8
    have HF2 := lh (aV.out.trans y8)
    clear y8 bM aV aH aG dO
    have q1 : (er != 0) = true := by simp; omega
    have q2 : (er == 0) = false := by simp; omega
    have BR := lh (HBR.out.1.below j6 HBR.out.2)
    have HB1 := lh (HBW.out.trans (j6.mono HBW.out.size))
    clear j6 HBR HB8 HBW HTE b8 b5 fH
    go_wp2_with (refine Jr rfl _ (.tmp 6) (.tmp 50) rfl gR #[.bool false, .int .u64 0, .string ⟨#[]⟩, .int .u64 0, .string ⟨#[]⟩, .slice none 0 0, .slice none 0 0, .slice none 0 0] _ rfl rfl _ BR.out (by kernel_rfl) rfl (by simp [Value.oneCell']) ?_; intro w7 j0 j8; have HX7 := lh j8; have HB7 := lh j0; clear j8 j0)
    obtain ⟨p0, p1, p2, p3, p4, p5, p6, p7⟩ := HB7.out.c8
    refine bodyPost_ret (v := .tuple #[.agg #[.bool false, .int .u64 0, .string ⟨#[]⟩, .int .u64 0, .string ⟨#[]⟩, .slice none 0 0, .slice none 0 0, .slice none 0 0], .int .i64 er]) (by simp [results, Tryz.results34, go_sem, p0, p1, p2, p3, p4, p5, p6, p7]) rfl ?_
    rw [HF2.out]
    exact ⟨_, rfl, .inr ⟨dP, rfl⟩, HB1.out.trans (HX7.out.below HB1.out.size bA)⟩
  as_aux_lemma =>
  obtain rfl : k = n4 := by omega
  have k1 : ¬ (k : Int) < (k : Int) := by omega
  obtain ⟨AW, cW, gS, gC, F, G, H9, b8, ho, iL, bR, j7⟩ := kC
  have bN : (rows.zip ls).drop k = [] := List.drop_eq_nil_of_le (by rw [List.length_zip]; have := HW.out; omega)
  have bW := aV.out
  rw [bN] at bW
  have HF2 : Hid (Jby m (rows.zip ls) = (mk, 0)) := lh bW
  have HX : Hid (¬ F gR /\ ¬ G gR /\ ¬ H9 gR) := lh ⟨fun e => by have := ho.from1 _ e; have := HL1.out; omega, fun e => by have := ho.from2 _ e; have := HL1.out; omega, fun e => by have := ho.from3 _ e; have := HL1.out; omega⟩
  have HO := lh (ho.low HL1.out.2)
  have BR := lh bR
  have HBW := lh j7
  obtain ⟨y0, y1, y2, y3, y4, y5, y6, y7⟩ := b8.c8
  clear ho bR j7 bN bW aV aH aG iL b8
  go_wp2_with (refine Jr rfl _ (.tmp 6) (.tmp 54) rfl gR #[.bool (decide (mk.smooth.num < 0)), .int .u64 (lo mk.smooth.num.natAbs : Int), .string (mo mk.smooth.num.natAbs), .int .u64 (lo ((qden mk.smooth)) : Int), .string (mo ((qden mk.smooth))), .slice AW n1 cW, .slice (some ⟨gS, 0, none⟩) n2 n2, .slice (some ⟨gC, 0, none⟩) n3 n3] _ rfl rfl _ BR.out (by kernel_rfl) rfl (by simp [Value.oneCell']) ?_; intro w7 j0 j8; have HX7 := lh j8; have HB7 := lh j0; clear j8 j0 y0 y1 y2 y3 y4 y5 y6 y7)
  obtain ⟨p0, p1, p2, p3, p4, p5, p6, p7⟩ := HB7.out.c8
  refine bodyPost_ret (v := .tuple #[.agg #[.bool (decide (mk.smooth.num < 0)), .int .u64 (lo mk.smooth.num.natAbs : Int), .string (mo mk.smooth.num.natAbs), .int .u64 (lo ((qden mk.smooth)) : Int), .string (mo ((qden mk.smooth))), .slice AW n1 cW, .slice (some ⟨gS, 0, none⟩) n2 n2, .slice (some ⟨gC, 0, none⟩) n3 n3], .int .i64 0]) (by simp [results, Tryz.results34, go_sem, p0, p1, p2, p3, p4, p5, p6, p7]) rfl ?_
  rw [HF2.out]
  exact ⟨_, rfl, .inl ⟨rfl, _, rfl, AW, cW, gS, gC, F, G, H9, rfl, HO.out.exc HX7.out HX.out.1 HX.out.2.1 HX.out.2.2⟩, HBW.out.trans (HX7.out.below HBW.out.size bA)⟩
def RdY (a b : Nat) (m : BM) (W S C : SW) (w : World) : Prop := ∀ w', Below a w w' -> (∀ k, b <= k -> k < w.heap.size -> w'.heap[k]? = w.heap[k]?) -> RdB w' w'.heap.size W S C m
theorem RdY.next {a b : Nat} {m : BM} {W S C : SW} {w w2 : World} (h : RdY a b m W S C w) (hb : Below a w w2) (hk : ∀ k, b <= k -> k < w.heap.size -> w2.heap[k]? = w.heap[k]?) : RdY a b m W S C w2 := fun w' fP cI => h w' (hb.trans fP) fun k h1 h2 => (cI k h1 (Nat.lt_of_lt_of_le h2 hb.size)).trans (hk k h1 h2)
theorem RdY.bel {a b : Nat} {m : BM} {W S C : SW} {w w2 : World} (h : RdY a b m W S C w) (hb : Below w.heap.size w w2) (ha : a <= w.heap.size) : RdY a b m W S C w2 := h.next (hb.mono ha) fun k _ h2 => hb.block k h2
theorem RdY.exc {a b g : Nat} {m : BM} {W S C : SW} {w w2 : World} (h : RdY a b m W S C w) (hx : Exc g w w2) (ha : a <= w.heap.size) (h1 : a <= g) (h2 : g < b) : RdY a b m W S C w2 := h.next (hx.below ha h1) fun k h3 h4 => hx.block k h4 (by omega)
theorem Jv7 {a b L : Nat} {D : BM} {W S C : SW} {G H : Nat -> Prop} {w : World} (hs : NRow 3 zv w G S.v D.seen) (hc : Nest 65 (Nest 22 (NRow 3 zv)) w H C.v D.counts) (h1 : ∀ k, G k -> L <= k /\ ¬ H k) (h2 : ∀ k, H k -> L <= k) (hL : b <= L) (hw : ∀ w', Below a w w' -> (∀ k, b <= k -> k < w.heap.size -> w'.heap[k]? = w.heap[k]?) -> ReadsI w' w'.heap.size W.A W.n D.words) : RdY a b D W S C w := fun w' hb hk => by
 have hr := Js 3 zv
 exact ⟨hw w' hb hk, NRow.readsI (hr.loc hs hb.size fun k h => hk k (nt hL (h1 k h).1) (hr.lt hs h)), Nest.reads (fun hq => Nest.reads (fun hr => NRow.readsI hr) hq) (hc.loc (Xt hr _) hb.size fun k h => hk k (nt hL (h2 k h)) (hc.lt (Xt hr _) h))⟩
theorem Jv0 {m : BM} {q : List Int} {cl : Int} (h : (Xg m q cl).2 = 0) : (Xg m q cl).1.words = m.words := by
 unfold Xg at h ⊢
 split at h
 ·rename_i h1
  exact absurd h h1
 rename_i h1
 rw [if_neg h1]
 split at h
 ·cases h
 rename_i h2
 rw [if_neg h2]
 rfl
theorem Jv4 {L : Nat} {x0 x1 x2 xw : Value} {r : BM × Int} {v : Value} {w : World} (h : Jq7 L x0 x1 x2 xw r v w) (h1 : #[x0, x1, x2, xw].all (·.oneCell') = true) : ∃ c0 c1 c2 c3 c4 c5, v = .tuple #[.agg #[c0, c1, c2, c3, c4, c5], .int .i64 r.2] /\ (#[c0, c1, c2, c3, c4, c5].all (·.oneCell') = true) /\ (r.2 = 0 -> Jq3 L x0 x1 x2 xw r.1 (.agg #[c0, c1, c2, c3, c4, c5]) w) := by
 rcases h with ⟨h0, u, rfl, S, C, G, H, rfl, hs, hc, hg, hh⟩ | ⟨h0, rfl⟩
 ·refine ⟨_, _, _, _, _, _, by rw [h0], ?_, fun _ => ⟨S, C, G, H, rfl, hs, hc, hg, hh⟩⟩
  simp at h1
  simp [h1.1, h1.2.1, h1.2.2.1, h1.2.2.2, SW.v, show ∀ A n c, Value.oneCell' (.slice A n c) = true from fun _ _ _ => rfl]
 exact ⟨_, _, _, _, _, _, rfl, by simp [Value.oneCell'], fun e => absurd e h0⟩
structure FdR (W : World) (x0 x1 x2 xw : Value) (D : BM) (f : Int) (FX : Nat -> Option Value) (d : Nat -> Bool) (val : Nat -> Value) (w : World) : Prop where
 bel : Below W.heap.size W w
 fx : Fixed FX d val
 v9 : d 9 = true -> ∃ c0 c1 c2 c3 c4 c5, val 9 = .tuple #[.agg #[c0, c1, c2, c3, c4, c5], .int .i64 f] /\ (#[c0, c1, c2, c3, c4, c5].all (·.oneCell') = true) /\ (f = 0 -> DrM W.heap.size x0 x1 x2 xw D (.agg #[c0, c1, c2, c3, c4, c5]) w fun g => d 13 = true /\ val 13 = .pointer (some ⟨g, 0, none⟩))
 v10 : d 10 = true -> d 9 = true /\ val 10 = val 9
 v11 : d 11 = true -> d 9 = true /\ ∀ u y, val 9 = .tuple #[u, y] -> val 11 = u
 v12 : d 12 = true -> d 9 = true /\ ∀ u y, val 9 = .tuple #[u, y] -> val 12 = y
 v13 : d 13 = true -> ∃ g y0 y1 y2 y3 y4 y5, val 13 = .pointer (some ⟨g, 0, none⟩) /\ W.heap.size <= g /\ Blk w g 31 #[y0, y1, y2, y3, y4, y5] /\ (d 14 = true -> d 11 = true /\ val 11 = .agg #[y0, y1, y2, y3, y4, y5])
 v14 : d 14 = true -> d 13 = true
 v15 : d 15 = true -> d 12 = true /\ val 15 = val 12
theorem FdR.next {W w w' : World} {x0 x1 x2 xw : Value} {D : BM} {f : Int} {FX : Nat -> Option Value} {d : Nat -> Bool} {val : Nat -> Value} (h : FdR W x0 x1 x2 xw D f FX d val w) (hb : Below w.heap.size w w') : FdR W x0 x1 x2 xw D f FX d val w' where
 bel := h.bel.trans (hb.mono h.bel.size)
 fx := h.fx
 v9 := fun h1 => by
  obtain ⟨c0, c1, c2, c3, c4, c5, e, ho, hm⟩ := h.v9 h1
  exact ⟨c0, c1, c2, c3, c4, c5, e, ho, fun h0 => (hm h0).next hb fun g hg => .inl hg⟩
 v10 := h.v10
 v11 := h.v11
 v12 := h.v12
 v13 := fun h1 => by
  obtain ⟨g, y0, y1, y2, y3, y4, y5, e, hg, hk, h2⟩ := h.v13 h1
  exact ⟨g, y0, y1, y2, y3, y4, y5, e, hg, hk.below hb hk.lt, h2⟩
 v14 := h.v14
 v15 := h.v15
def FdC (W : World) (x0 x1 x2 xw : Value) (D : BM) (f : Int) (v u : Value) (w : World) : Prop := ∃ g c0 c1 c2 c3 c4 c5, v = .pointer (some ⟨g, 0, none⟩) /\ u = .int .i64 f /\ W.heap.size <= g /\ Blk w g 31 #[c0, c1, c2, c3, c4, c5] /\ (f = 0 -> ∃ (S C : SW) (G H : Nat -> Prop), #[c0, c1, c2, c3, c4, c5] = #[x0, x1, x2, xw, S.v, C.v] /\ NRow 3 zv w G S.v D.seen /\ Nest 65 (Nest 22 (NRow 3 zv)) w H C.v D.counts /\ (∀ k, G k -> W.heap.size <= k /\ ¬ H k) /\ (∀ k, H k -> W.heap.size <= k)) /\ Below W.heap.size W w
theorem FdR.end_ {W w : World} {x0 x1 x2 xw : Value} {D : BM} {f : Int} {FX : Nat -> Option Value} {d : Nat -> Bool} {val : Nat -> Value} (hF : FdR W x0 x1 x2 xw D f FX d val w) (hd : ∀ i, i < 16 -> d i = true) : FdC W x0 x1 x2 xw D f (val 13) (val 15) w := by
 obtain ⟨c0, c1, c2, c3, c4, c5, e9, -, hm⟩ := hF.v9 (hd 9 (by decide))
 obtain ⟨g, y0, y1, y2, y3, y4, y5, e13, hg, hk, lQ⟩ := hF.v13 (hd 13 (by decide))
 have e8 := (lQ (hd 14 (by decide))).2.symm.trans ((hF.v11 (hd 11 (by decide))).2 _ _ e9)
 injection e8 with e8
 rw [e8] at hk
 refine ⟨g, c0, c1, c2, c3, c4, c5, e13, (hF.v15 (hd 15 (by decide))).2.trans ((hF.v12 (hd 12 (by decide))).2 _ _ e9), hg, hk, fun h0 => ?_, hF.bel⟩
 obtain ⟨S, C, G, H, e0, hs, hc, h1, h2, -⟩ := hm h0
 injection e0 with e0
 exact ⟨S, C, G, H, e0, hs, hc, h1, h2⟩
def FdL (w0 : World) (gR : Nat) (x0 x1 x2 : Value) (W : SW) (m : BM) (wr : World) : Prop := ∃ S C : SW, Blk wr w0.heap.size 31 #[x0, x1, x2, W.v, S.v, C.v] /\ RdY w0.heap.size (gR + 1) m W S C wr /\ Blk wr gR 31 #[.bool false, .slice none 0 0, .slice none 0 0, .slice none 0 0, .slice none 0 0, .slice none 0 0] /\ Below w0.heap.size w0 wr
def RetF (x0 x1 x2 : Value) (W : SW) (r : BM × Int) (v : Value) (w : World) : Prop :=
 (r.2 = 0 /\ ∃ S C : SW, v = .tuple #[.agg #[x0, x1, x2, W.v, S.v, C.v], .int .i64 0] /\ RdB w w.heap.size W S C r.1) \/ (r.2 ≠ 0 /\ v = .tuple #[.agg #[.bool false, .slice none 0 0, .slice none 0 0, .slice none 0 0, .slice none 0 0, .slice none 0 0], .int .i64 r.2])
theorem RetF.ok {x0 x1 x2 : Value} {W S C : SW} {r : BM × Int} {w : World} (h0 : r.2 = 0) (h : RdB w w.heap.size W S C r.1) : RetF x0 x1 x2 W r (.tuple #[.agg #[x0, x1, x2, W.v, S.v, C.v], .int .i64 0]) w := .inl ⟨h0, S, C, rfl, h⟩
theorem Jv5 (ng : Bool) (A7 A8 : Option Addr) (l7 d7 l8 d8 : Nat) (X1 X2 X3 : Option Addr) (n1 s1 n2 s2 n3 s3 B : Nat) (m : BM) (A4 : Option Addr) (n4 s4 : Nat) (rows : List (List Int)) (A5 : Option Addr) (n5 s5 : Nat) (ls : List Int) (w : World) (h : RdB w B ⟨X1, n1, s1⟩ ⟨X2, n2, s2⟩ ⟨X3, n3, s3⟩ m) (hq : IsQ w B (.agg #[.bool ng, .slice A7 l7 d7, .slice A8 l8 d8]) m.smooth) (h4 : ReadsS ReadsI w B A4 n4 rows) (h5 : ReadsI w B A5 n5 ls) (hB : B <= w.heap.size) (hL : LenB m) (jV : n4 <= 1000) (cU : ∀ r ∈ rows, r.length <= 1000) (jY : n5 <= 1000) :
  Calls Tryz.prog 35 #[.agg #[.bool ng, .slice A7 l7 d7, .slice A8 l8 d8, .slice X1 n1 s1, .slice X2 n2 s2, .slice X3 n3 s3], .slice A4 n4 s4, .slice A5 n5 s5] w fun e w' => ∃ v, e = .returned v /\ RetF (.bool ng) (.slice A7 l7 d7) (.slice A8 l8 d8) ⟨X1, n1, s1⟩ (Jif m rows ls) v w' /\ Below w.heap.size w w' := by
 have bD : m.words.length = n1 := h.words.len
 have cQ : rows.length = n4 := ReadsS.len h4
 have cO : ls.length = n5 := h5.len
 obtain ⟨R, hR⟩ : ∃ R, Jif m rows ls = R := ⟨_, rfl⟩
 rw [hR]
 have HR := lh hR
 clear hR
 obtain ⟨b0, b1, hB, hZ⟩ := bx2 w 31 #[.bool ng, .slice A7 l7 d7, .slice A8 l8 d8, .slice X1 n1 s1, .slice X2 n2 s2, .slice X3 n3 s3] 31 #[.bool false, .slice none 0 0, .slice none 0 0, .slice none 0 0, .slice none 0 0, .slice none 0 0]
 go_enter Tryz.func35, Tryz.ntmps35
 go_upto_region 1 with fail
 generalize ((w.alloc (.cells #[.bool ng, .slice A7 l7 d7, .slice A8 l8 d8, .slice X1 n1 s1, .slice X2 n2 s2, .slice X3 n3 s3] 31)).alloc (.cells #[.bool false, .slice none 0 0, .slice none 0 0, .slice none 0 0, .slice none 0 0, .slice none 0 0] 31)) = W at *
 rename B <= w.heap.size => hBB
 have HCK := lh (Jp2 ng A7 A8 l7 d7 l8 d8 X1 X2 X3 n1 s1 n2 s2 n3 s3 B m W (h.below (hB.mono hBB)) (hq.below (hB.mono hBB)) (nt hBB hB.size) hL)
 have H := lh h
 have HQ := lh hq
 have H4 := lh h4
 have H5 := lh h5
 have HRL := lh cU
 have HW := lh (And.intro bD (And.intro cQ cO))
 have HBW := lh hB
 have HBB := lh hBB
 obtain ⟨r, hr⟩ : ∃ r, Jk m = r := ⟨_, rfl⟩
 rw [hr] at HCK
 have HRC := lh hr
 obtain ⟨x0, x1, x2, x3, x4, x5⟩ := b0.c6
 clear h hq h4 h5 hL cU bD cQ cO hB hZ hBB hr
 go_wp2_with fail
 refine HCK.out.mono ?_
 rintro e w1 ⟨rfl, j6⟩
 have b0 := b0.below j6 b0.lt
 have b1 := b1.below j6 b1.lt
 have HB1 := lh (HBW.out.trans (j6.mono HBW.out.size))
 clear x0 x1 x2 x3 x4 x5 j6 HBW HCK
 have bA := show w.heap.size <= w.heap.size + 1 by omega
 generalize hgR : w.heap.size + 1 = gR at *
 have HGR := lh hgR
 have HB2 := lh b1
 have HC := lh b0
 clear b0 b1 hgR
 by_cases fF : r = 0
 case neg =>
  obtain rfl : R = (BM.none, 1) := by rw [<- HR.out]; unfold Jif; rw [if_pos (by rw [HRC.out]; exact fF)]
  have q1 : (r != 0) = true := by simp; omega
  have q2 : (r == 0) = false := by simp; omega
  go_wp2_with (refine Jr rfl _ (.tmp 6) (.tmp 14) rfl gR #[.bool false, .slice none 0 0, .slice none 0 0, .slice none 0 0, .slice none 0 0, .slice none 0 0] _ rfl rfl _ HB2.out (by kernel_rfl) rfl (by simp [Value.oneCell']) ?_; intro w7 j0 j8; have HX7 := lh j8; have HB7 := lh j0; clear j8 j0)
  obtain ⟨p0, p1, p2, p3, p4, p5⟩ := HB7.out.c6
  refine bodyPost_ret (v := .tuple #[.agg #[.bool false, .slice none 0 0, .slice none 0 0, .slice none 0 0, .slice none 0 0, .slice none 0 0], .int .i64 1]) (by simp [results, Tryz.results35, go_sem, p0, p1, p2, p3, p4, p5]) rfl ?_
  exact ⟨_, rfl, .inr ⟨by simp, rfl⟩, HB1.out.trans (HX7.out.below HB1.out.size bA)⟩
 subst fF
 by_cases dM : n4 = n5 /\ n4 <= 300
 case neg =>
  obtain rfl : R = (BM.none, 5) := by rw [<- HR.out]; unfold Jif; rw [if_neg (by rw [HRC.out]; simp), if_pos (by have := HW.out; omega)]
  have HQ9 : Hid (((n4 : Int) = (n5 : Int) /\ (300 : Int) < (n4 : Int)) \/ ¬ (n4 : Int) = (n5 : Int)) := lh (by omega)
  clear HR HRC
  rcases HQ9.out with ⟨k1, k2⟩ | k1
  ·have q1 : ((n4 : Int) != (n5 : Int)) = false := by simp; omega
   have q2 : ((n4 : Int) == (n5 : Int)) = true := by simp; omega
   have q3 : decide ((300 : Int) < (n4 : Int)) = true := decide_eq_true k2
   clear HQ9 dM k1
   go_wp2_with (refine Jr rfl _ (.tmp 6) (.tmp 25) rfl gR #[.bool false, .slice none 0 0, .slice none 0 0, .slice none 0 0, .slice none 0 0, .slice none 0 0] _ rfl rfl _ HB2.out (by kernel_rfl) rfl (by simp [Value.oneCell']) ?_; intro w7 j0 j8; have HX7 := lh j8; have HB7 := lh j0; clear j8 j0)
   obtain ⟨p0, p1, p2, p3, p4, p5⟩ := HB7.out.c6
   refine bodyPost_ret (v := .tuple #[.agg #[.bool false, .slice none 0 0, .slice none 0 0, .slice none 0 0, .slice none 0 0, .slice none 0 0], .int .i64 5]) (by simp [results, Tryz.results35, go_sem, p0, p1, p2, p3, p4, p5]) rfl ?_
   exact ⟨_, rfl, .inr ⟨by simp, rfl⟩, HB1.out.trans (HX7.out.below HB1.out.size bA)⟩
  have q1 : ((n4 : Int) != (n5 : Int)) = true := by simp; omega
  have q2 : ((n4 : Int) == (n5 : Int)) = false := by simp; omega
  clear HQ9 dM
  go_wp2_with (refine Jr rfl _ (.tmp 6) (.tmp 25) rfl gR #[.bool false, .slice none 0 0, .slice none 0 0, .slice none 0 0, .slice none 0 0, .slice none 0 0] _ rfl rfl _ HB2.out (by kernel_rfl) rfl (by simp [Value.oneCell']) ?_; intro w7 j0 j8; have HX7 := lh j8; have HB7 := lh j0; clear j8 j0)
  obtain ⟨p0, p1, p2, p3, p4, p5⟩ := HB7.out.c6
  refine bodyPost_ret (v := .tuple #[.agg #[.bool false, .slice none 0 0, .slice none 0 0, .slice none 0 0, .slice none 0 0, .slice none 0 0], .int .i64 5]) (by simp [results, Tryz.results35, go_sem, p0, p1, p2, p3, p4, p5]) rfl ?_
  exact ⟨_, rfl, .inr ⟨by simp, rfl⟩, HB1.out.trans (HX7.out.below HB1.out.size bA)⟩
 obtain ⟨rfl, fG⟩ := dM
 have aH := HRC.out
 obtain rfl : R = Jby m (rows.zip ls) := by rw [<- HR.out]; unfold Jif; rw [if_neg (by rw [aH]; simp), if_neg (by have := HW.out; omega)]
 have q1 : ((n4 : Int) != (n4 : Int)) = false := by simp
 have q2 : ((n4 : Int) == (n4 : Int)) = true := by simp
 have q3 : decide ((300 : Int) < (n4 : Int)) = false := decide_eq_false (by omega)
 have HST : Hid (FdL w gR (.bool ng) (.slice A7 l7 d7) (.slice A8 l8 d8) ⟨X1, n1, s1⟩ m w1) := lh ⟨⟨X2, n2, s2⟩, ⟨X3, n3, s3⟩, HC.out, fun w' hb hk => ((H.out.below ((HB1.out.trans hb).mono HBB.out)).more (nt HBB.out (nt HB1.out.size hb.size))), HB2.out, HB1.out⟩
 clear aH HR HC HB2
 go_wp2_with fail
 go_loopw [8] (fun p wr => ∃ (k : Nat) (mk : BM), k <= n4 /\ p = .int .i64 (k : Int) /\ Hid (Jby m (rows.zip ls) = Jby mk ((rows.zip ls).drop k)) /\ Jk mk = 0 /\ mk.smooth = m.smooth /\ FdL w gR (.bool ng) (.slice A7 l7 d7) (.slice A8 l8 d8) ⟨X1, n1, s1⟩ mk wr) (fun p _ => n4 - (intOf p).toNat)
 case atStart => exact ⟨0, m, by omega, rfl, lh (by rw [List.drop_zero]), HRC.out, rfl, HST.out⟩
 case round =>
  obtain ⟨k, mk, hk, rfl, aV, aH, aG, ⟨A2, t2, r2⟩, ⟨A3, t3, r3⟩, b0, kE, b1, j7⟩ := hrel
  rename World => wr
  simp only [SW.v] at b0
  clear HST HRC
  have HBW := lh j7
  have HRY := lh kE
  have HB2 := lh b1
  have HC := lh b0
  have aP := b0.lt
  have iN := b1.lt
  clear j7 kE b1
  by_cases dT : k < n4
  ·as_aux_lemma =>
   have k1 : (k : Int) < (n4 : Int) := by omega
   obtain ⟨row, o0⟩ : ∃ row, rows[k]? = some row := ⟨_, List.getElem?_eq_getElem (by have := HW.out; omega)⟩
   obtain ⟨ad, A', m', c', rfl, aM, fW, dN⟩ := H4.out.at_ o0
   obtain ⟨ad5, g5, o5, x, rfl, eM, bY, hx, b5⟩ := H5.out.spot (k := k) dT
   have iM : row.length = m' := dN.len
   have bZ : m' <= 1000 := by have := HRL.out row (List.mem_of_getElem? o0); omega
   have bL := rkindI.more (rkindI.below dN (HBW.out.mono HBB.out)) (nt HBB.out HBW.out.size)
   have y9 := fun w' (hb : Below wr.heap.size wr w') => Jp3 ng A7 A8 l7 d7 l8 d8 X1 A2 A3 n1 s1 t2 r2 t3 r3 w'.heap.size mk A' m' c' row x w' (HRY.out w' (hb.mono HBW.out.size) fun k _ h2 => hb.block k h2) (by rw [aG]; exact (HQ.out.below ((HBW.out.trans (hb.mono HBW.out.size)).mono HBB.out)).more (nt HBB.out (nt HBW.out.size hb.size))) (rkindI.more (rkindI.below bL hb) hb.size) zd (Za aH) bZ
   have y8 := Jie (m := mk) o0 hx
   have bM := @Jf7 mk row x
   have fI := @Jv0 mk row x
   obtain ⟨t, ht⟩ : ∃ t, Xg mk row x = t := ⟨_, rfl⟩
   rw [ht] at y8 bM fI y9
   obtain ⟨D, f⟩ := t
   simp only at y8 bM fI
   have HTE := lh y9
   clear y9 o0 hx dN bL ht iM b0
   go_upto_region 8 with fail
   go_cut [9, 10] (fun v u wc => FdC wr (.bool ng) (.slice A7 l7 d7) (.slice A8 l8 d8) (.slice X1 n1 s1) D f v u wc)
   case first =>
    as_aux_lemma =>
    refine Je0 (FdR wr (.bool ng) (.slice A7 l7 d7) (.slice A8 l8 d8) (.slice X1 n1 s1) D f (fun j => ([some (.agg #[.bool ng, .slice A7 l7 d7, .slice A8 l8 d8, .slice X1 n1 s1, .slice A2 t2 r2, .slice A3 t3 r3]), some (.slice (some ad) n4 s4), some (.int .i64 (k : Int)), some (.pointer (some (ad.add k))), some (.slice A' m' c'), some (.slice (some ad5) n4 s5), some (.int .i64 (k : Int)), some (.pointer (some (ad5.add k))), some (.int .i64 x), none, none, none, none, none, none, none] : List (Option Value)).getD j none)) (by kernel_rfl) (by kernel_rfl) (by kernel_rfl) ?_ ?_ [some 33, some 34, some 35, some 36, some 37, some 38, some 39, some 40, some 41, some 42, some 32, some 43, some 44, some 9, none, some 10] rfl ?_
    ·constructor <;> first | exact Jt _ | exact Fixed.start _ _ | (intro h; cases h)
    ·refine ⟨⟨⟨⟨⟨⟨⟨⟨⟨⟨⟨⟨⟨⟨⟨⟨trivial, ?_⟩, ?_⟩, ?_⟩, ?_⟩, ?_⟩, ?_⟩, ?_⟩, ?_⟩, ?_⟩, ?_⟩, ?_⟩, ?_⟩, ?_⟩, ?_⟩, ?_⟩, ?_⟩ <;> intro d val a' w' hS hF hd hp
     ·have e8 : a'.tmps[3]?.getD undef = .pointer (some ⟨w.heap.size, 0, none⟩) := hS.arg 3
      have b0' := HC.out.below hF.bel aP
      obtain ⟨y0, y1, y2, y3, y4, y5⟩ := Blk.c6 b0'
      refine Xa (v := .agg #[.bool ng, .slice A7 l7 d7, .slice A8 l8 d8, .slice X1 n1 s1, .slice A2 t2 r2, .slice A3 t3 r3]) _ rfl rfl ?_ (show FdR _ _ _ _ _ _ _ _ _ _ _ from { hF with fx := hF.fx.step (.inr rfl) })
      clear hF hS hd hp
      go_simp
     ·have e8 : a'.tmps[1]?.getD undef = .slice (some ad) n4 s4 := hS.arg 1
      refine Xa (v := .slice (some ad) n4 s4) _ rfl rfl ?_ (show FdR _ _ _ _ _ _ _ _ _ _ _ from { hF with fx := hF.fx.step (.inr rfl) })
      clear hF hS hd hp
      go_simp
     ·have e8 : a'.tmps[8]?.getD undef = .int .i64 (k : Int) := hS.arg 8
      refine Xa (v := .int .i64 (k : Int)) _ rfl rfl ?_ (show FdR _ _ _ _ _ _ _ _ _ _ _ from { hF with fx := hF.fx.step (.inr rfl) })
      clear hF hS hd hp
      go_simp
     ·have e1 := hS.fe 1 34 hF.fx (hp 1)
      have e2 := hS.fe 2 35 hF.fx (hp 2)
      refine Xa (v := .pointer (some (ad.add k))) _ rfl rfl ?_ (show FdR _ _ _ _ _ _ _ _ _ _ _ from { hF with fx := hF.fx.step (.inr rfl) })
      clear hF hS hd hp
      go_simp
     ·have e1 := hS.fe 3 36 hF.fx (hp 3)
      have aW := Qg ((HBW.out.trans (hF.bel.mono HBW.out.size)).mono HBB.out) fW aM
      refine Xa (v := .slice A' m' c') _ rfl rfl ?_ (show FdR _ _ _ _ _ _ _ _ _ _ _ from { hF with fx := hF.fx.step (.inr rfl) })
      clear hF hS hd hp
      go_simp
     ·have e8 : a'.tmps[2]?.getD undef = .slice (some ad5) n4 s5 := hS.arg 2
      refine Xa (v := .slice (some ad5) n4 s5) _ rfl rfl ?_ (show FdR _ _ _ _ _ _ _ _ _ _ _ from { hF with fx := hF.fx.step (.inr rfl) })
      clear hF hS hd hp
      go_simp
     ·have e8 : a'.tmps[8]?.getD undef = .int .i64 (k : Int) := hS.arg 8
      refine Xa (v := .int .i64 (k : Int)) _ rfl rfl ?_ (show FdR _ _ _ _ _ _ _ _ _ _ _ from { hF with fx := hF.fx.step (.inr rfl) })
      clear hF hS hd hp
      go_simp
     ·have e1 := hS.fe 5 38 hF.fx (hp 5)
      have e2 := hS.fe 6 39 hF.fx (hp 6)
      refine Xa (v := .pointer (some (ad5.add k))) _ rfl rfl ?_ (show FdR _ _ _ _ _ _ _ _ _ _ _ from { hF with fx := hF.fx.step (.inr rfl) })
      clear hF hS hd hp
      go_simp
     ·have e1 := hS.fe 7 40 hF.fx (hp 7)
      rw [eM] at e1
      have t7 := b5.below ((HBW.out.trans (hF.bel.mono HBW.out.size)).mono HBB.out) bY
      have bX := t7.1
      refine Xa (v := .int .i64 x) _ rfl rfl ?_ (show FdR _ _ _ _ _ _ _ _ _ _ _ from { hF with fx := hF.fx.step (.inr rfl) })
      clear hF hS hd hp
      go_simp
     ·have e1 := hS.fe 0 33 hF.fx (hp 0)
      have e2 := hS.fe 4 37 hF.fx (hp 4)
      have e3 := hS.fe 8 41 hF.fx (hp 8)
      refine Jjm (Ψ := fun v w'' => FdR wr _ _ _ _ _ _ _ (upI d 9) (Jf3 val 9 v) w'') _ rfl rfl (args := #[.agg #[.bool ng, .slice A7 l7 d7, .slice A8 l8 d8, .slice X1 n1 s1, .slice A2 t2 r2, .slice A3 t3 r3], .slice A' m' c', .int .i64 x]) (w2 := w') (f := 31) ?_ ?_
      ·clear hF hS hd hp
       go_simp
      refine (HTE.out w' hF.bel).mono ?_
      rintro e w2 ⟨v, rfl, hv, j9⟩
      have hG := hF.next j9
      have aO := hF.bel.size
      obtain ⟨c0, c1, c2, c3, c4, c5, rfl, l6, aK⟩ := Jv4 hv (by simp [Value.oneCell'])
      refine ⟨_, rfl, { hG with fx := hG.fx.step (.inl rfl), v9 := fun _ => ⟨c0, c1, c2, c3, c4, c5, rfl, l6, fun h0 => ?_⟩, v10 := fun h => absurd ((hF.v10 h).1) (by rw [hd]; decide), v11 := fun h => absurd ((hF.v11 h).1) (by rw [hd]; decide), v12 := fun h => absurd ((hF.v12 h).1) (by rw [hd]; decide) }⟩
      obtain ⟨S, C, G', H', e0, hs, cA, o9, bT⟩ := aK h0
      refine ⟨S, C, G', H', e0, hs, cA, fun x hx => ⟨nt aO (o9 x hx).1, (o9 x hx).2⟩, fun x hx => nt aO (bT x hx), fun x hx => ?_⟩
      obtain ⟨g', z0, z1, z2, z3, z4, z5, e11, gZ, aF, -⟩ := hF.v13 hx.1
      have e12 := Jps (e11.symm.trans hx.2)
      subst e12
      have aM := aF.lt
      exact ⟨fun e => by have := (o9 _ e).1; omega, fun e => by have := bT _ e; omega⟩
     ·have e1 := hS.res 9 42 (hp 9)
      have h6 := hp 9
      refine Xa (v := val 9) _ rfl rfl ?_ (show FdR _ _ _ _ _ _ _ _ _ _ _ from { hF with fx := hF.fx.step (.inl rfl), v10 := fun _ => ⟨h6, rfl⟩ })
      clear hF hS hd hp
      go_simp
     ·have e1 := hS.res 10 32 (hp 10)
      obtain ⟨h6, h7⟩ := hF.v10 (hp 10)
      obtain ⟨q0, q1', q2', q3, q4, q5, e6, -⟩ := hF.v9 h6
      rw [h7, e6] at e1
      refine Xa (v := .agg #[q0, q1', q2', q3, q4, q5]) _ rfl rfl ?_ (show FdR _ _ _ _ _ _ _ _ _ _ _ from { hF with fx := hF.fx.step (.inl rfl), v11 := fun _ => ⟨h6, fun u y (e : val 9 = _) => by rw [e6] at e; injection e with e; exact (Jq6 e).1⟩, v13 := fun h => (hF.v13 h).imp fun g h => h.imp fun y0 h => h.imp fun y1 h => h.imp fun y2 h => h.imp fun y3 h => h.imp fun y4 h => h.imp fun y5 h => ⟨h.1, h.2.1, h.2.2.1, fun h' => absurd (h.2.2.2 h').1 (by rw [hd]; decide)⟩ })
      clear hF hS hd hp
      go_simp
     ·have e1 := hS.res 10 32 (hp 10)
      obtain ⟨h6, h7⟩ := hF.v10 (hp 10)
      obtain ⟨q0, q1', q2', q3, q4, q5, e6, -⟩ := hF.v9 h6
      rw [h7, e6] at e1
      refine Xa (v := .int .i64 f) _ rfl rfl ?_ (show FdR _ _ _ _ _ _ _ _ _ _ _ from { hF with fx := hF.fx.step (.inl rfl), v12 := fun _ => ⟨h6, fun u y (e : val 9 = _) => by rw [e6] at e; injection e with e; exact (Jq6 e).2⟩, v15 := fun h => absurd ((hF.v15 h).1) (by rw [hd]; decide) })
      clear hF hS hd hp
      go_simp
     ·have hG := hF.next (Jb w' (.cells #[.bool false, .slice none 0 0, .slice none 0 0, .slice none 0 0, .slice none 0 0, .slice none 0 0] 31))
      have aO := hF.bel.size
      refine Xa (v := .pointer (some ⟨w'.heap.size, 0, none⟩)) (w2 := w'.alloc (.cells #[.bool false, .slice none 0 0, .slice none 0 0, .slice none 0 0, .slice none 0 0, .slice none 0 0] 31)) _ rfl rfl ?_ (show FdR _ _ _ _ _ _ _ _ _ _ _ from { hG with fx := hG.fx.step (.inl rfl), v9 := fun h => ?_, v13 := fun _ => ⟨_, _, _, _, _, _, _, rfl, aO, Blk.new _ _ _, fun h => absurd (hF.v14 h) (by rw [hd]; decide)⟩, v14 := fun _ => rfl })
      ·clear hG hF hS hd hp
       go_simp
      obtain ⟨q0, q1', q2', q3, q4, q5, e6, l6, aK⟩ := hF.v9 h
      exact ⟨q0, q1', q2', q3, q4, q5, e6, l6, fun h0 => (aK h0).next (Jb _ _) fun g hg => .inr (by rw [<- Jps (show Value.pointer (some ⟨w'.heap.size, 0, none⟩) = .pointer (some ⟨g, 0, none⟩) from hg.2)]; exact Nat.le_refl _)⟩
     ·obtain ⟨h6, h8⟩ := hF.v11 (hp 11)
      have t8 := hp 13
      obtain ⟨g', z0, z1, z2, z3, z4, z5, e11, o9, aF, -⟩ := hF.v13 t8
      obtain ⟨q0, q1', q2', q3, q4, q5, e6, l6, aK⟩ := hF.v9 h6
      have e8 := h8 _ _ e6
      exact Jde _ rfl rfl _ _ _ rfl rfl g' #[q0, q1', q2', q3, q4, q5] _ ((hS.got 13 9 t8 rfl (Nat.le_of_ble_eq_true (by kernel_rfl))).trans e11) ((hS.got 11 43 (hp 11) rfl (Nat.le_of_ble_eq_true (by kernel_rfl))).trans e8) _ aF (by kernel_rfl) rfl l6 fun w2 j9 cL => show FdR _ _ _ _ _ _ _ _ _ _ _ from { hF with bel := hF.bel.trans (cL.below hF.bel.size o9), fx := hF.fx.step (.inl rfl), v9 := fun h => ⟨q0, q1', q2', q3, q4, q5, e6, l6, fun h0 => (aK h0).exc cL ⟨t8, e11⟩⟩, v13 := fun _ => ⟨g', _, _, _, _, _, _, e11, o9, j9, fun _ => ⟨hp 11, e8⟩⟩, v14 := fun _ => t8 }
     ·have e1 := hS.res 12 44 (hp 12)
      have h9 := hp 12
      refine Xa (v := val 12) _ rfl rfl ?_ (show FdR _ _ _ _ _ _ _ _ _ _ _ from { hF with fx := hF.fx.step (.inl rfl), v15 := fun _ => ⟨h9, rfl⟩ })
      clear hF hS hd hp
      go_simp
    intro d val w' hF hd
    simp only [Exit.then, Jd7, Act.put, List.setIfInBounds_toArray, List.set_cons_succ, List.set_cons_zero]
    refine ‹∀ a' w', Met _ a' w' -> _› _ _ ?_
    go_meet
    exact hF.end_ hd
   case rest =>
    obtain ⟨g9, c0, c1, c2, c3, c4, c5, rfl, rfl, fT, b9, dO, j6⟩ := hcut
    rename World => wc
    have HB9 := lh (HBW.out.trans (j6.mono HBW.out.size))
    have BR := lh (HB2.out.below j6 iN)
    have B0 := lh (HC.out.below j6 aP)
    have lR : w.heap.size < g9 := Nat.lt_of_lt_of_le aP fT
    clear HB2 HC HTE
    by_cases dP : f = 0
    ·subst dP
     obtain ⟨⟨S1, u1, v1⟩, ⟨S2, u2, v2⟩, G, H9, kF, hs, cA, h1, h2⟩ := dO rfl
     obtain ⟨aY, aT⟩ := bM rfl
     have bE := fI rfl
     rw [if_neg (by simp)] at y8
     rw [kF] at b9
     simp only [SW.v] at b9
     have HRN : Hid (RdY w.heap.size (gR + 1) D ⟨X1, n1, s1⟩ ⟨S1, u1, v1⟩ ⟨S2, u2, v2⟩ wc) := lh (Jv7 hs cA h1 h2 (by omega) fun w' hb hk => by rw [bE]; exact (HRY.out w' ((j6.mono HBW.out.size).trans hb) fun k h3 h4 => (hk k h3 (Nat.lt_of_lt_of_le h4 j6.size)).trans (j6.block k h4)).words)
     have HF2 := lh (aV.out.trans y8)
     have HCQ := lh (And.intro aY (show D.smooth = m.smooth by rw [aT, aG]))
     obtain ⟨y0, y1, y2, y3, y4, y5⟩ := b9.c6
     have q1 : ((0 : Int) != 0) = false := rfl
     have q2 : ((0 : Int) == 0) = true := rfl
     clear y8 bM fI aV aY aT aH aG dO kF hs cA h1 h2 j6 b9 HRY HBW bE
     go_wp2_with (refine Jr rfl _ (.tmp 3) (.tmp 49) rfl w.heap.size #[.bool ng, .slice A7 l7 d7, .slice A8 l8 d8, .slice X1 n1 s1, .slice S1 u1 v1, .slice S2 u2 v2] _ rfl rfl _ B0.out (by kernel_rfl) rfl (by simp [Value.oneCell']) ?_; intro w7 j0 j8; have HX7 := lh j8; have HB7 := lh j0; clear j8 j0 y0 y1 y2 y3 y4 y5)
     exact ⟨⟨k + 1, D, by omega, by go_num, HF2, HCQ.out.1, HCQ.out.2, ⟨S1, u1, v1⟩, ⟨S2, u2, v2⟩, HB7.out, HRN.out.exc HX7.out HB9.out.size zd (by omega), BR.out.exc HX7.out (by have := HGR.out; omega), HB9.out.trans (HX7.out.below HB9.out.size zd)⟩, by simp [intOf]; omega⟩
    rw [if_pos dP] at y8
    have HF2 := lh (aV.out.trans y8)
    have q1 : (f != 0) = true := by simp; omega
    have q2 : (f == 0) = false := by simp; omega
    clear y8 bM fI aV aH aG dO j6 b9 HRY HBW
    go_wp2_with (refine Jr rfl _ (.tmp 6) (.tmp 47) rfl gR #[.bool false, .slice none 0 0, .slice none 0 0, .slice none 0 0, .slice none 0 0, .slice none 0 0] _ rfl rfl _ BR.out (by kernel_rfl) rfl (by simp [Value.oneCell']) ?_; intro w7 j0 j8; have HX7 := lh j8; have HB7 := lh j0; clear j8 j0)
    obtain ⟨p0, p1, p2, p3, p4, p5⟩ := HB7.out.c6
    refine bodyPost_ret (v := .tuple #[.agg #[.bool false, .slice none 0 0, .slice none 0 0, .slice none 0 0, .slice none 0 0, .slice none 0 0], .int .i64 f]) (by simp [results, Tryz.results35, go_sem, p0, p1, p2, p3, p4, p5]) rfl ?_
    rw [HF2.out]
    exact ⟨_, rfl, .inr ⟨dP, rfl⟩, HB9.out.trans (HX7.out.below HB9.out.size bA)⟩
  as_aux_lemma =>
  obtain rfl : k = n4 := by omega
  have k1 : ¬ (k : Int) < (k : Int) := by omega
  have bN : (rows.zip ls).drop k = [] := List.drop_eq_nil_of_le (by rw [List.length_zip]; have := HW.out; omega)
  have bW := aV.out
  rw [bN] at bW
  have HF2 : Hid (Jby m (rows.zip ls) = (mk, 0)) := lh bW
  obtain ⟨y0, y1, y2, y3, y4, y5⟩ := b0.c6
  clear bN bW aV aH aG b0
  go_wp2_with (refine Jr rfl _ (.tmp 6) (.tmp 50) rfl gR #[.bool ng, .slice A7 l7 d7, .slice A8 l8 d8, .slice X1 n1 s1, .slice A2 t2 r2, .slice A3 t3 r3] _ rfl rfl _ HB2.out (by kernel_rfl) rfl (by simp [Value.oneCell']) ?_; intro w7 j0 j8; have HX7 := lh j8; have HB7 := lh j0; clear j8 j0 y0 y1 y2 y3 y4 y5)
  obtain ⟨p0, p1, p2, p3, p4, p5⟩ := HB7.out.c6
  refine bodyPost_ret (v := .tuple #[.agg #[.bool ng, .slice A7 l7 d7, .slice A8 l8 d8, .slice X1 n1 s1, .slice A2 t2 r2, .slice A3 t3 r3], .int .i64 0]) (by simp [results, Tryz.results35, go_sem, p0, p1, p2, p3, p4, p5]) rfl ?_
  rw [HF2.out]
  exact ⟨_, rfl, RetF.ok (S := ⟨A2, t2, r2⟩) (C := ⟨A3, t3, r3⟩) rfl (HRY.out w7 (HX7.out.below HBW.out.size bA) fun k h3 h4 => HX7.out.block k h4 (by omega)), HBW.out.trans (HX7.out.below HBW.out.size bA)⟩
def Jsv (rows ws : List Int) (k : Nat) : List (List Int) := (List.range k).map fun i => Jkx (rows.drop (min rows.length (3 * i))) ws
theorem Js2 (rows ws : List Int) (k : Nat) : (Jsv rows ws k).length = k := by simp [Jsv]
theorem Jto (rows ws : List Int) (k : Nat) : Jsv rows ws (k + 1) = Jsv rows ws k ++ [Jkx (rows.drop (min rows.length (3 * k))) ws] := by
 unfold Jsv
 rw [List.range_succ, List.map_append]
 rfl
theorem Jtb {rows ws : List Int} {k : Nat} {x : List Int} (h : x ∈ Jsv rows ws k) : ∃ l, x = Jkx l ws := by
 unfold Jsv at h
 obtain ⟨i, -, h2⟩ := List.mem_map.1 h
 exact ⟨_, h2.symm⟩
theorem Juy {m : BM} {q : List Int} {cl : Int} (hL : LenB m) (h : (Xg m q cl).2 = 0) : (Xg m q cl).1.words = m.words /\ (Xg m q cl).1.smooth = m.smooth /\ LenB (Xg m q cl).1 := by
 unfold Xg at h ⊢
 split at h
 ·rename_i h1
  exact absurd h h1
 rename_i h1
 rw [if_neg h1]
 split at h
 ·cases h
 rename_i h2
 rw [if_neg h2]
 exact ⟨rfl, rfl, Juu hL _ _ _⟩
def CkD (f : Int) (x0 x1 x2 : Value) (W : SW) (D : BM) (g : Nat) (w : World) : Prop := f = 0 -> ∃ (S C : SW), Blk w g 31 #[x0, x1, x2, W.v, S.v, C.v] /\ RdB w w.heap.size W S C D
theorem CkD.next {f : Int} {x0 x1 x2 : Value} {W : SW} {D : BM} {g : Nat} {w w' : World} (h : CkD f x0 x1 x2 W D g w) (hb : Below w.heap.size w w') : CkD f x0 x1 x2 W D g w' := fun h0 => by
 obtain ⟨S, C, hk, hr⟩ := h h0
 exact ⟨S, C, hk.below hb hk.lt, (hr.below hb).more hb.size⟩
def CkM (f : Int) (D : BM) (g : Nat) (w : World) : Prop := (f = 0 /\ ∃ (W S C : SW), Blk w g 43 #[.bool (decide (D.smooth.num < 0)), .int .u64 (lo D.smooth.num.natAbs : Int), .string (mo D.smooth.num.natAbs), .int .u64 (lo ((qden D.smooth)) : Int), .string (mo ((qden D.smooth))), W.v, S.v, C.v] /\ RdB w w.heap.size W S C D) \/ (f ≠ 0 /\ Blk w g 43 #[.bool false, .int .u64 0, .string ⟨#[]⟩, .int .u64 0, .string ⟨#[]⟩, .slice none 0 0, .slice none 0 0, .slice none 0 0])
theorem CkM.next {f : Int} {D : BM} {g : Nat} {w w' : World} (h : CkM f D g w) (hb : Below w.heap.size w w') : CkM f D g w' := by
 rcases h with ⟨h0, W, S, C, hk, hr⟩ | ⟨h0, hk⟩
 ·exact .inl ⟨h0, W, S, C, hk.below hb hk.lt, (hr.below hb).more hb.size⟩
 exact .inr ⟨h0, hk.below hb hk.lt⟩
theorem Ju2 {f : Int} {D : BM} {gM gD : Nat} {w : World} {x0 x1 x2 : Value} {X1 : Option Addr} {n1 c1 : Nat} (h : CkM f D gM w) (h' : CkD f x0 x1 x2 ⟨X1, n1, c1⟩ D gD w) : ∃ (b : Bool) (B1 : Option Addr) (r1 : Nat) (B2 : Option Addr) (v2 r2 : Nat) (B3 : Option Addr) (v3 r3 : Nat) (E2 : Option Addr) (t2 : Nat) (E3 : Option Addr) (t3 : Nat), (f != 0) = !b /\ (b = true -> f = 0 /\ Blk w gM 43 #[.bool (decide (D.smooth.num < 0)), .int .u64 (lo D.smooth.num.natAbs : Int), .string (mo D.smooth.num.natAbs), .int .u64 (lo ((qden D.smooth)) : Int), .string (mo ((qden D.smooth))), .slice B1 n1 r1, .slice B2 v2 r2, .slice B3 v3 r3] /\ RdB w w.heap.size ⟨B1, n1, r1⟩ ⟨B2, v2, r2⟩ ⟨B3, v3, r3⟩ D /\ Blk w gD 31 #[x0, x1, x2, .slice X1 n1 c1, .slice E2 v2 t2, .slice E3 v3 t3] /\ RdB w w.heap.size ⟨X1, n1, c1⟩ ⟨E2, v2, t2⟩ ⟨E3, v3, t3⟩ D) /\ (b = false -> Blk w gM 43 #[.bool false, .int .u64 0, .string ⟨#[]⟩, .int .u64 0, .string ⟨#[]⟩, .slice none 0 0, .slice none 0 0, .slice none 0 0]) := by
 rcases h with ⟨cF, ⟨B1, p1, r1⟩, ⟨B2, p2, r2⟩, ⟨B3, p3, r3⟩, hk, hr⟩ | ⟨cF, hk⟩
 ·obtain ⟨⟨E2, v2, t2⟩, ⟨E3, v3, t3⟩, cI, cT⟩ := h' cF
  simp only [SW.v] at hk cI
  obtain rfl : p1 = n1 := by
   have e1 : D.words.length = p1 := hr.words.len
   have e2 : D.words.length = n1 := cT.words.len
   omega
  obtain rfl : p2 = v2 := by
   have e1 : D.seen.length = p2 := hr.seen.len
   have e2 : D.seen.length = v2 := cT.seen.len
   omega
  obtain rfl : p3 = v3 := by
   have e1 : D.counts.length = p3 := ReadsS.len hr.counts
   have e2 : D.counts.length = v3 := ReadsS.len cT.counts
   omega
  exact ⟨true, B1, r1, B2, p2, r2, B3, p3, r3, E2, t2, E3, t3, by rw [cF]; rfl, (fun _ => ⟨cF, hk, hr, cI, cT⟩), (fun h => by cases h)⟩
 exact ⟨false, none, 0, none, 0, 0, none, 0, 0, none, 0, none, 0, by simpa using cF, (fun h => by cases h), (fun _ => hk)⟩
theorem Jox (l : List Int) : ∀ (f : Nat) (m : BM) (i : Nat), (∃ n, DrawnB m n /\ n + f <= 1073741824) -> (Jop f m l i).smooth = m.smooth /\ (Jop f m l i).words = m.words
 | 0, m, i, _ => ⟨rfl, rfl⟩
 | f + 1, m, i, ⟨n, h, hn⟩ => by
  unfold Jop
  split
  ·obtain ⟨h1, h2⟩ := h.moved (h.rowOk (l.drop (i + 1))) (h.class_ (l.getD i 0)) (by omega)
   rw [h1, if_pos rfl]
   exact Jox l f _ _ ⟨n + 1, h2, by omega⟩
  exact ⟨rfl, rfl⟩
theorem Jqp (l : List Int) (classes cols smooth : Int) : QS 1000 (Jov l classes cols smooth).smooth := by
 have h := (Jox l 24 (Jo1 classes cols smooth) 0 ⟨0, Joz classes cols smooth, by omega⟩).1
 unfold Jov
 rw [h]
 show QS 1000 (((smooth % 4 + 1 : Int) : Rat) / (((smooth.tdiv 4) % 3 + 1 : Int) : Rat))
 rw [Rat.div_def]
 exact ((QS.cnt (k := 3) (by omega) (by omega) (by omega)).mul ((QS.cnt (k := 3) (by omega) (by omega) (by omega)).inv (by omega))).mono (by omega)
theorem Jpv (l : List Int) (classes cols smooth : Int) : LenB (Jov l classes cols smooth) := Za (Jpe l classes cols smooth).ok
structure OrG (L : Nat) (W0 W : World) (n1 i : Nat) (R : List (List Int)) (row : List Int) (vR : Value) (S : Nat -> Prop) (FX : Nat -> Option Value) (d : Nat -> Bool) (val : Nat -> Value) (w : World) : Prop where
 fx : Fixed FX d val
 size : W.heap.size <= w.heap.size
 bel : Below L W0 w
 bl : d 12 = false -> Below W.heap.size W w
 hold : ∀ x, x < W.heap.size -> vR.ownBlock ≠ some x -> w.heap[x]? = W.heap[x]?
 v10 : d 10 = true -> ∃ A c, val 10 = .slice A n1 c /\ (d 12 = false -> Own w 3 zv (.slice A n1 c) row) /\ ∀ x, (Value.slice A n1 c).ownBlock = some x -> W.heap.size <= x
 v11 : d 11 = true -> d 10 = true /\ ∃ X, val 11 = .slice X 1 1 /\ (d 12 = false -> Reads w w.heap.size 1 X 1 [val 10])
 v12 : d 12 = true -> d 11 = true /\ ∃ A c S'', val 12 = .slice A (i + 1) c /\ Nest 22 (NRow 3 zv) w S'' (.slice A (i + 1) c) (R ++ [row]) /\ ∀ x, S'' x -> S x \/ W.heap.size <= x
 v13 : d 13 = true -> (∀ j, j < 13 -> d j = true) /\ val 13 = val 12
theorem OrG.no13 {L : Nat} {W0 W w : World} {n1 i : Nat} {R : List (List Int)} {row : List Int} {vR : Value} {S : Nat -> Prop} {FX : Nat -> Option Value} {d : Nat -> Bool} {val : Nat -> Value} (h : OrG L W0 W n1 i R row vR S FX d val w) {k : Nat} (hk : k < 13) (hd : d k = false) : d 13 = false := by
 cases e : d 13 with
 | false => rfl
 | true => rw [(h.v13 e).1 k hk] at hd; cases hd
theorem Jvy : ∀ (ps : List (List Int × Int)) (m : BM), LenB m -> (Jby m ps).2 = 0 -> (Jby m ps).1.smooth = m.smooth /\ LenB (Jby m ps).1
 | [], m, h, _ => ⟨rfl, h⟩
 | p :: ps, m, h, h0 => by
  unfold Jby at h0 ⊢
  by_cases h1 : (Xg m p.1 p.2).2 = 0
  ·rw [if_neg (by simp [h1])] at h0 ⊢
   have h2 := Juy h (q := p.1) (cl := p.2) h1
   have h3 := Jvy ps _ h2.2.2 h0
   exact ⟨h3.1.trans h2.2.1, h3.2⟩
  rw [if_pos h1] at h0
  exact absurd h0 h1
theorem Jv3 {m : BM} {rows : List (List Int)} {ls : List Int} (h : LenB m) (h0 : (Jif m rows ls).2 = 0) : (Jif m rows ls).1.smooth = m.smooth /\ LenB (Jif m rows ls).1 := by
 unfold Jif at h0 ⊢
 by_cases h1 : Jk m = 0
 ·rw [if_neg (by simp [h1])] at h0 ⊢
  by_cases h2 : rows.length ≠ ls.length \/ 300 < rows.length
  ·rw [if_pos h2] at h0
   exact absurd h0 (by decide)
  rw [if_neg h2] at h0 ⊢
  exact Jvy _ m h h0
 rw [if_pos h1] at h0
 exact absurd h0 (by decide)
def Jv2 (ls : List Int) (k : Nat) : List Int := (List.range k).map fun i => ls.getD i 0 % 5 - 1
theorem Jv6 (ls : List Int) (k : Nat) : (Jv2 ls k).length = k := by simp [Jv2]
theorem Jv1 (ls : List Int) (k : Nat) : Jv2 ls (k + 1) = Jv2 ls k ++ [ls.getD k 0 % 5 - 1] := by
 unfold Jv2
 rw [List.range_succ, List.map_append]
 rfl
def FrL (L : Nat) (R : List (List Int)) (i : Nat) (vr : Value) (w : World) : Prop := ∃ (AR : Option Addr) (cR : Nat) (S : Nat -> Prop), vr = .slice AR i cR /\ Nest 22 (NRow 3 zv) w S (.slice AR i cR) R /\ ∀ x, S x -> L <= x
theorem Jvz (A : Option Addr) (n c : Nat) (l : List Int) (A' : Option Addr) (n' c' : Nat) (rows : List Int) (A'' : Option Addr) (n'' c'' : Nat) (labels : List Int) (classes cols smooth way at_ by_ many : Int) (w : World) (h : ReadsI w w.heap.size A n l) (fR : n <= c) (hc : c <= 9223372036854775807) (hl : ∀ x ∈ l, -9223372036854775808 <= x /\ x <= 9223372036854775807)
  (h' : ReadsI w w.heap.size A' n' rows) (iO : n' <= c') (eD : c' <= 9223372036854775807) (kG : ∀ x ∈ rows, -9223372036854775808 <= x /\ x <= 9223372036854775807) (kH : ReadsI w w.heap.size A'' n'' labels) (lS : n'' <= 9223372036854775807) (fJ : ∀ x ∈ labels, -9223372036854775808 <= x /\ x <= 9223372036854775807)
  (i1 : -9223372036854775808 <= classes /\ classes <= 9223372036854775807) (i2 : -9223372036854775808 <= cols /\ cols <= 9223372036854775807) (i3 : -9223372036854775808 <= smooth /\ smooth <= 9223372036854775807) (i4 : -9223372036854775808 <= way /\ way <= 9223372036854775807) (i5 : -9223372036854775808 <= at_ /\ at_ <= 9223372036854775807) (i6 : -9223372036854775808 <= by_ /\ by_ <= 9223372036854775807) (i7 : -9223372036854775808 <= many /\ many <= 9223372036854775807) (hT : Tab w) :
  Calls Tryz.prog 7 #[.slice A n c, .slice A' n' c', .slice A'' n'' c'', .int .i64 classes, .int .i64 cols, .int .i64 smooth, .int .i64 way, .int .i64 at_, .int .i64 by_, .int .i64 many] w (Ret (.bool true) w) := by
 have aL := Jpt A n c l classes cols smooth way at_ by_ w.heap.size w h zd fR hc hl i1 i2 i3 i4 i5 i6
 have aG := Jum (Jqp l classes cols smooth) way at_ by_
 have iP := Juk (Jpv l classes cols smooth) way at_ by_
 have iQ := Jvd (Jpe l classes cols smooth) way at_ by_
 obtain ⟨M, hm⟩ : ∃ M, Jo6 (Jov l classes cols smooth) way at_ by_ = M := ⟨_, rfl⟩
 rw [hm] at aL aG iP iQ
 obtain ⟨nr, kI⟩ : ∃ nr : Nat, many % 6 = (nr : Int) := ⟨(many % 6).toNat, by omega⟩
 have lT : nr <= 5 := by omega
 have iR := fun w' => Jpd many 6 w' i7.1 i7.2 (by decide) (by decide)
 rw [show ((6 : Nat) : Int) = 6 from rfl, kI] at iR
 have HDR := lh aL
 have HQ := lh (And.intro aG (And.intro iP iQ))
 have HPM := lh iR
 have H' := lh (And.intro h' kG)
 have H'' := lh (And.intro kH fJ)
 have HT := lh hT
 have HKN := lh (fun w hT => Jgy w hT)
 obtain ⟨RW, fK⟩ : ∃ RW, Jsv rows M.words = RW := ⟨_, rfl⟩
 obtain ⟨LB, fX⟩ : ∃ LB, Jv2 labels = LB := ⟨_, rfl⟩
 have HRN := lh (show ∀ k, RW (k + 1) = RW k ++ [Jkx (rows.drop (min rows.length (3 * k))) M.words] from fun k => by rw [<- fK]; exact Jto rows M.words k)
 have HLN := lh (show ∀ k, LB (k + 1) = LB k ++ [labels.getD k 0 % 5 - 1] from fun k => by rw [<- fX]; exact Jv1 labels k)
 have HRZ := lh (show RW 0 = [] /\ LB 0 = [] /\ (∀ k, (RW k).length = k) /\ ∀ k, (LB k).length = k from ⟨by rw [<- fK]; rfl, by rw [<- fX]; rfl, fun k => by rw [<- fK]; exact Js2 _ _ _, fun k => by rw [<- fX]; exact Jv6 _ _⟩)
 have HRX := lh (show ∀ r ∈ RW nr, r.length <= 1000 from fun x hx => by
  rw [<- fK] at hx
  obtain ⟨l, rfl⟩ := Jtb hx
  rw [Jkw]
  have := HQ.out.2.2.cols
  omega)
 clear fK fX aL aG iP iQ hm iR kI h hl h' kG kH fJ hT i1 i2 i3 i4 i5 i6 i7 fR hc
 go_enter Tryz.func7, Tryz.ntmps7
 go_wp2_with fail
 refine HDR.out.mono ?_
 rintro e w1 ⟨v, rfl, ⟨ng, A7, A8, l7, d7, l8, d8, ⟨X1, n1, c1⟩, ⟨X2, n2, c2⟩, ⟨X3, n3, c3⟩, rfl, dV, bB⟩, j6⟩
 simp only [SW.v]
 have HRD := lh (And.intro dV bB)
 have HB1 := lh j6
 clear dV bB j6 HDR
 go_upto_region 2 with fail
 have b19 := Blk.new w1 31 #[.bool ng, .slice A7 l7 d7, .slice A8 l8 d8, .slice X1 n1 c1, .slice X2 n2 c2, .slice X3 n3 c3]
 have j9 := Jb w1 (.cells #[.bool ng, .slice A7 l7 d7, .slice A8 l8 d8, .slice X1 n1 c1, .slice X2 n2 c2, .slice X3 n3 c3] 31)
 generalize w1.alloc (.cells #[.bool ng, .slice A7 l7 d7, .slice A8 l8 d8, .slice X1 n1 c1, .slice X2 n2 c2, .slice X3 n3 c3] 31) = w2 at *
 have HM2 := lh (And.intro ((HRD.out.1.below j9).more j9.size) ((HRD.out.2.below j9).more j9.size))
 have HB2 := lh (Ja HB1.out j9)
 have BK := lh b19
 have cG := b19.lt
 clear j9 b19 HRD HB1
 generalize w1.heap.size = g19 at *
 have HW := lh (show M.words.length = n1 from HM2.out.2.words.len)
 have jJ : n1 <= 3 := by rw [<- HW.out]; exact HQ.out.2.2.cols.2
 go_wp2_with fail
 go_loopw [22, 23] (fun vr p wr => ∃ i : Nat, i <= nr /\ p = .int .i64 (i : Int) /\ FrL w2.heap.size (RW i) i vr wr /\ Below w2.heap.size w2 wr) (fun _ p _ => nr - (intOf p).toNat)
 case atStart => exact ⟨0, by omega, rfl, ⟨_, _, fun _ => False, rfl, by rw [HRZ.out.1]; exact Nest.nil _ _ _, fun _ h => h.elim⟩, Below.refl _ _⟩
 case round =>
  obtain ⟨i, hi, rfl, ⟨AR, cR, S, rfl, bC, hS⟩, bV⟩ := hrel
  rename World => wr
  obtain ⟨z0, z1, z2, z3, z4, z5⟩ := (BK.out.below bV cG).c6
  have HNE := lh (And.intro bC hS)
  have HBR := lh bV
  clear bC hS bV
  by_cases mL : i < nr
  ·as_aux_lemma =>
   have k1 : (i : Int) < (nr : Int) := by omega
   go_wp2_with fail
   refine (HPM.out _).mono ?_
   rintro e w5 ⟨rfl, rfl⟩
   obtain ⟨k3, kJ⟩ : ∃ k3, min n' (3 * i) = k3 := ⟨_, rfl⟩
   have iS : k3 <= n' := by omega
   have lU : min (n' : Int) (3 * (i : Int)) = (k3 : Int) := by omega
   have lV : IntKind.i64.wrap (3 * (i : Int)) = 3 * (i : Int) := IntWalk.i64_in _ (by omega)
   obtain ⟨A9, dF⟩ : ∃ A9, Jg4 A' c' k3 1 = A9 := ⟨_, rfl⟩
   obtain ⟨n9, bF⟩ : ∃ n9, n' - k3 = n9 := ⟨_, rfl⟩
   obtain ⟨c9, eO⟩ : ∃ c9, c' - k3 = c9 := ⟨_, rfl⟩
   have cK : ∀ w' : World, (Instr.slice 22 (.slice A' n' c') (some (.int .i64 (k3 : Int))) none none).run Tryz.prog w' = .ok (.slice A9 n9 c9) w' := fun w' => by
    have := Ji0 (P := Tryz.prog) (Tryz.eltZ1).under (Tryz.eltZ1).info A' n' c' .i64 (k3 : Int) (by omega) (by omega) w'
    rw [show ((k3 : Nat) : Int).toNat = k3 by omega, dF, bF, eO] at this
    exact this
   have aJ : ReadsI w w.heap.size A9 n9 (rows.drop k3) := by
    have h1 : Reads w w.heap.size 1 (Jg4 A' c' k3 1) (n' - k3) ((rows.map zv).drop (k3 * 1)) := Reads.cut H'.out.1 iS iO
    rw [dF, bF, Nat.mul_one] at h1
    show Reads w w.heap.size 1 A9 n9 ((rows.drop k3).map zv)
    rw [List.map_drop]
    exact h1
   have cU : rows.length = n' := ReadsI.len H'.out.1
   obtain ⟨row, o0⟩ : ∃ row, Jkx (rows.drop k3) M.words = row := ⟨_, rfl⟩
   have fL : row.length = n1 := by rw [<- o0, Jkw]; exact HW.out
   have iT := HRN.out i
   rw [cU, kJ, o0] at iT
   have kK : n9 <= 9223372036854775807 := by omega
   have kL : ∀ x ∈ rows.drop k3, -9223372036854775808 <= x /\ x <= 9223372036854775807 := fun x hx => H'.out.2 x (List.mem_of_mem_drop hx)
   have j7 := HB2.out.trans (HBR.out.mono HB2.out.size)
   have HCUT := lh (And.intro aJ (And.intro kK kL))
   have HROW := lh (And.intro o0 fL)
   have HRI := lh iT
   have HBW := lh j7
   have HOWN := lh (show ∀ x, (Value.slice AR i cR).ownBlock = some x -> S x from by obtain ⟨rl, F1, q1, q2, q3, q4, q5, q6, q7⟩ := HNE.out.1; exact q6)
   clear dF bF eO aJ cU o0 iT kK kL j7 kJ fL
   go_upto_region 6 with fail
   refine Jtf (OrG w2.heap.size w2 wr n1 i (RW i) row (.slice AR i cR) S (fun j => ([some (.slice AR i cR), some (.slice A' n' c'), some (.slice A' n' c'), some (.int .i64 (n' : Int)), some (.int .i64 (i : Int)), some (.int .i64 (3 * (i : Int))), some (.int .i64 (k3 : Int)), some (.slice A9 n9 c9), some (.pointer (some ⟨g19, 3, none⟩)), some (.slice X1 n1 c1), none, none, none, none] : List (Option Value)).getD j none)) (by kernel_rfl) (by kernel_rfl) (by kernel_rfl) ?_ ?_ [some 44, some 45, some 46, some 47, some 48, some 49, some 50, some 51, some 52, some 53, some 54, some 55, some 56, some 22] rfl ?_
   ·exact ⟨Fixed.start _ _, Nat.le_refl _, HBR.out.trans ((Jt _).mono HBR.out.size), fun _ => Jt _, fun _ _ _ => rfl, (fun h => by cases h), (fun h => by cases h), (fun h => by cases h), (fun h => by cases h)⟩
   ·refine ⟨⟨⟨⟨⟨⟨⟨⟨⟨⟨⟨⟨⟨⟨trivial, ?_⟩, ?_⟩, ?_⟩, ?_⟩, ?_⟩, ?_⟩, ?_⟩, ?_⟩, ?_⟩, ?_⟩, ?_⟩, ?_⟩, ?_⟩, ?_⟩ <;> intro d val a' w' hS hF hd hp
    ·have e8 : a'.tmps[22]?.getD undef = .slice AR i cR := hS.late 22 13 (by kernel_rfl) (hF.no13 (k := 0) (by decide) hd)
     refine Xa (v := .slice AR i cR) _ rfl rfl ?_ (show OrG _ _ _ _ _ _ _ _ _ _ _ _ _ from { hF with fx := hF.fx.step (.inr rfl), v13 := fun h => absurd (show d 13 = true from h) (by rw [hF.no13 (k := 0) (by decide) hd]; decide) })
     clear hF hS hd hp
     go_simp
    ·have e8 : a'.tmps[1]?.getD undef = .slice A' n' c' := hS.arg 1
     refine Xa (v := .slice A' n' c') _ rfl rfl ?_ (show OrG _ _ _ _ _ _ _ _ _ _ _ _ _ from { hF with fx := hF.fx.step (.inr rfl), v13 := fun h => absurd (show d 13 = true from h) (by rw [hF.no13 (k := 1) (by decide) hd]; decide) })
     clear hF hS hd hp
     go_simp
    ·have e8 : a'.tmps[1]?.getD undef = .slice A' n' c' := hS.arg 1
     refine Xa (v := .slice A' n' c') _ rfl rfl ?_ (show OrG _ _ _ _ _ _ _ _ _ _ _ _ _ from { hF with fx := hF.fx.step (.inr rfl), v13 := fun h => absurd (show d 13 = true from h) (by rw [hF.no13 (k := 2) (by decide) hd]; decide) })
     clear hF hS hd hp
     go_simp
    ·have e1 := hS.fe 2 46 hF.fx (hp 2)
     refine Xa (v := .int .i64 (n' : Int)) _ rfl rfl ?_ (show OrG _ _ _ _ _ _ _ _ _ _ _ _ _ from { hF with fx := hF.fx.step (.inr rfl), v13 := fun h => absurd (show d 13 = true from h) (by rw [hF.no13 (k := 3) (by decide) hd]; decide) })
     clear hF hS hd hp
     go_simp
    ·have e8 : a'.tmps[23]?.getD undef = .int .i64 (i : Int) := hS.arg 23
     refine Xa (v := .int .i64 (i : Int)) _ rfl rfl ?_ (show OrG _ _ _ _ _ _ _ _ _ _ _ _ _ from { hF with fx := hF.fx.step (.inr rfl), v13 := fun h => absurd (show d 13 = true from h) (by rw [hF.no13 (k := 4) (by decide) hd]; decide) })
     clear hF hS hd hp
     go_simp
    ·have e1 := hS.fe 4 48 hF.fx (hp 4)
     refine Xa (v := .int .i64 (3 * (i : Int))) _ rfl rfl ?_ (show OrG _ _ _ _ _ _ _ _ _ _ _ _ _ from { hF with fx := hF.fx.step (.inr rfl), v13 := fun h => absurd (show d 13 = true from h) (by rw [hF.no13 (k := 5) (by decide) hd]; decide) })
     clear hF hS hd hp
     go_simp
    ·have e1 := hS.fe 3 47 hF.fx (hp 3)
     have e2 := hS.fe 5 49 hF.fx (hp 5)
     refine Xa (v := .int .i64 (k3 : Int)) _ rfl rfl ?_ (show OrG _ _ _ _ _ _ _ _ _ _ _ _ _ from { hF with fx := hF.fx.step (.inr rfl), v13 := fun h => absurd (show d 13 = true from h) (by rw [hF.no13 (k := 6) (by decide) hd]; decide) })
     clear hF hS hd hp
     go_simp
    ·have e1 := hS.fe 1 45 hF.fx (hp 1)
     have e2 := hS.fe 6 50 hF.fx (hp 6)
     refine Xa (v := .slice A9 n9 c9) _ rfl rfl ?_ (show OrG _ _ _ _ _ _ _ _ _ _ _ _ _ from { hF with fx := hF.fx.step (.inr rfl), v13 := fun h => absurd (show d 13 = true from h) (by rw [hF.no13 (k := 7) (by decide) hd]; decide) })
     clear hF hS hd hp
     go_simp
    ·have e8 : a'.tmps[21]?.getD undef = .pointer (some ⟨g19, 0, none⟩) := hS.arg 21
     refine Xa (v := .pointer (some ⟨g19, 3, none⟩)) _ rfl rfl ?_ (show OrG _ _ _ _ _ _ _ _ _ _ _ _ _ from { hF with fx := hF.fx.step (.inr rfl), v13 := fun h => absurd (show d 13 = true from h) (by rw [hF.no13 (k := 8) (by decide) hd]; decide) })
     clear hF hS hd hp
     go_simp
    ·have e1 := hS.fe 8 52 hF.fx (hp 8)
     have b0' := BK.out.below hF.bel cG
     obtain ⟨y0, y1, y2, y3, y4, y5⟩ := Blk.c6 b0'
     refine Xa (v := .slice X1 n1 c1) _ rfl rfl ?_ (show OrG _ _ _ _ _ _ _ _ _ _ _ _ _ from { hF with fx := hF.fx.step (.inr rfl), v13 := fun h => absurd (show d 13 = true from h) (by rw [hF.no13 (k := 9) (by decide) hd]; decide) })
     clear hF hS hd hp
     go_simp
    ·have hn : d 12 = false := by
      cases e : d 12 with
      | false => rfl
      | true => rw [(hF.v11 (hF.v12 e).1).1] at hd; cases hd
     have e1 := hS.fe 7 51 hF.fx (hp 7)
     have e2 := hS.fe 9 53 hF.fx (hp 9)
     have eP := HBW.out.trans ((hF.bl hn).mono HBW.out.size)
     have kM := HBR.out.trans ((hF.bl hn).mono HBR.out.size)
     refine Jjm (Ψ := fun v w'' => OrG w2.heap.size w2 wr n1 i (RW i) row (.slice AR i cR) S _ (upI d 10) (Jf3 val 10 v) w'') _ rfl rfl (args := #[.slice A9 n9 c9, .slice X1 n1 c1]) (w2 := w') (f := 25) ?_ ?_
     ·clear hF hS hd hp
      go_simp
     refine (Jpc A9 n9 c9 (rows.drop k3) X1 n1 c1 M.words w'.heap.size w' (rkindI.more (rkindI.below HCUT.out.1 eP) eP.size) (rkindI.more (rkindI.below HM2.out.2.words kM) kM.size) zd HCUT.out.2.1 HCUT.out.2.2 (by omega) (fun x hx => by have := HQ.out.2.2.words x hx; omega)).mono ?_
     rintro e w3 ⟨v, rfl, dG, aR, aI⟩
     rw [HROW.out.1] at dG
     obtain ⟨A6, c6, eR, -⟩ := dG.form
     rw [HROW.out.2] at eR
     subst eR
     exact ⟨_, rfl, ⟨hF.fx.step (.inl rfl), nt hF.size aI.size, hF.bel.trans (aI.mono hF.bel.size), fun h => (hF.bl h).trans (aI.mono (hF.bl h).size), fun x hx dX => (aI.block x (Nat.lt_of_lt_of_le hx hF.size)).trans (hF.hold x hx dX), fun _ => ⟨A6, c6, rfl, fun _ => dG, fun x hx => nt hF.size (aR x hx)⟩, fun h => absurd (hF.v11 h).1 (by rw [hd]; decide), fun h => absurd (hF.v11 (hF.v12 h).1).1 (by rw [hd]; decide), fun h => absurd (show d 13 = true from h) (by rw [hF.no13 (k := 10) (by decide) hd]; decide)⟩⟩
    ·have t8 := hp 10
     obtain ⟨A6, c6, e6, dY, dZ⟩ := hF.v10 t8
     have e1 := hS.res 10 54 t8
     rw [e6] at e1
     have aQ := Jb w' (.cells #[.slice A6 n1 c6] 22)
     refine Xa (v := .slice (some ⟨w'.heap.size, 0, none⟩) 1 1) (w2 := w'.alloc (.cells #[.slice A6 n1 c6] 22)) _ rfl rfl ?_ (show OrG _ _ _ _ _ _ _ _ _ _ _ _ _ from ⟨hF.fx.step (.inl rfl), nt hF.size aQ.size, hF.bel.trans (aQ.mono hF.bel.size), fun h => (hF.bl h).trans (aQ.mono (hF.bl h).size), fun x hx dX => (aQ.block x (Nat.lt_of_lt_of_le hx hF.size)).trans (hF.hold x hx dX), fun h => (hF.v10 h).imp fun A h2 => h2.imp fun c h3 => ⟨h3.1, fun h4 => Own.below (h3.2.1 h4) aQ (h3.2.1 h4).lt, h3.2.2⟩, fun _ => ⟨t8, _, rfl, fun _ => by show Reads _ _ _ _ _ [val 10]; rw [e6, World.size_alloc]; exact Reads.one w' _ _⟩, fun h => absurd (hF.v12 h).1 (by rw [hd]; decide), fun h => absurd (show d 13 = true from h) (by rw [hF.no13 (k := 11) (by decide) hd]; decide)⟩)
     clear aQ hF hS hd hp t8
     go_simp
    ·have cZ := hp 11
     obtain ⟨t8, X, e9, fY⟩ := hF.v11 cZ
     obtain ⟨A6, c6, e6, dY, dZ⟩ := hF.v10 t8
     have fY := fY hd
     rw [e6] at fY
     refine Jsh (Js 3 zv) Tryz.eltZ2 _ rfl rfl (.tmp 44) (.tmp 55) rfl S (fun k => (Value.slice A6 n1 c6).ownBlock = some k) w' (.slice AR i cR) (RW i) A6 n1 c6 row w'.heap.size X 1 ((hS.got 0 44 (hp 0) rfl (Nat.le_of_ble_eq_true (by kernel_rfl))).trans (hF.fx 0 _ rfl (hp 0))) (HNE.out.1.next (Js 3 zv) (hF.bl hd)) (NRow.of (dY hd)) (fun x hx fQ => ?_) ((hS.got 11 55 (hp 11) rfl (Nat.le_of_ble_eq_true (by kernel_rfl))).trans e9) fY (by rw [HRZ.out.2.2.1]; omega) ?_
     ·have := HNE.out.1.lt (Js 3 zv) fQ
      have := dZ x hx
      omega
     intro v' w1 S'' bC fZ bQ
     obtain ⟨A7', c7', hv⟩ := bC.form
     rw [show (RW i ++ [row]).length = i + 1 from by rw [List.length_append, HRZ.out.2.2.1]; rfl] at hv
     subst hv
     have lW := bQ.below (B := w2.heap.size) (nt HBR.out.size hF.size) fun x hx => HNE.out.2 x (HOWN.out x hx)
     exact (show OrG _ _ _ _ _ _ _ _ _ _ _ _ _ from ⟨hF.fx.step (.inl rfl), nt hF.size bQ.size, hF.bel.trans lW, fun h => Bool.noConfusion (show true = false from h), fun x hx dX => (bQ.block x (Nat.lt_of_lt_of_le hx hF.size) fun e => dX e.symm).trans (hF.hold x hx dX), fun h => (hF.v10 h).imp fun A h2 => h2.imp fun c h3 => ⟨h3.1, fun h4 => Bool.noConfusion (show true = false from h4), h3.2.2⟩, fun h => ⟨(hF.v11 h).1, (hF.v11 h).2.imp fun X h2 => ⟨h2.1, fun h4 => Bool.noConfusion (show true = false from h4)⟩⟩, fun _ => ⟨cZ, A7', c7', S'', rfl, bC, fun x hx => (fZ x hx).elim .inl fun h => .inr (h.elim (fun h => dZ x h) fun h => nt hF.size h)⟩, fun h => absurd (show d 13 = true from h) (by rw [hF.no13 (k := 12) (by decide) hd]; decide)⟩)
    ·have gA := hp 12
     have bO : ∀ j, j < 13 -> d j = true := fun j hj => by
      match j, hj with
      | 0, _ => exact hp 0
      | 1, _ => exact hp 1
      | 2, _ => exact hp 2
      | 3, _ => exact hp 3
      | 4, _ => exact hp 4
      | 5, _ => exact hp 5
      | 6, _ => exact hp 6
      | 7, _ => exact hp 7
      | 8, _ => exact hp 8
      | 9, _ => exact hp 9
      | 10, _ => exact hp 10
      | 11, _ => exact hp 11
      | 12, _ => exact hp 12
     have e1 := hS.res 12 56 gA
     refine Xa (v := val 12) _ rfl rfl ?_ (show OrG _ _ _ _ _ _ _ _ _ _ _ _ _ from { hF with fx := hF.fx.step (.inl rfl), v13 := fun _ => ⟨fun j hj => by unfold upI; rw [bO j hj, Bool.or_true], rfl⟩ })
     clear hF hS hd hp bO
     go_simp
   intro d val w' hF hd
   simp only [Exit.inBlock, Exit.then, Jd7, Act.put, List.setIfInBounds_toArray, List.set_cons_succ, List.set_cons_zero]
   refine ‹∀ (a' : Act) (w' : World), _ -> _› _ _ ?_
   obtain ⟨bO, e13⟩ := hF.v13 (hd 13 (by decide))
   have gA := bO 12 (by decide)
   obtain ⟨-, A7', c7', S'', e12, bC, fZ⟩ := hF.v12 gA
   rw [<- HRI.out] at bC
   rw [e13.trans e12]
   have H6 := lh (And.intro (show FrL w2.heap.size (RW (i + 1)) (i + 1) (.slice A7' (i + 1) c7') w' from ⟨A7', c7', S'', rfl, bC, fun x hx => (fZ x hx).elim (HNE.out.2 x) fun h => nt HBR.out.size h⟩) hF.bel)
   clear bO e13 gA e12 bC fZ hF hd z0 z1 z2 z3 z4 z5
   go_wp2_with fail
   exact ⟨⟨i + 1, by omega, by go_num, H6.out.1, H6.out.2⟩, by simp [intOf]; omega⟩
  as_aux_lemma =>
  obtain rfl : i = nr := by omega
  have k1 : ¬ (i : Int) < (i : Int) := by omega
  go_wp2_with fail
  refine (HPM.out _).mono ?_
  rintro e w5 ⟨rfl, rfl⟩
  clear z0 z1 z2 z3 z4 z5
  have HRR := lh (show ReadsS ReadsI wr wr.heap.size AR i (RW i) from Nest.reads (fun hr => NRow.readsI hr) HNE.out.1)
  clear HNE HPM HRN
  obtain ⟨K, hK⟩ : ∃ K, min i n'' = K := ⟨_, rfl⟩
  have mM : K <= i /\ K <= n'' := by omega
  have HKK := lh hK
  clear hK
  go_upto_block 2 with fail
  go_cut [24] (fun v wc => ∃ AW cW, v = .slice AW K cW /\ Own wc 3 zv (.slice AW K cW) (LB K) /\ Below wr.heap.size wr wc)
  case first =>
   as_aux_lemma =>
   go_wp2_with fail
   go_loopw [24, 25] (fun v p ws => ∃ k : Nat, k <= K /\ p = .int .i64 (k : Int) /\ Own ws 3 zv v (LB k) /\ (∀ b, v.ownBlock = some b -> wr.heap.size <= b) /\ Below wr.heap.size wr ws) (fun _ p _ => K - (intOf p).toNat)
   case atStart => exact ⟨0, by omega, rfl, by rw [HRZ.out.2.1]; exact Own.nil_ _ _ _, (fun b h => by cases h), Below.refl _ _⟩
   case round =>
    obtain ⟨k, hk, rfl, ho, aR, j7⟩ := hrel
    rename World => ws
    have HO := lh (And.intro ho (And.intro aR j7))
    obtain ⟨AV, cV, hv, -⟩ := ho.form
    rw [HRZ.out.2.2.2] at hv
    subst hv
    by_cases dT : k < K
    ·have k2 : (k : Int) < (i : Int) := by omega
     have k3 : (k : Int) < (n'' : Int) := by omega
     obtain ⟨ad, x, rfl, aM, hx, aZ⟩ := H''.out.1.at_ (show k < n'' by omega)
     have lZ := Qg ((HB2.out.trans (HBR.out.mono HB2.out.size)).trans (j7.mono (nt HB2.out.size HBR.out.size))) aZ aM
     have iU := H''.out.2 x (List.mem_of_getElem? hx)
     have gB := fun w' => Jpd x 5 w' iU.1 iU.2 (by decide) (by decide)
     rw [show ((5 : Nat) : Int) = 5 from rfl] at gB
     have fM := HLN.out k
     rw [List.getD_eq_getElem?_getD, hx, Option.getD_some] at fM
     obtain ⟨y, hy⟩ : ∃ y, x % 5 = y := ⟨_, rfl⟩
     rw [hy] at gB fM
     have mO : 0 <= y /\ y < 5 := by omega
     obtain ⟨u, hu⟩ : ∃ u, y - 1 = u := ⟨_, rfl⟩
     have mP : IntKind.i64.wrap (y - 1) = u := by rw [hu]; exact IntWalk.i64_in _ (by omega)
     rw [hu] at fM
     have HPX := lh gB
     have HWN := lh fM
     clear gB fM hy hu hx aZ iU ho aR j7
     go_wp2_with fail
     refine (HPX.out _).mono ?_
     rintro e w5 ⟨rfl, rfl⟩
     go_wp2_with (at_builtin; refine Joi (f := zv) Tryz.eltZ1 rfl (.tmp 69) (.tmp 76) rfl ws _ (LB k) u (.int .i64 u) rfl rfl HO.out.1 (by simp [Act.eval]) rfl (by rw [HRZ.out.2.2.2]; unfold maxLen; omega) (by rw [HRZ.out.2.2.2]; omega) ?_; intro v' w6 dY bQ; have bX := HO.out.2.2.trans (bQ.below HO.out.2.2.size HO.out.2.1); have dZ := bQ.fresh HO.out.2.2.size HO.out.2.1; rw [<- HWN.out] at dY; have H6 := lh (And.intro dY (And.intro dZ bX)); clear bX dZ dY bQ)
     exact ⟨⟨k + 1, by omega, by go_num, H6.out.1, H6.out.2.1, H6.out.2.2⟩, by simp [intOf]; omega⟩
    obtain rfl : K = k := by omega
    clear ho aR j7
    by_cases mQ : K < i
    ·have k2 : (K : Int) < (i : Int) := by omega
     have k3 : ¬ (K : Int) < (n'' : Int) := by have := HKK.out; omega
     go_wp2_with fail
     go_meet
     exact ⟨_, _, rfl, HO.out.1, HO.out.2.2⟩
    have k2 : ¬ (K : Int) < (i : Int) := by omega
    go_wp2_with fail
    go_meet
    exact ⟨_, _, rfl, HO.out.1, HO.out.2.2⟩
  case rest =>
   obtain ⟨AW, cW, rfl, ho, aB⟩ := hcut
   rename World => w3
   have HRC := lh (NRow.readsI (NRow.of ho))
   have HLL : Hid ((LB K).length = K) := lh (HRZ.out.2.2.2 K)
   have HB3 := lh (HBR.out.trans (aB.mono HBR.out.size))
   have HRR3 := lh (((Ja5 rkindI).more ((Ja5 rkindI).below HRR.out aB) aB.size))
   clear ho aB HRR HBR
   obtain ⟨R, hR⟩ : ∃ R, RW i = R := ⟨_, rfl⟩
   obtain ⟨C, hC⟩ : ∃ C, LB K = C := ⟨_, rfl⟩
   have dK := HRX.out
   rw [hR] at HRR3 dK
   rw [hC] at HRC HLL
   have HRX := lh dK
   have HK5 : Hid (K <= 5) := lh (by omega)
   clear dK hR hC
   obtain ⟨f1, bW⟩ : ∃ f1, (Jif M R C).2 = f1 := ⟨_, rfl⟩
   obtain ⟨D1, kN⟩ : ∃ D1, (Jif M R C).1 = D1 := ⟨_, rfl⟩
   have HT1 := lh (show Jif M R C = (D1, f1) from by rw [<- bW, <- kN])
   clear bW kN
   obtain ⟨x0, x1, x2, x3, x4, x5⟩ := (BK.out.below HB3.out cG).c6
   go_upto_region 12 with fail
   go_cut [26, 27] (fun v u wc => ∃ g, v = .pointer (some ⟨g, 0, none⟩) /\ u = .int .i64 f1 /\ CkM f1 D1 g wc /\ Below w3.heap.size w3 wc)
   case first =>
    as_aux_lemma =>
    have iV := And.intro ((HM2.out.1.below HB3.out).more HB3.out.size) ((HM2.out.2.below HB3.out).more HB3.out.size)
    have HIN := lh (Jqw ng A7 A8 l7 d7 l8 d8 X1 X2 X3 n1 c1 n2 c2 n3 c3 w3.heap.size M w3 iV.2 iV.1 zd HQ.out.2.1 (HQ.out.1.mono (by omega)) (HT.out.next (HB2.out.trans (HB3.out.mono HB2.out.size))))
    clear iV
    go_wp2_with fail
    refine HIN.out.mono ?_
    rintro e w4 ⟨v, rfl, ⟨⟨Z1, z1, y1⟩, ⟨Z2, z2, y2⟩, ⟨Z3, z3, y3⟩, F1, G1, H1, rfl, ho⟩, aW⟩
    simp only [SW.v]
    have y9 := Jkj Z1 Z2 Z3 z1 y1 z2 y2 z3 y3 w4.heap.size M AR i cR R AW K cW C w4 ho.read ((Ja5 rkindI).more ((Ja5 rkindI).below HRR3.out aW) aW.size) (rkindI.more (rkindI.below HRC.out aW) aW.size) zd HQ.out.2.1 (by omega) HRX.out (by have := HK5.out; omega) (HQ.out.1.mono (by omega))
    rw [HT1.out] at y9
    have HTE := lh y9
    have HB4 := lh aW
    clear y9 aW ho x0 x1 x2 x3 x4 x5 HIN
    go_wp2_with fail
    refine HTE.out.mono ?_
    rintro e w5 ⟨v, rfl, hv, t7⟩
    have HB5 := lh (HB4.out.trans (t7.mono HB4.out.size))
    rcases hv with ⟨h0, u, rfl, AV, cV, gS, gC, F, G, Hh, rfl, ho⟩ | ⟨h0, rfl⟩
    ·have cF : f1 = 0 := h0
     subst cF
     have HO := lh ho
     clear t7 ho h0
     go_wp2_with fail
     go_meet
     exact ⟨_, rfl, rfl, .inl ⟨rfl, _, _, _, Blk.new _ _ _, (HO.out.next (Jb _ _)).read⟩, HB5.out.trans ((Jb _ _).mono HB5.out.size)⟩
    have HF0 := lh (show f1 ≠ 0 from h0)
    clear t7 h0
    go_wp2_with fail
    go_meet
    exact ⟨_, rfl, rfl, .inr ⟨HF0.out, Blk.new _ _ _⟩, HB5.out.trans ((Jb _ _).mono HB5.out.size)⟩
   case rest =>
    obtain ⟨g21, rfl, rfl, kO, aB⟩ := hcut
    rename World => w4
    have HC1 := lh kO
    have HB4 := lh (HB3.out.trans (aB.mono HB3.out.size))
    have HRR4 := lh (((Ja5 rkindI).more ((Ja5 rkindI).below HRR3.out aB) aB.size))
    have HRC4 := lh (rkindI.more (rkindI.below HRC.out aB) aB.size)
    clear kO aB x0 x1 x2 x3 x4 x5 HRR3 HRC
    obtain ⟨x0, x1, x2, x3, x4, x5⟩ := (BK.out.below HB4.out cG).c6
    go_upto_region 13 with fail
    go_cut [28, 29] (fun v u wc => ∃ g, v = .pointer (some ⟨g, 0, none⟩) /\ u = .int .i64 f1 /\ CkD f1 (.bool ng) (.slice A7 l7 d7) (.slice A8 l8 d8) ⟨X1, n1, c1⟩ D1 g wc /\ Below w4.heap.size w4 wc)
    case first =>
     as_aux_lemma =>
     have iW := And.intro ((HM2.out.1.below HB4.out).more HB4.out.size) ((HM2.out.2.below HB4.out).more HB4.out.size)
     have y9 := Jv5 ng A7 A8 l7 d7 l8 d8 X1 X2 X3 n1 c1 n2 c2 n3 c3 w4.heap.size M AR i cR R AW K cW C w4 iW.2 iW.1 HRR4.out HRC4.out zd HQ.out.2.1 (by omega) HRX.out (by have := HK5.out; omega)
     rw [HT1.out] at y9
     have HTE := lh y9
     clear y9 iW
     go_wp2_with fail
     refine HTE.out.mono ?_
     rintro e w5 ⟨v, rfl, hv, t7⟩
     have HB5 := lh t7
     rcases hv with ⟨h0, ⟨S1, s1, t1⟩, ⟨S2, s2, t2⟩, rfl, hr⟩ | ⟨h0, rfl⟩
     ·have cF : f1 = 0 := h0
      subst cF
      have HO := lh hr
      simp only [SW.v]
      clear t7 hr h0 x0 x1 x2 x3 x4 x5
      go_wp2_with fail
      go_meet
      have aQ := Jb w5 (.cells #[.bool ng, .slice A7 l7 d7, .slice A8 l8 d8, .slice X1 n1 c1, .slice S1 s1 t1, .slice S2 s2 t2] 31)
      exact ⟨_, rfl, rfl, fun _ => ⟨⟨S1, s1, t1⟩, ⟨S2, s2, t2⟩, Blk.new _ _ _, (HO.out.below aQ).more aQ.size⟩, HB5.out.trans (aQ.mono HB5.out.size)⟩
     have HF0 := lh (show f1 ≠ 0 from h0)
     clear t7 h0 x0 x1 x2 x3 x4 x5
     go_wp2_with fail
     go_meet
     exact ⟨_, rfl, rfl, fun h => absurd h HF0.out, HB5.out.trans ((Jb _ _).mono HB5.out.size)⟩
    case rest =>
     obtain ⟨g23, rfl, rfl, kP, aB⟩ := hcut
     rename World => w7
     have HC17 := lh (HC1.out.next aB)
     have HD17 := lh kP
     have HB7 := lh (HB4.out.trans (aB.mono HB4.out.size))
     clear kP aB x0 x1 x2 x3 x4 x5 HRR4 HRC4 HC1
     obtain ⟨b1, B1, r1, B2, v2, r2, B3, v3, r3, E2, t2, E3, t3, gE⟩ := Ju2 HC17.out HD17.out
     have HS1 : Hid (b1 = true -> D1.smooth = M.smooth /\ LenB D1) := lh fun hb => by have h := Jv3 (rows := R) (ls := C) HQ.out.2.1 (by rw [HT1.out]; exact (gE.2.1 hb).1); rw [HT1.out] at h; exact h
     have HPA := lh gE
     have u1 := gE.1
     have u2 : (f1 == f1) = true := by simp
     have HMA := lh ((HM2.out.1.below HB7.out).more HB7.out.size)
     have HTT := lh (HT.out.next (HB2.out.trans (HB7.out.mono HB2.out.size)))
     clear gE HC17 HD17
     go_wp2_with fail
     refine (HKN.out w7 HTT.out).mono ?_
     rintro e w8 ⟨rfl, hb⟩
     have HW8 := lh hb
     clear hb
     cases b1 with
     | true =>
      have hq := HPA.out.2.1 rfl
      have k8 : (f1 != 0) = false := u1
      have k9 : (f1 == 0) = true := by rw [hq.1]; rfl
      have HS := lh (Jrn B1 B2 B3 n1 r1 v2 r2 v3 r3 ng A7 A8 l7 d7 l8 d8 X1 E2 E3 c1 t2 t3 w8.heap.size D1 w8 ((hq.2.2.1.below HW8.out).more HW8.out.size) ((hq.2.2.2.2.below HW8.out).more HW8.out.size) (by rw [(HS1.out rfl).1]; exact (HMA.out.below HW8.out).more HW8.out.size) zd (HS1.out rfl).2 (by rw [(HS1.out rfl).1]; exact HQ.out.1.mono (by omega)))
      obtain ⟨y0, y1, y2, y3, y4, y5, y6, y7⟩ := Blk.c8 (hq.2.1.below HW8.out hq.2.1.lt)
      obtain ⟨x0, x1, x2, x3, x4, x5⟩ := Blk.c6 (hq.2.2.2.1.below HW8.out hq.2.2.2.1.lt)
      clear hq
      go_wp2_with fail
      (with_reducible refine HS.out.mono ?_)
      rintro e w9 ⟨rfl, hb⟩
      have Hw9 := lh (HW8.out.trans (hb.mono HW8.out.size))
      clear hb HS y0 y1 y2 y3 y4 y5 y6 y7 x0 x1 x2 x3 x4 x5
      go_wp2_with fail
      go_ret
      exact ⟨rfl, HB2.out.trans ((HB7.out.trans (Hw9.out.mono HB7.out.size)).mono HB2.out.size)⟩
     | false =>
      have hq := HPA.out.2.2 rfl
      have k8 : (f1 != 0) = true := u1
      have k9 : (f1 == 0) = false := by simpa using u1
      obtain ⟨y0, y1, y2, y3, y4, y5, y6, y7⟩ := Blk.c8 (hq.below HW8.out hq.lt)
      clear hq
      go_wp2_with fail
      refine (Juj w8).mono ?_
      rintro e w9 ⟨rfl, hb⟩
      have Hw9 := lh (HW8.out.trans (hb.mono HW8.out.size))
      clear hb y0 y1 y2 y3 y4 y5 y6 y7
      go_wp2_with fail
      go_ret
      exact ⟨rfl, HB2.out.trans ((HB7.out.trans (Hw9.out.mono HB7.out.size)).mono HB2.out.size)⟩
