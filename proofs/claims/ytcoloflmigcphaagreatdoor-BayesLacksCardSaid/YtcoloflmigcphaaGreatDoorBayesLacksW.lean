import Derived.Test.YtcoloflmigcphaaGreatDoorBayesC
import Derived.Test.YtcoloflmigcphaaGreatDoorHandRows
import Derived.Test.YtcoloflmigcphaaGreatDoorBayesY
namespace Go.Proofs.YtcoloflmigcphaaGreatDoor
set_option maxRecDepth 100000
set_option maxHeartbeats 8000000
open Go.RowKit
set_option linter.all false
theorem Jlf : LenB kn0 := Za Jj0
theorem Jle : LenB kn1 := Za Jjz
theorem Jaj (w : World) (x : Int) : ReadsI (w.alloc (.cells #[.int .i64 x] 3)) (w.alloc (.cells #[.int .i64 x] 3)).heap.size (some ⟨w.heap.size, 0, none⟩) 1 [x] := rkindI.more (Reads.one w (zv x) _) (by show w.heap.size + 1 <= (w.heap.push _).size; rw [Array.size_push]; exact Nat.le_refl _)
theorem Jnm : ∃ (m0 m1 : BM) (a b : Rat), Jdk 2 [2] 1 = (m0, 0) /\ Xg m0 [0] 0 = (m1, 0) /\ Qo m1 [0] = ([a, b], 0) /\ LenB m0 /\ LenB m1 /\ QS 1000 m0.smooth /\ QS 1000 m1.smooth /\ QS 1000 a /\ QS 1000 b /\ a = Rat.divInt 8 11 /\ b = Rat.divInt 3 11 :=
 ⟨kn0, kn1, _, _, Jnl, Jld, Jh6, Jlf, Jle, ⟨Nat.le_of_ble_eq_true (by kernel_rfl), Nat.le_of_ble_eq_true (by kernel_rfl)⟩, ⟨Nat.le_of_ble_eq_true (by kernel_rfl), Nat.le_of_ble_eq_true (by kernel_rfl)⟩, ⟨Nat.le_of_ble_eq_true (by kernel_rfl), Nat.le_of_ble_eq_true (by kernel_rfl)⟩, ⟨Nat.le_of_ble_eq_true (by kernel_rfl), Nat.le_of_ble_eq_true (by kernel_rfl)⟩, by decide +kernel, by decide +kernel⟩
theorem Jgy (w : World) (hT : Tab w) : Calls Tryz.prog 19 #[] w (Ret (.bool true) w) := by
 obtain ⟨m0, m1, a, b, h1, h2, h3, h4, h5, h6, h7, h8, h9, q8, fS⟩ := Jnm
 have dK := fun w => Vo 1 w (by decide) (by decide)
 obtain ⟨q1, dL⟩ : ∃ q1 : Rat, ((1 : Int) : Rat) = q1 := ⟨_, rfl⟩
 have cI : (1 : Rat) = q1 := dL
 rw [cI] at h1
 rw [dL] at dK
 have bC : QS 1099511627776 q1 := by rw [<- dL]; exact (QS.cnt (k := 1) (by decide) (by decide) (by decide)).mono (by decide)
 unfold qV at dK
 have HOF := lh dK
 have HNW : Hid (∀ (w : World) (X : Addr), ReadsI w w.heap.size (some X) 1 [2] -> Calls Tryz.prog 15 #[.int .i64 2, .slice (some X) 1 1, .agg #[.bool (decide (q1.num < 0)), .int .u64 (lo q1.num.natAbs : Int), .string (mo q1.num.natAbs), .int .u64 (lo ((qden q1)) : Int), .string (mo ((qden q1)))]] w fun e w' => ∃ u, e = .returned (.tuple #[u, .int .i64 0]) /\ ModB w.heap.size 1 2 2 m0 u w' /\ Below w.heap.size w w') := lh fun w X h => by
  refine (Vp 2 (some X) 1 1 w.heap.size [2] q1 w h zd (by omega) bC).mono ?_
  rintro e w' ⟨v, rfl, hv, hb⟩
  rw [h1] at hv
  rcases hv with ⟨-, u, rfl, hm⟩ | ⟨h0, -⟩
  ·exact ⟨u, rfl, hm, hb⟩
  exact absurd rfl h0
 have HTE : Hid (∀ (w : World) (AW : Option Addr) (cW gS gC : Nat) (X : Addr), RdB w w.heap.size ⟨AW, 1, cW⟩ ⟨some ⟨gS, 0, none⟩, 2, 2⟩ ⟨some ⟨gC, 0, none⟩, 2, 2⟩ m0 -> ReadsI w w.heap.size (some X) 1 [0] -> Calls Tryz.prog 29 #[.agg #[.bool (decide (m0.smooth.num < 0)), .int .u64 (lo m0.smooth.num.natAbs : Int), .string (mo m0.smooth.num.natAbs), .int .u64 (lo ((qden m0.smooth)) : Int), .string (mo ((qden m0.smooth))), .slice AW 1 cW, .slice (some ⟨gS, 0, none⟩) 2 2, .slice (some ⟨gC, 0, none⟩) 2 2], .slice (some X) 1 1, .int .i64 0] w fun e w' => ∃ u, e = .returned (.tuple #[u, .int .i64 0]) /\ ModB w.heap.size 1 2 2 m1 u w' /\ Below w.heap.size w w') := lh fun w AW cW gS gC X h h' => by
  refine (Jb3 AW (some ⟨gS, 0, none⟩) (some ⟨gC, 0, none⟩) 1 cW 2 2 2 2 w.heap.size m0 (some X) 1 1 [0] 0 w h h' zd h4 (by omega) (h6.mono (by omega))).mono ?_
  rintro e w' ⟨v, rfl, hv, hb⟩
  rw [h2] at hv
  rcases hv with ⟨-, u, rfl, hm⟩ | ⟨h0, -⟩
  ·exact ⟨u, rfl, hm, hb⟩
  exact absurd rfl h0
 have HCH : Hid (∀ (w : World) (AW : Option Addr) (cW gS gC : Nat) (X : Addr), RdB w w.heap.size ⟨AW, 1, cW⟩ ⟨some ⟨gS, 0, none⟩, 2, 2⟩ ⟨some ⟨gC, 0, none⟩, 2, 2⟩ m1 -> ReadsI w w.heap.size (some X) 1 [0] -> Tab w -> Calls Tryz.prog 24 #[.agg #[.bool (decide (m1.smooth.num < 0)), .int .u64 (lo m1.smooth.num.natAbs : Int), .string (mo m1.smooth.num.natAbs), .int .u64 (lo ((qden m1.smooth)) : Int), .string (mo ((qden m1.smooth))), .slice AW 1 cW, .slice (some ⟨gS, 0, none⟩) 2 2, .slice (some ⟨gC, 0, none⟩) 2 2], .slice (some X) 1 1] w fun e w' => ∃ g, e = .returned (.tuple #[.slice (some ⟨g, 0, none⟩) 2 2, .int .i64 0]) /\ AtQ w' g 0 a /\ AtQ w' g 5 b /\ g < w'.heap.size /\ Below w.heap.size w w') := lh fun w AW cW gS gC X h h' hT => by
  refine (Vu AW (some ⟨gS, 0, none⟩) (some ⟨gC, 0, none⟩) 1 cW 2 2 2 2 w.heap.size m1 (some X) 1 1 [0] w h h' zd h5 (by omega) h7 hT).mono ?_
  rintro e w' ⟨v, rfl, hv, hb⟩
  rw [h3] at hv
  rcases hv with ⟨-, g, rfl, hg, ho⟩ | ⟨h0, -⟩
  ·have e0 := OwnQ.at_ ho (k := 0) rfl
   have e1 := OwnQ.at_ ho (k := 1) rfl
   exact ⟨g, rfl, e0, e1, Xw e0.c5.1, hb⟩
  exact absurd rfl h0
 have eG := fun w => Ji4 a 8 11 w (by omega) (by omega) (by omega) (by omega) (by omega) q8 (h8.mono (by omega))
 have eH := fun w => Ji4 b 3 11 w (by omega) (by omega) (by omega) (by omega) (by omega) fS (h9.mono (by omega))
 unfold qV at eG eH
 have HI1 := lh eG
 have HI2 := lh eH
 have HT := lh hT
 clear eG eH hT dK h1 h2 h3 h4 h5 h6 h7 h8 h9 q8 fS dL cI bC
 go_enter Tryz.func19, Tryz.ntmps19
 go_wp2_with fail
 refine (HOF.out _).mono ?_
 rintro e w1 ⟨rfl, bK⟩
 have hr := rkindI.below (Jaj w 2) bK
 have HR := lh (rkindI.more hr bK.size)
 have HB1 := lh (Ja (Jb w (.cells #[.int .i64 2] 3)) bK)
 clear bK hr
 go_wp2_with fail
 refine (HNW.out w1 _ HR.out).mono ?_
 rintro e w2 ⟨u, rfl, ⟨AW, cW, gS, gC, F, G, H, rfl, ho⟩, o9⟩
 have HB2 := lh (Ja HB1.out o9)
 have HO := lh ho
 clear o9 ho HR HB1 HNW HOF
 go_upto_region 2 with fail
 have b0 := Blk.new w2 43 #[.bool (decide (m0.smooth.num < 0)), .int .u64 (lo m0.smooth.num.natAbs : Int), .string (mo m0.smooth.num.natAbs), .int .u64 (lo ((qden m0.smooth)) : Int), .string (mo ((qden m0.smooth))), .slice AW 1 cW, .slice (some ⟨gS, 0, none⟩) 2 2, .slice (some ⟨gC, 0, none⟩) 2 2]
 have j7 := Jb w2 (.cells #[.bool (decide (m0.smooth.num < 0)), .int .u64 (lo m0.smooth.num.natAbs : Int), .string (mo m0.smooth.num.natAbs), .int .u64 (lo ((qden m0.smooth)) : Int), .string (mo ((qden m0.smooth))), .slice AW 1 cW, .slice (some ⟨gS, 0, none⟩) 2 2, .slice (some ⟨gC, 0, none⟩) 2 2] 43)
 generalize w2.alloc (.cells #[.bool (decide (m0.smooth.num < 0)), .int .u64 (lo m0.smooth.num.natAbs : Int), .string (mo m0.smooth.num.natAbs), .int .u64 (lo ((qden m0.smooth)) : Int), .string (mo ((qden m0.smooth))), .slice AW 1 cW, .slice (some ⟨gS, 0, none⟩) 2 2, .slice (some ⟨gC, 0, none⟩) 2 2] 43) = w3 at *
 have bD : w.heap.size <= w2.heap.size := HB2.out.size
 have bY := HO.out.next j7
 have HB3 := lh (Ja HB2.out j7)
 generalize w2.heap.size = g at *
 have hr := Jaj w3 0
 have aP := Jb w3 (.cells #[.int .i64 0] 3)
 have aB := (bY.next aP).read
 have b4 := b0.below aP b0.lt
 have HTE2 := lh (HTE.out _ AW cW gS gC _ aB hr)
 have HB4 := lh (Ja HB3.out aP)
 have dM := b4.lt
 obtain ⟨x0, x1, x2, x3, x4, x5, x6, x7⟩ := b0.c8
 have B4 := lh (And.intro b4 dM)
 clear bY j7 hr aP aB HTE HO HB2 HB3 b4 dM b0
 go_wp2_with fail
 refine HTE2.out.mono ?_
 rintro e w5 ⟨u, rfl, ⟨AW5, cW5, gS5, gC5, F5, G5, H5, rfl, cJ⟩, q9⟩
 have HB5 := lh (Ja HB4.out q9)
 have B5 := lh (B4.out.1.below q9 B4.out.2)
 have HN5 := lh (show ¬ F5 g /\ ¬ G5 g /\ ¬ H5 g from ⟨fun e => by have := cJ.from1 _ e; have := B4.out.2; omega, fun e => by have := cJ.from2 _ e; have := B4.out.2; omega, fun e => by have := cJ.from3 _ e; have := B4.out.2; omega⟩)
 have HO5 := lh cJ
 clear q9 cJ HTE2 HB4 B4 x0 x1 x2 x3 x4 x5 x6 x7
 go_wp2_with (refine Jr rfl _ (.tmp 1) (.tmp 16) rfl g #[.bool (decide (m1.smooth.num < 0)), .int .u64 (lo m1.smooth.num.natAbs : Int), .string (mo m1.smooth.num.natAbs), .int .u64 (lo ((qden m1.smooth)) : Int), .string (mo ((qden m1.smooth))), .slice AW5 1 cW5, .slice (some ⟨gS5, 0, none⟩) 2 2, .slice (some ⟨gC5, 0, none⟩) 2 2] _ rfl rfl _ B5.out (by kernel_rfl) rfl (by simp [Value.oneCell']) ?_; intro w7 aD cK; have HX7 := lh cK; have B7 := lh aD; obtain ⟨x0, x1, x2, x3, x4, x5, x6, x7⟩ := aD.c8; clear aD cK)
 have cL := HO5.out.exc HX7.out HN5.out.1 HN5.out.2.1 HN5.out.2.2
 have HB7 := lh (HB5.out.trans (HX7.out.below HB5.out.size bD))
 have hr := Jaj w7 0
 have aQ := Jb w7 (.cells #[.int .i64 0] 3)
 have aB := (cL.next aQ).read
 have HB8 := lh (Ja HB7.out aQ)
 have HCH2 := lh (HCH.out _ AW5 cW5 gS5 gC5 _ aB hr (HT.out.next HB8.out))
 clear cL hr aQ aB HCH HB7 HB5 HN5 HX7 B5 B7 HO5
 refine HCH2.out.mono ?_
 rintro e w9 ⟨g9, rfl, d0, d1, dM, fT⟩
 have HB9 := lh (Ja HB8.out fT)
 clear HCH2 fT HB8 x0 x1 x2 x3 x4 x5 x6 x7
 obtain ⟨x0, x1, x2, x3, x4⟩ := d0.c5
 obtain ⟨y0, y1, y2, y3, y4⟩ := d1.c5
 go_wp2_with fail
 refine (HI1.out _).mono ?_
 rintro e wa ⟨rfl, s9⟩
 have d1 := d1.below s9 dM
 have HBA := lh (Ja HB9.out s9)
 clear s9 x0 x1 x2 x3 x4 y0 y1 y2 y3 y4 HI1 HB9 d0
 obtain ⟨y0, y1, y2, y3, y4⟩ := d1.c5
 go_wp2_with fail
 refine (HI2.out _).mono ?_
 rintro e wb ⟨rfl, eI⟩
 have HBB := lh (Ja HBA.out eI)
 clear eI y0 y1 y2 y3 y4 HI2 HBA d1
 go_wp2
 go_ret
 exact ⟨rfl, HBB.out⟩
def DocQ (m : BM) (v : Value) (w : World) : Prop := ∃ (ng : Bool) (A7 A8 : Option Addr) (l7 d7 l8 d8 : Nat) (W S C : SW), v = .agg #[.bool ng, .slice A7 l7 d7, .slice A8 l8 d8, W.v, S.v, C.v] /\ IsQ w w.heap.size (.agg #[.bool ng, .slice A7 l7 d7, .slice A8 l8 d8]) m.smooth /\ RdB w w.heap.size W S C m
def Joq (cols : Int) (k : Nat) : List Int := (List.range k).map fun (c : Nat) => (cols.tdiv 3 + (c : Int)) % 3 + 1
theorem Jpg (cols : Int) (k : Nat) : Joq cols (k + 1) = Joq cols k ++ [(cols.tdiv 3 + (k : Int)) % 3 + 1] := by
 unfold Joq
 rw [List.range_succ, List.map_append]
 rfl
theorem Jow (cols : Int) (k : Nat) : (Joq cols k).length = k := by simp [Joq]
theorem Jph {x : Int} (h : -9223372036854775808 <= x /\ x <= 9223372036854775807) : (-4611686018427387904 <= x.tdiv 3 /\ x.tdiv 3 <= 4611686018427387904) /\ -4611686018427387904 <= x.tdiv 4 /\ x.tdiv 4 <= 4611686018427387904 := by
 rcases Int.le_total 0 x with h0 | h0
 ·rw [Int.tdiv_eq_ediv_of_nonneg h0, Int.tdiv_eq_ediv_of_nonneg h0]
  omega
 have e : x.tdiv 4 = -((-x).tdiv 4) := by rw [Int.neg_tdiv]; omega
 have e' : x.tdiv 3 = -((-x).tdiv 3) := by rw [Int.neg_tdiv]; omega
 rw [e, e', Int.tdiv_eq_ediv_of_nonneg (by omega), Int.tdiv_eq_ediv_of_nonneg (by omega)]
 omega
theorem Jpk {f : Nat} {m : BM} {l : List Int} {i : Nat} (h : ¬ (i + m.words.length < l.length /\ i < 24)) : Jop f m l i = m := by
 cases f with
 | zero => rfl
 | succ f => unfold Jop; rw [if_neg h]
theorem Jpl {f n : Nat} {m : BM} {l : List Int} {i : Nat} (hd : DrawnB m n) (hn : n < 1073741824) (h : i + m.words.length < l.length /\ i < 24) (hf : 24 <= f + i) :
  ∃ (f' : Nat), f = f' + 1 /\ Xg m (Jkx (l.drop (i + 1)) m.words) (l.getD i 0 % (m.seen.length : Int)) = (Jn m (Jkx (l.drop (i + 1)) m.words) (l.getD i 0 % (m.seen.length : Int)).toNat 1, 0) /\ DrawnB (Jn m (Jkx (l.drop (i + 1)) m.words) (l.getD i 0 % (m.seen.length : Int)).toNat 1) (n + 1) /\ Jop f m l i = Jop f' (Jn m (Jkx (l.drop (i + 1)) m.words) (l.getD i 0 % (m.seen.length : Int)).toNat 1) l (i + m.words.length + 1) := by
 obtain ⟨h1, h2⟩ := hd.moved (hd.rowOk (l.drop (i + 1))) (hd.class_ (l.getD i 0)) hn
 obtain ⟨f', rfl⟩ : ∃ f', f = f' + 1 := ⟨f - 1, by omega⟩
 refine ⟨f', rfl, h1, h2, ?_⟩
 rw [Jop, if_pos h, h1, if_pos rfl]
def DrS (L : Nat) (g : Nat) (x0 x1 x2 : Value) (m : BM) (w : World) : Prop := ∃ (W S C : SW) (F G H : Nat -> Prop), Blk w g 31 #[x0, x1, x2, W.v, S.v, C.v] /\ OwB 3 22 65 L w W S C F G H m /\ (¬ F g /\ ¬ G g /\ ¬ H g)
def DrI (ws : List Int) (q : Rat) (l : List Int) (M0 : BM) (L g : Nat) (x0 x1 x2 : Value) (w5 : World) (i : Nat) (w : World) : Prop := ∃ (f nT : Nat) (mm : BM), i <= 40 /\ 24 <= f + i /\ Jop f mm l i = M0 /\ DrawnB mm nT /\ nT <= i /\ mm.words = ws /\ mm.smooth = q /\ DrS L g x0 x1 x2 mm w /\ Below L w5 w
def Jpi (m : BM) (y : Int) (k c : Nat) (b : Int) : BM :=
 if y = 0 then { m with seen := m.seen.set k b }
 else if y = 1 then { m with counts := m.counts.set k ((m.counts.getD k []).set c (((m.counts.getD k []).getD c []).set 0 b)) }
 else if y = 2 then { m with smooth := (b : Rat) }
 else if y = 3 then { m with words := m.words.set c b }
 else if y = 4 then { m with counts := m.counts.set k ((m.counts.getD k []).drop 1) }
 else if y = 5 then { m with seen := m.seen.drop 1 }
 else if y = 6 then { m with seen := m.seen.set k 1073741824 }
 else m
theorem Jpo (m : BM) (way at_ by_ : Int) : Jo6 m way at_ by_ = Jpi m (way % 14) (at_ % (m.seen.length : Int)).toNat ((at_.tdiv 3) % (m.words.length : Int)).toNat (by_ % 9 - 2) := rfl
theorem Jo2 {m : BM} {y : Int} {k c : Nat} {b : Int} (h : ¬ (y = 0 \/ y = 1 \/ y = 2 \/ y = 3 \/ y = 4 \/ y = 5 \/ y = 6)) : Jpi m y k c b = m := by
 unfold Jpi
 rw [if_neg (by omega), if_neg (by omega), if_neg (by omega), if_neg (by omega), if_neg (by omega), if_neg (by omega), if_neg (by omega)]
def DrQ (g g' : Nat) (m : BM) (w : World) : Prop := ∃ (ng : Bool) (A7 A8 : Option Addr) (l7 d7 l8 d8 : Nat) (W S C : SW), Blk w g 31 #[.bool ng, .slice A7 l7 d7, .slice A8 l8 d8, W.v, S.v, C.v] /\ ∀ w', Exc g' w w' -> IsQ w' w'.heap.size (.agg #[.bool ng, .slice A7 l7 d7, .slice A8 l8 d8]) m.smooth /\ RdB w' w'.heap.size W S C m
theorem Jq1 {a : Bool} {A1 A2 A3 A4 A5 : Option Addr} {l1 c1 l2 c2 l3 c3 l4 c4 l5 c5 : Nat} : ∀ i x : Nat, (#[Value.bool a, .slice A1 l1 c1, .slice A2 l2 c2, .slice A3 l3 c3, .slice A4 l4 c4, .slice A5 l5 c5])[i]? ≠ some (Ju x) := by
 intro i x h
 match i with
 | 0 => simp [Ju] at h
 | 1 => simp [Ju] at h
 | 2 => simp [Ju] at h
 | 3 => simp [Ju] at h
 | 4 => simp [Ju] at h
 | 5 => simp [Ju] at h
 | n + 6 => simp at h
def DrF (ws : List Int) (q : Rat) (M0 : BM) (L g : Nat) (x0 x1 x2 : Value) (w5 : World) (w : World) : Prop := ∃ nT : Nat, nT <= 40 /\ DrawnB M0 nT /\ M0.words = ws /\ M0.smooth = q /\ DrS L g x0 x1 x2 M0 w /\ Below L w5 w
def DrM (L : Nat) (x0 x1 x2 xw : Value) (m : BM) (u : Value) (w : World) (X : Nat -> Prop) : Prop := ∃ (S C : SW) (G H : Nat -> Prop), u = .agg #[x0, x1, x2, xw, S.v, C.v] /\ NRow 3 zv w G S.v m.seen /\ Nest 65 (Nest 22 (NRow 3 zv)) w H C.v m.counts /\ (∀ k, G k -> L <= k /\ ¬ H k) /\ (∀ k, H k -> L <= k) /\ ∀ g, X g -> ¬ G g /\ ¬ H g
theorem DrM.next {L : Nat} {x0 x1 x2 xw u : Value} {m : BM} {w w' : World} {X Y : Nat -> Prop} (h : DrM L x0 x1 x2 xw m u w X) (hb : Below w.heap.size w w') (hY : ∀ g, Y g -> X g \/ w.heap.size <= g) : DrM L x0 x1 x2 xw m u w' Y := by
 obtain ⟨S, C, G, H, e, hs, hc, h1, h2, h3⟩ := h
 have hr := Js 3 zv
 refine ⟨S, C, G, H, e, hr.loc hs hb.size fun k hk => hb.block k (hr.lt hs hk), hc.next (Xt hr _) hb, h1, h2, fun g hg => ?_⟩
 rcases hY g hg with h | h
 ·exact h3 g h
 exact ⟨fun e => by have := hr.lt hs e; omega, fun e => by have := hc.lt (Xt hr _) e; omega⟩
theorem DrM.exc {L g : Nat} {x0 x1 x2 xw u : Value} {m : BM} {w w' : World} {X : Nat -> Prop} (h : DrM L x0 x1 x2 xw m u w X) (hx : Exc g w w') (hg : X g) : DrM L x0 x1 x2 xw m u w' X := by
 obtain ⟨S, C, G, H, e, hs, hc, h1, h2, h3⟩ := h
 have hr := Js 3 zv
 exact ⟨S, C, G, H, e, hr.loc hs hx.size fun k hk => hx.block k (hr.lt hs hk) fun e => (h3 g hg).1 (by rw [<- e]; exact hk), hc.loc (Xt hr _) hx.size fun k hk => hx.block k (hc.lt (Xt hr _) hk) fun e => (h3 g hg).2 (by rw [<- e]; exact hk), h1, h2, h3⟩
structure DrR (W : World) (x0 x1 x2 xw : Value) (n1 : Nat) (row : List Int) (m : BM) (FX : Nat -> Option Value) (d : Nat -> Bool) (val : Nat -> Value) (w : World) : Prop where
 bel : Below W.heap.size W w
 fx : Fixed FX d val
 v6 : d 6 = true -> ∃ A c, val 6 = .slice A n1 c /\ (d 15 = false -> ReadsI w w.heap.size A n1 row)
 v15 : d 15 = true -> ∃ c0 c1 c2 c3 c4 c5, val 15 = .tuple #[.agg #[c0, c1, c2, c3, c4, c5], .int .i64 0] /\ (#[c0, c1, c2, c3, c4, c5].all (·.oneCell') = true) /\ DrM W.heap.size x0 x1 x2 xw m (.agg #[c0, c1, c2, c3, c4, c5]) w fun g => d 19 = true /\ val 19 = .pointer (some ⟨g, 0, none⟩)
 v16 : d 16 = true -> d 15 = true /\ val 16 = val 15
 v17 : d 17 = true -> d 15 = true /\ ∀ u y, val 15 = .tuple #[u, y] -> val 17 = u
 v18 : d 18 = true -> d 15 = true /\ ∀ u y, val 15 = .tuple #[u, y] -> val 18 = y
 v19 : d 19 = true -> ∃ g y0 y1 y2 y3 y4 y5, val 19 = .pointer (some ⟨g, 0, none⟩) /\ W.heap.size <= g /\ Blk w g 31 #[y0, y1, y2, y3, y4, y5] /\ (d 20 = true -> d 17 = true /\ val 17 = .agg #[y0, y1, y2, y3, y4, y5])
 v20 : d 20 = true -> d 19 = true
 v21 : d 21 = true -> d 18 = true /\ val 21 = val 18
theorem DrR.next {W w w' : World} {x0 x1 x2 xw : Value} {n1 : Nat} {row : List Int} {m : BM} {FX : Nat -> Option Value} {d : Nat -> Bool} {val : Nat -> Value} (h : DrR W x0 x1 x2 xw n1 row m FX d val w) (hb : Below w.heap.size w w') : DrR W x0 x1 x2 xw n1 row m FX d val w' where
 bel := h.bel.trans (hb.mono h.bel.size)
 fx := h.fx
 v6 := fun h1 => (h.v6 h1).imp fun A h2 => h2.imp fun c h3 => ⟨h3.1, fun h4 => rkindI.more (rkindI.below (h3.2 h4) hb) hb.size⟩
 v15 := fun h1 => by
  obtain ⟨c0, c1, c2, c3, c4, c5, e, ho, hm⟩ := h.v15 h1
  exact ⟨c0, c1, c2, c3, c4, c5, e, ho, hm.next hb fun g hg => .inl hg⟩
 v16 := h.v16
 v17 := h.v17
 v18 := h.v18
 v19 := fun h1 => by
  obtain ⟨g, y0, y1, y2, y3, y4, y5, e, hg, hk, h2⟩ := h.v19 h1
  exact ⟨g, y0, y1, y2, y3, y4, y5, e, hg, hk.below hb hk.lt, h2⟩
 v20 := h.v20
 v21 := h.v21
theorem Jq6 {a b u y : Value} (h : #[a, b] = #[u, y]) : a = u /\ b = y := by simpa using h
theorem Jps {g g' : Nat} (h : Value.pointer (some ⟨g, 0, none⟩) = .pointer (some ⟨g', 0, none⟩)) : g = g' := by
 injection h with h
 injection h with h
 injection h with h
def DrC (L : Nat) (x0 x1 x2 xw : Value) (m : BM) (W : World) (v v20 : Value) (w : World) : Prop := ∃ (g : Nat) (S C : SW) (G H : Nat -> Prop), v = .pointer (some ⟨g, 0, none⟩) /\ v20 = .int .i64 0 /\ Blk w g 31 #[x0, x1, x2, xw, S.v, C.v] /\ NRow 3 zv w G S.v m.seen /\ Nest 65 (Nest 22 (NRow 3 zv)) w H C.v m.counts /\ (∀ k, G k -> L <= k /\ ¬ H k) /\ (∀ k, H k -> L <= k) /\ Below W.heap.size W w
theorem DrR.end_ {W w : World} {x0 x1 x2 xw : Value} {n1 : Nat} {row : List Int} {m : BM} {FX : Nat -> Option Value} {d : Nat -> Bool} {val : Nat -> Value} (hF : DrR W x0 x1 x2 xw n1 row m FX d val w) (hd : ∀ i, i < 22 -> d i = true) : DrC W.heap.size x0 x1 x2 xw m W (val 19) (val 21) w := by
 obtain ⟨c0, c1, c2, c3, c4, c5, e15, -, S, C, G, H, e0, hs, hc, h1, h2, -⟩ := hF.v15 (hd 15 (by decide))
 obtain ⟨g, y0, y1, y2, y3, y4, y5, e19, hg, hk, iQ⟩ := hF.v19 (hd 19 (by decide))
 have e8 := ((iQ (hd 20 (by decide))).2.symm.trans ((hF.v17 (hd 17 (by decide))).2 _ _ e15)).trans e0
 injection e8 with e8
 rw [e8] at hk
 exact ⟨g, S, C, G, H, e19, (hF.v21 (hd 21 (by decide))).2.trans ((hF.v18 (hd 18 (by decide))).2 _ _ e15), hk, hs, hc, h1, h2, hF.bel⟩
theorem Jqh {L : Nat} {x0 x1 x2 xw : Value} {m : BM} {v : Value} {w : World} (h : Jq7 L x0 x1 x2 xw (m, 0) v w) : ∃ u, v = .tuple #[u, .int .i64 0] /\ Jq3 L x0 x1 x2 xw m u w := by
 rcases h with ⟨-, u, rfl, hm⟩ | ⟨h0, -⟩
 ·exact ⟨u, rfl, hm⟩
 exact absurd rfl h0
theorem Jpt (A : Option Addr) (n c : Nat) (l : List Int) (classes cols smooth way at_ by_ : Int) (B : Nat) (w : World) (h : ReadsI w B A n l) (hB : B <= w.heap.size) (dN : n <= c) (hc : c <= 9223372036854775807) (hl : ∀ x ∈ l, -9223372036854775808 <= x /\ x <= 9223372036854775807)
  (i1 : -9223372036854775808 <= classes /\ classes <= 9223372036854775807) (i2 : -9223372036854775808 <= cols /\ cols <= 9223372036854775807) (i3 : -9223372036854775808 <= smooth /\ smooth <= 9223372036854775807) (i4 : -9223372036854775808 <= way /\ way <= 9223372036854775807) (i5 : -9223372036854775808 <= at_ /\ at_ <= 9223372036854775807) (i6 : -9223372036854775808 <= by_ /\ by_ <= 9223372036854775807) (i7 : 7 <= way % 14) :
  Calls Tryz.prog 12 #[.slice A n c, .int .i64 classes, .int .i64 cols, .int .i64 smooth, .int .i64 way, .int .i64 at_, .int .i64 by_] w fun e w' => ∃ v, e = .returned v /\ DocQ (Jo6 (Jov l classes cols smooth) way at_ by_) v w' /\ Below w.heap.size w w' := by
 have fU : l.length = n := h.len
 have eJ : ∀ (M : Nat), 1 <= M -> M <= 1000 -> ∀ (y : Int) (w' : World), -9223372036854775808 <= y -> y <= 9223372036854775807 -> Calls Tryz.prog 13 #[.int .i64 y, .int .i64 (M : Int)] w' fun e w'' => e = .returned (.int .i64 (y % (M : Int))) /\ w' = w'' := fun M h1 h2 y w' h3 h4 => Jpd y M w' h3 h4 h1 (by omega)
 have HPK := lh eJ
 obtain ⟨N, hN⟩ : ∃ N : Nat, cols % 3 + 1 = (N : Int) := ⟨(cols % 3 + 1).toNat, by omega⟩
 have jY : 1 <= N /\ N <= 3 := by omega
 obtain ⟨NC, fV⟩ : ∃ NC : Nat, classes % 3 + 1 = (NC : Int) := ⟨(classes % 3 + 1).toNat, by omega⟩
 have iR : 1 <= NC /\ NC <= 3 := by omega
 have fW : Joq cols N = Jon cols := by unfold Joq Jon; rw [show (cols % 3).toNat + 1 = N by omega]
 obtain ⟨M0, eK⟩ : ∃ M0, Jov l classes cols smooth = M0 := ⟨_, rfl⟩
 rw [eK]
 obtain ⟨M1, bZ⟩ : ∃ M1, Jo6 M0 way at_ by_ = M1 := ⟨_, rfl⟩
 rw [bZ]
 have HM := lh (And.intro eK bZ)
 have HN := lh (And.intro hN (And.intro fV fW))
 have H := lh h
 have HL := lh hl
 have HI := lh (And.intro i1 (And.intro i2 (And.intro i3 (And.intro i4 (And.intro i5 i6)))))
 have HBB := lh hB
 have HLN := lh fU
 have HP1 : Hid (∀ w', Calls Tryz.prog 13 #[.int .i64 cols, .int .i64 3] w' fun e w'' => e = .returned (.int .i64 ((N : Int) - 1)) /\ w' = w'') := lh fun w' => by
  have h1 := eJ 3 (by decide) (by decide) cols w' i2.1 i2.2
  rw [show cols % ((3 : Nat) : Int) = (N : Int) - 1 by omega] at h1
  exact h1
 clear h hl i1 i2 i3 i4 i5 i6 hB fU eK bZ hN fV eJ fW
 obtain ⟨b0, hB, hZ⟩ := bx1 w 31 #[.bool false, .slice none 0 0, .slice none 0 0, .slice none 0 0, .slice none 0 0, .slice none 0 0]
 go_enter Tryz.func12, Tryz.ntmps12
 go_upto_region 1 with fail
 generalize (w.alloc (.cells #[.bool false, .slice none 0 0, .slice none 0 0, .slice none 0 0, .slice none 0 0, .slice none 0 0] 31)) = W at *
 have HBW := lh hB
 have HZ := lh hZ.out
 have B0 := lh b0
 clear hB hZ b0
 go_wp2_with fail
 go_loopw [15, 16] (fun v p wr => ∃ k : Nat, k <= N /\ p = .int .i64 (k : Int) /\ Own wr 3 zv v (Joq cols k) /\ (∀ b, v.ownBlock = some b -> W.heap.size <= b) /\ Below W.heap.size W wr) (fun _ p _ => N - (intOf p).toNat)
 case atStart => exact ⟨0, by omega, rfl, Own.nil_ _ _ _, (fun b h => by cases h), Below.refl _ _⟩
 case round =>
  obtain ⟨k, hk, rfl, ho, bE, j0⟩ := hrel
  rename World => wr
  have q1 : (N : Int) - 1 + 1 = N := by omega
  by_cases eL : k < N
  ·as_aux_lemma =>
   have k1 : (k : Int) < (N : Int) := by omega
   have iS := (Jph HI.out.2.1).1
   obtain ⟨cq, cO⟩ : ∃ cq, cols.tdiv 3 = cq := ⟨_, rfl⟩
   have aU := Jpg cols k
   rw [cO] at iS aU
   have aE := Jfv (x := cq) (by omega) (by omega)
   obtain ⟨y, hy⟩ : ∃ y, cq + (k : Int) = y := ⟨_, rfl⟩
   have eM := Jfv (x := y) (by omega) (by omega)
   rw [hy] at aU
   obtain ⟨t, ht⟩ : ∃ t, y % 3 = t := ⟨_, rfl⟩
   have HP2 : Hid (Calls Tryz.prog 13 #[.int .i64 y, .int .i64 3] wr fun e w'' => e = .returned (.int .i64 t) /\ wr = w'') := lh (by
    have h1 := HPK.out 3 (by decide) (by decide) y wr (by omega) (by omega)
    rw [show y % ((3 : Nat) : Int) = t by omega] at h1
    exact h1)
   rw [ht] at aU
   have jZ : 0 <= t /\ t < 3 := by omega
   have HO := lh ho
   have HFR := lh (And.intro bE j0)
   have HSN := lh aU
   clear ho bE j0 aU ht HPK
   go_wp2_with fail
   refine (HP1.out _).mono ?_
   rintro e w1 ⟨rfl, rfl⟩
   go_wp2_with fail
   refine HP2.out.mono ?_
   rintro e w1 ⟨rfl, rfl⟩
   go_wp2_with (at_builtin; refine Joi (f := zv) Tryz.eltZ1 rfl (.tmp 30) (.tmp 37) rfl wr _ (Joq cols k) (t + 1) (.int .i64 (t + 1)) rfl rfl HO.out (by simp [Act.eval]) rfl (by rw [Jow]; unfold maxLen; omega) (by rw [Jow]; omega) ?_; intro v' w2 cP j6)
   have aG := HFR.out.2.trans (j6.below HFR.out.2.size HFR.out.1)
   have bL := j6.fresh HFR.out.2.size HFR.out.1
   rw [<- HSN.out] at cP
   exact ⟨⟨k + 1, by omega, by go_num, cP, bL, aG⟩, by simp [intOf]; omega⟩
  as_aux_lemma =>
  obtain rfl : k = N := by omega
  have k1 : ¬ (k : Int) < (k : Int) := by omega
  rw [HN.out.2.2] at ho
  have eN : (Jon cols).length = k := by rw [<- HN.out.2.2, Jow]
  have HWL := lh eN
  obtain ⟨AW, cW, hv, -⟩ := ho.form
  rw [eN] at hv
  subst hv
  clear eN
  have HO := lh ho
  have HFR := lh (And.intro bE j0)
  clear ho bE j0
  obtain ⟨t4, fX⟩ : ∃ t4, smooth % 4 = t4 := ⟨_, rfl⟩
  obtain ⟨sq, fY⟩ : ∃ sq, smooth.tdiv 4 = sq := ⟨_, rfl⟩
  have fZ := (Jph HI.out.2.2.1).2
  rw [fY] at fZ
  obtain ⟨t5, gD⟩ : ∃ t5, sq % 3 = t5 := ⟨_, rfl⟩
  have kA := Jfv (x := sq) (by omega) (by omega)
  have kB : (0 <= t4 /\ t4 < 4) /\ 0 <= t5 /\ t5 < 3 := by omega
  obtain ⟨q, hq⟩ : ∃ q, Rat.divInt (t4 + 1) (t5 + 1) = q := ⟨_, rfl⟩
  have aH : Jo1 classes cols smooth = Uw NC (Jon cols) q := by
   unfold Jo1
   rw [show (classes % 3).toNat + 1 = NC by have := HN.out.2.1; omega, fY, fX, gD, <- Rat.divInt_eq_div, hq]
  have gE : Jp6 (NC : Int) (Jon cols) q = Uw NC (Jon cols) q := Jp5 (by
   have h1 := (Joz classes cols smooth).ok
   rw [aH, Kv, Yf] at h1
   have h2 := h1.1.1
   simpa [Uw] using h2)
  have HPC : Hid (∀ w', Calls Tryz.prog 13 #[.int .i64 classes, .int .i64 3] w' fun e w'' => e = .returned (.int .i64 ((NC : Int) - 1)) /\ w' = w'') := lh fun w' => by
   have h1 := HPK.out 3 (by decide) (by decide) classes w' HI.out.1.1 HI.out.1.2
   rw [show classes % ((3 : Nat) : Int) = (NC : Int) - 1 by have := HN.out.2.1; omega] at h1
   exact h1
  have HPS : Hid (∀ w', Calls Tryz.prog 13 #[.int .i64 smooth, .int .i64 4] w' fun e w'' => e = .returned (.int .i64 t4) /\ w' = w'') := lh fun w' => by
   have h1 := HPK.out 4 (by decide) (by decide) smooth w' HI.out.2.2.1.1 HI.out.2.2.1.2
   rw [show smooth % ((4 : Nat) : Int) = t4 by omega] at h1
   exact h1
  have HPT : Hid (∀ w', Calls Tryz.prog 13 #[.int .i64 sq, .int .i64 3] w' fun e w'' => e = .returned (.int .i64 t5) /\ w' = w'') := lh fun w' => by
   have h1 := HPK.out 3 (by decide) (by decide) sq w' (by omega) (by omega)
   rw [show sq % ((3 : Nat) : Int) = t5 by omega] at h1
   exact h1
  have HOV : Hid (∀ w', Calls Tryz.prog 47 #[.int .i64 (t4 + 1), .int .i64 (t5 + 1)] w' (Jmv q w')) := lh fun w' => by
   have h1 := Jk0 (t4 + 1) (t5 + 1) w' (by omega) (by omega) (by omega) (by omega) (by omega)
   rw [hq] at h1
   exact h1
  have q2 : (NC : Int) - 1 + 1 = NC := by omega
  have HST := lh (And.intro aH gE)
  clear fX gD hq aH gE fZ
  go_wp2_with fail
  refine (HP1.out _).mono ?_
  rintro e w1 ⟨rfl, rfl⟩
  go_upto_region 6 with fail
  go_wp2_with fail
  refine (HPC.out _).mono ?_
  rintro e w1 ⟨rfl, rfl⟩
  go_wp2_with fail
  refine (HPS.out _).mono ?_
  rintro e w1 ⟨rfl, rfl⟩
  go_wp2_with fail
  refine (HPT.out _).mono ?_
  rintro e w1 ⟨rfl, rfl⟩
  go_wp2_with fail
  refine (HOV.out _).mono ?_
  rintro e w5 ⟨V, rfl, cA, q9⟩
  obtain ⟨ng, A7, l7, d7, A8, l8, d8, rfl⟩ := cA.shape
  have bM : ReadsI w5 w5.heap.size AW k (Jon cols) := rkindI.more (rkindI.below (NRow.readsI (NRow.of HO.out)) q9) q9.size
  have HNW := lh (Jqu (NC : Int) AW k cW (Jon cols) ng A7 A8 l7 d7 l8 d8 w5.heap.size q w5 bM zd (by omega) (fun x hx => by have := Jou hx; omega))
  have HB5 := lh (HFR.out.2.trans (q9.mono HFR.out.2.size))
  have HIQ := lh cA
  have HRW := lh bM
  clear q9 cA bM HPC HPS HPT HOV HP1
  rw [HST.out.2] at HNW
  go_wp2_with fail
  refine HNW.out.mono ?_
  rintro e w6 ⟨v, rfl, ⟨⟨A1, n1, c1⟩, ⟨A2, n2, c2⟩, ⟨A3, n3, c3⟩, F, G, Hh, rfl, ho⟩, dO⟩
  simp only [SW.v] at *
  go_upto_region 7 with fail
  have b17 := Blk.new w6 31 #[.bool ng, .slice A7 l7 d7, .slice A8 l8 d8, .slice A1 n1 c1, .slice A2 n2 c2, .slice A3 n3 c3]
  have aD := Ja dO (Jb w6 (.cells #[.bool ng, .slice A7 l7 d7, .slice A8 l8 d8, .slice A1 n1 c1, .slice A2 n2 c2, .slice A3 n3 c3] 31))
  have cL := ho.next (Jb w6 (.cells #[.bool ng, .slice A7 l7 d7, .slice A8 l8 d8, .slice A1 n1 c1, .slice A2 n2 c2, .slice A3 n3 c3] 31))
  generalize w6.alloc (.cells #[.bool ng, .slice A7 l7 d7, .slice A8 l8 d8, .slice A1 n1 c1, .slice A2 n2 c2, .slice A3 n3 c3] 31) = w7 at *
  obtain ⟨o1, o2, o3⟩ := ho.old
  have iT : w5.heap.size <= w6.heap.size := dO.size
  generalize w6.heap.size = g at *
  have cQ : DrS w5.heap.size g (.bool ng) (.slice A7 l7 d7) (.slice A8 l8 d8) (Uw NC (Jon cols) q) w7 := ⟨⟨A1, n1, c1⟩, ⟨A2, n2, c2⟩, ⟨A3, n3, c3⟩, F, G, Hh, b17, cL, fun e => by have := o1 _ e; omega, fun e => by have := o2 _ e; omega, fun e => by have := o3 _ e; omega⟩
  have HDI : Hid (DrI (Jon cols) q l M0 w5.heap.size g (.bool ng) (.slice A7 l7 d7) (.slice A8 l8 d8) w5 0 w7) := lh ⟨24, 0, _, by omega, by omega, by rw [<- HM.out.1]; unfold Jov; rw [HST.out.1], by rw [<- HST.out.1]; exact Joz classes cols smooth, by omega, rfl, rfl, cQ, aD⟩
  clear aD dO ho cL b17 cQ o1 o2 o3 HNW HST HO HFR
  go_upto_block 2 with fail
  go_cut [18] (fun v wc => (∃ i : Int, v = .int .i64 i) /\ DrF (Jon cols) q M0 w5.heap.size g (.bool ng) (.slice A7 l7 d7) (.slice A8 l8 d8) w5 wc)
  case first =>
   go_wp2_with fail
   go_loopw [18] (fun p wr => ∃ i : Nat, p = .int .i64 (i : Int) /\ DrI (Jon cols) q l M0 w5.heap.size g (.bool ng) (.slice A7 l7 d7) (.slice A8 l8 d8) w5 i wr) (fun p _ => 1000 - (intOf p).toNat)
   case atStart => exact ⟨0, rfl, HDI.out⟩
   case round =>
    obtain ⟨i, rfl, f, nT, mm, iU, iV, cR, p8, eO, t7, aR, bN, j0⟩ := hrel
    clear HDI
    rename World => wr
    have j9 := @Jpk f mm l i
    rw [t7, HWL.out, HLN.out, cR] at j9
    by_cases aI : i + k < n
    case neg =>
     have k2 : ¬ (i : Int) + (k : Int) < (n : Int) := by omega
     have e0 := j9 fun h => aI h.1
     subst e0
     have HDF : Hid (DrF (Jon cols) q M0 w5.heap.size g (.bool ng) (.slice A7 l7 d7) (.slice A8 l8 d8) w5 wr) := lh ⟨nT, by omega, p8, t7, aR, bN, j0⟩
     clear j9 cR p8 t7 aR bN j0
     go_wp2_with fail
     go_meet
     exact ⟨⟨_, rfl⟩, HDF.out⟩
    have k2 : (i : Int) + (k : Int) < (n : Int) := by omega
    by_cases bO : i < 24
    case neg =>
     have k3 : ¬ (i : Int) < 24 := by omega
     have e0 := j9 fun h => bO h.2
     subst e0
     have HDF : Hid (DrF (Jon cols) q M0 w5.heap.size g (.bool ng) (.slice A7 l7 d7) (.slice A8 l8 d8) w5 wr) := lh ⟨nT, by omega, p8, t7, aR, bN, j0⟩
     clear j9 cR p8 t7 aR bN j0
     go_wp2_with fail
     go_meet
     exact ⟨⟨_, rfl⟩, HDF.out⟩
    have k3 : (i : Int) < 24 := by omega
    clear j9
    obtain ⟨f', rfl, bP, bQ, bF⟩ := Jpl (l := l) p8 (by omega) (by rw [t7, HWL.out, HLN.out]; exact ⟨aI, bO⟩) iV
    rw [t7] at bP bQ bF
    rw [HWL.out] at bF
    obtain ⟨row, t8⟩ : ∃ row, Jkx (l.drop (i + 1)) (Jon cols) = row := ⟨_, rfl⟩
    obtain ⟨⟨A1, n1, c1⟩, ⟨A2, n2, c2⟩, ⟨A3, n3, c3⟩, F, G, Hh, bk, ho, cT⟩ := bN
    simp only [SW.v] at bk
    obtain ⟨ad, g5, o5, y, rfl, iW, iX, hy, b5⟩ := H.out.spot (k := i) (by omega)
    have gF : l.getD i 0 = y := by rw [List.getD_eq_getElem?_getD, hy]; rfl
    have eP := (ho.read).seen.len
    have bR : mm.seen.length = n2 := ho.read.seen.len
    rw [gF, bR, t8] at bP bQ bF
    have bG : 1 <= n2 /\ n2 <= 3 := by have := p8.classes; omega
    obtain ⟨cn, gG⟩ : ∃ cn : Nat, y % (n2 : Int) = (cn : Int) := ⟨(y % (n2 : Int)).toNat, by have := Int.emod_nonneg y (show (n2 : Int) ≠ 0 by omega); omega⟩
    rw [gG] at bP bQ bF
    rw [Int.toNat_natCast] at bP bQ bF
    obtain ⟨m', cU⟩ : ∃ m', Jn mm row cn 1 = m' := ⟨_, rfl⟩
    have bS : m'.words = Jon cols := by rw [<- cU]; exact t7
    have cZ : m'.smooth = q := by rw [<- cU]; exact aR
    rw [cU] at bP bQ bF
    obtain ⟨A9, eQ⟩ : ∃ A9, Jg4 (some ad) c (i + 1) 1 = A9 := ⟨_, rfl⟩
    obtain ⟨n9, eR⟩ : ∃ n9, n - (i + 1) = n9 := ⟨_, rfl⟩
    obtain ⟨c9, gH⟩ : ∃ c9, c - (i + 1) = c9 := ⟨_, rfl⟩
    have dA : ∀ w' : World, (Instr.slice 22 (.slice (some ad) n c) (some (.int .i64 ((i : Int) + 1))) none none).run Tryz.prog w' = .ok (.slice A9 n9 c9) w' := fun w' => by
     have := Ji0 (P := Tryz.prog) (Tryz.eltZ1).under (Tryz.eltZ1).info (some ad) n c .i64 ((i : Int) + 1) (by omega) (by omega) w'
     rw [show ((i : Int) + 1).toNat = i + 1 by omega, eQ, eR, gH] at this
     exact this
    have cB : Below w5.heap.size w5 wr := j0
    have bT : Below w.heap.size w wr := HBW.out.trans ((HB5.out.trans (j0.mono HB5.out.size)).mono HBW.out.size)
    have bH : ReadsI w5 w5.heap.size A9 n9 (l.drop (i + 1)) := by
     have h1 : Reads w B 1 (Jg4 (some ad) c (i + 1) 1) (n - (i + 1)) ((l.map zv).drop ((i + 1) * 1)) := Reads.cut H.out (show i + 1 <= n by omega) dN
     rw [eQ, eR, Nat.mul_one] at h1
     have h2 := rkindI.below (show ReadsI w B A9 n9 (l.drop (i + 1)) by unfold ReadsI; rw [List.map_drop]; exact h1) ((HBW.out.trans (HB5.out.mono HBW.out.size)).mono HBB.out)
     exact rkindI.more h2 (nt HBB.out (HBW.out.trans (HB5.out.mono HBW.out.size)).size)
    have dB : ∀ w', Below wr.heap.size wr w' -> ∀ A6 c6, ReadsI w' w'.heap.size A6 k row -> Calls Tryz.prog 31 #[.agg #[.bool ng, .slice A7 l7 d7, .slice A8 l8 d8, .slice A1 n1 c1, .slice A2 n2 c2, .slice A3 n3 c3], .slice A6 k c6, .int .i64 (cn : Int)] w' fun e w'' => ∃ v, e = .returned v /\ (∃ u, v = .tuple #[u, .int .i64 0] /\ Jq3 w'.heap.size (.bool ng) (.slice A7 l7 d7) (.slice A8 l8 d8) (.slice A1 n1 c1) m' u w'') /\ Below w'.heap.size w' w'' := fun w' hb A6 c6 h6 => by
     refine (Jp3 ng A7 A8 l7 d7 l8 d8 A1 A2 A3 n1 c1 n2 c2 n3 c3 w'.heap.size mm A6 k c6 row cn w' (ho.next hb).read (by rw [aR]; exact (HIQ.out.below (j0.trans (hb.mono j0.size))).more (nt j0.size hb.size)) h6 zd (Za p8.ok) (by omega)).mono ?_
     rintro e w'' ⟨v, rfl, hv, iY⟩
     rw [bP] at hv
     exact ⟨v, rfl, Jqh hv, iY⟩
    have iZ : n9 <= 9223372036854775807 := by omega
    have kC : IntKind.i64.wrap ((i : Int) + 1) = (i : Int) + 1 := IntWalk.i64_in _ (by omega)
    have HTE := lh dB
    have BK := lh bk
    have HBX := lh cB
    have HBY := lh bT
    have HCUT := lh bH
    have HGO := lh (And.intro cR (And.intro bF (And.intro bQ (And.intro bS (And.intro cZ eO)))))
    have HOA := lh (And.intro ho cT)
    have HMW := lh (show mm.words = m'.words by rw [bS, t7])
    have k5 : (i : Int) < (n : Int) := by omega
    have dP : m'.seen.length = n2 /\ True := ⟨by rw [<- cU, Yt]; exact bR, trivial⟩
    clear dB bk cB bT bH cR bF bQ bS cZ eO ho cT eQ eR gH bP p8 t7 aR j0 eP bR cU gF
    go_upto_region 10 with fail
    go_cut [19, 20] (fun v v20 wc => DrC wr.heap.size (.bool ng) (.slice A7 l7 d7) (.slice A8 l8 d8) (.slice A1 n1 c1) m' wr v v20 wc)
    case first =>
     refine Je0 (DrR wr (.bool ng) (.slice A7 l7 d7) (.slice A8 l8 d8) (.slice A1 n1 c1) k row m' (fun j => ([some (.agg #[.bool ng, .slice A7 l7 d7, .slice A8 l8 d8, .slice A1 n1 c1, .slice A2 n2 c2, .slice A3 n3 c3]), some (.slice (some ad) n c), some (.int .i64 (i : Int)), some (.int .i64 ((i : Int) + 1)), some (.slice A9 n9 c9), some (.slice AW k cW), none, some (.slice (some ad) n c), some (.int .i64 (i : Int)), some (.pointer (some (ad.add i))), some (.int .i64 y), some (.pointer (some ⟨g, 4, none⟩)), some (.slice A2 n2 c2), some (.int .i64 (n2 : Int)), some (.int .i64 (cn : Int)), none, none, none, none, none, none, none] : List (Option Value)).getD j none)) (by kernel_rfl) (by kernel_rfl) (by kernel_rfl) ?_ ?_ [some 69, some 70, some 71, some 72, some 73, some 74, some 75, some 76, some 77, some 78, some 79, some 80, some 81, some 82, some 83, some 84, some 68, some 85, some 86, some 19, none, some 20] rfl ?_
     ·constructor <;> first | exact Jt _ | exact Fixed.start _ _ | (intro h; cases h)
     ·refine ⟨⟨⟨⟨⟨⟨⟨⟨⟨⟨⟨⟨⟨⟨⟨⟨⟨⟨⟨⟨⟨⟨trivial, ?_⟩, ?_⟩, ?_⟩, ?_⟩, ?_⟩, ?_⟩, ?_⟩, ?_⟩, ?_⟩, ?_⟩, ?_⟩, ?_⟩, ?_⟩, ?_⟩, ?_⟩, ?_⟩, ?_⟩, ?_⟩, ?_⟩, ?_⟩, ?_⟩, ?_⟩
      case refine_1 =>
       intro d val a' w' hS hF hd hp
       have e8 : a'.tmps[17]?.getD undef = .pointer (some ⟨g, 0, none⟩) := hS.arg 17 (by kernel_rfl)
       have b0' := BK.out.below hF.bel BK.out.lt
       obtain ⟨y0, y1, y2, y3, y4, y5⟩ := b0'.c6
       refine Xa (v := .agg #[.bool ng, .slice A7 l7 d7, .slice A8 l8 d8, .slice A1 n1 c1, .slice A2 n2 c2, .slice A3 n3 c3]) _ rfl rfl ?_ (show DrR _ _ _ _ _ _ _ _ _ _ _ _ from ⟨hF.bel, hF.fx.step (.inr rfl), hF.v6, hF.v15, hF.v16, hF.v17, hF.v18, hF.v19, hF.v20, hF.v21⟩)
       clear hF hS hd hp
       go_simp
      case refine_2 =>
       intro d val a' w' hS hF hd hp
       have e8 : a'.tmps[0]?.getD undef = .slice (some ad) n c := hS.arg 0 (by kernel_rfl)
       refine Xa (v := .slice (some ad) n c) _ rfl rfl ?_ (show DrR _ _ _ _ _ _ _ _ _ _ _ _ from ⟨hF.bel, hF.fx.step (.inr rfl), hF.v6, hF.v15, hF.v16, hF.v17, hF.v18, hF.v19, hF.v20, hF.v21⟩)
       clear hF hS hd hp
       go_simp
      case refine_3 =>
       intro d val a' w' hS hF hd hp
       have e8 : a'.tmps[18]?.getD undef = .int .i64 (i : Int) := hS.arg 18 (by kernel_rfl)
       refine Xa (v := .int .i64 (i : Int)) _ rfl rfl ?_ (show DrR _ _ _ _ _ _ _ _ _ _ _ _ from ⟨hF.bel, hF.fx.step (.inr rfl), hF.v6, hF.v15, hF.v16, hF.v17, hF.v18, hF.v19, hF.v20, hF.v21⟩)
       clear hF hS hd hp
       go_simp
      case refine_4 =>
       intro d val a' w' hS hF hd hp
       have e1 : a'.tmps[71]?.getD undef = .int .i64 (i : Int) := (hS.res 2 71 (hp 2 (by kernel_rfl)) rfl (by kernel_rfl)).trans (hF.fx 2 _ rfl (hp 2 (by kernel_rfl)))
       refine Xa (v := .int .i64 ((i : Int) + 1)) _ rfl rfl ?_ (show DrR _ _ _ _ _ _ _ _ _ _ _ _ from ⟨hF.bel, hF.fx.step (.inr rfl), hF.v6, hF.v15, hF.v16, hF.v17, hF.v18, hF.v19, hF.v20, hF.v21⟩)
       clear hF hS hd hp
       go_simp
      case refine_5 =>
       intro d val a' w' hS hF hd hp
       have e1 : a'.tmps[70]?.getD undef = .slice (some ad) n c := (hS.res 1 70 (hp 1 (by kernel_rfl)) rfl (by kernel_rfl)).trans (hF.fx 1 _ rfl (hp 1 (by kernel_rfl)))
       have e2 : a'.tmps[72]?.getD undef = .int .i64 ((i : Int) + 1) := (hS.res 3 72 (hp 3 (by kernel_rfl)) rfl (by kernel_rfl)).trans (hF.fx 3 _ rfl (hp 3 (by kernel_rfl)))
       refine Xa (v := .slice A9 n9 c9) _ rfl rfl ?_ (show DrR _ _ _ _ _ _ _ _ _ _ _ _ from ⟨hF.bel, hF.fx.step (.inr rfl), hF.v6, hF.v15, hF.v16, hF.v17, hF.v18, hF.v19, hF.v20, hF.v21⟩)
       clear hF hS hd hp
       go_simp
      case refine_6 =>
       intro d val a' w' hS hF hd hp
       have e8 : a'.tmps[15]?.getD undef = .slice AW k cW := hS.arg 15 (by kernel_rfl)
       refine Xa (v := .slice AW k cW) _ rfl rfl ?_ (show DrR _ _ _ _ _ _ _ _ _ _ _ _ from ⟨hF.bel, hF.fx.step (.inr rfl), hF.v6, hF.v15, hF.v16, hF.v17, hF.v18, hF.v19, hF.v20, hF.v21⟩)
       clear hF hS hd hp
       go_simp
      case refine_7 =>
       intro d val a' w' hS hF hd hp
       have e1 : a'.tmps[73]?.getD undef = .slice A9 n9 c9 := (hS.res 4 73 (hp 4 (by kernel_rfl)) rfl (by kernel_rfl)).trans (hF.fx 4 _ rfl (hp 4 (by kernel_rfl)))
       have e2 : a'.tmps[74]?.getD undef = .slice AW k cW := (hS.res 5 74 (hp 5 (by kernel_rfl)) rfl (by kernel_rfl)).trans (hF.fx 5 _ rfl (hp 5 (by kernel_rfl)))
       have cB := HBX.out.trans (hF.bel.mono HBX.out.size)
       refine Jjm (Ψ := fun v w'' => DrR wr _ _ _ _ _ _ _ _ (upI d 6) (Jf3 val 6 v) w'') _ rfl rfl (args := #[.slice A9 n9 c9, .slice AW k cW]) (w2 := w') (f := 25) ?_ ?_
       ·clear hF hS hd hp
        go_simp
       refine (Jpc A9 n9 c9 (l.drop (i + 1)) AW k cW (Jon cols) w5.heap.size w' (rkindI.below HCUT.out cB) (rkindI.below HRW.out cB) cB.size (by omega) (fun x hx => HL.out x (List.mem_of_mem_drop hx)) (by omega) (fun x hx => by have := Jou hx; omega)).mono ?_
       rintro e w2 ⟨v, rfl, bI, -, o9⟩
       have hG := hF.next o9
       rw [t8] at bI
       obtain ⟨A6, c6, dC, -⟩ := bI.form
       rw [show row.length = k by rw [<- t8, Jkw]; exact HWL.out] at dC
       subst dC
       exact ⟨_, rfl, ⟨hG.bel, hG.fx.step (.inl rfl), fun _ => ⟨A6, c6, rfl, fun _ => NRow.readsI (NRow.of bI)⟩, hG.v15, hG.v16, hG.v17, hG.v18, hG.v19, hG.v20, hG.v21⟩⟩
      case refine_8 =>
       intro d val a' w' hS hF hd hp
       have e8 : a'.tmps[0]?.getD undef = .slice (some ad) n c := hS.arg 0 (by kernel_rfl)
       refine Xa (v := .slice (some ad) n c) _ rfl rfl ?_ (show DrR _ _ _ _ _ _ _ _ _ _ _ _ from ⟨hF.bel, hF.fx.step (.inr rfl), hF.v6, hF.v15, hF.v16, hF.v17, hF.v18, hF.v19, hF.v20, hF.v21⟩)
       clear hF hS hd hp
       go_simp
      case refine_9 =>
       intro d val a' w' hS hF hd hp
       have e8 : a'.tmps[18]?.getD undef = .int .i64 (i : Int) := hS.arg 18 (by kernel_rfl)
       refine Xa (v := .int .i64 (i : Int)) _ rfl rfl ?_ (show DrR _ _ _ _ _ _ _ _ _ _ _ _ from ⟨hF.bel, hF.fx.step (.inr rfl), hF.v6, hF.v15, hF.v16, hF.v17, hF.v18, hF.v19, hF.v20, hF.v21⟩)
       clear hF hS hd hp
       go_simp
      case refine_10 =>
       intro d val a' w' hS hF hd hp
       have e1 : a'.tmps[76]?.getD undef = .slice (some ad) n c := (hS.res 7 76 (hp 7 (by kernel_rfl)) rfl (by kernel_rfl)).trans (hF.fx 7 _ rfl (hp 7 (by kernel_rfl)))
       have e2 : a'.tmps[77]?.getD undef = .int .i64 (i : Int) := (hS.res 8 77 (hp 8 (by kernel_rfl)) rfl (by kernel_rfl)).trans (hF.fx 8 _ rfl (hp 8 (by kernel_rfl)))
       refine Xa (v := .pointer (some (ad.add i))) _ rfl rfl ?_ (show DrR _ _ _ _ _ _ _ _ _ _ _ _ from ⟨hF.bel, hF.fx.step (.inr rfl), hF.v6, hF.v15, hF.v16, hF.v17, hF.v18, hF.v19, hF.v20, hF.v21⟩)
       clear hF hS hd hp
       go_simp
      case refine_11 =>
       intro d val a' w' hS hF hd hp
       have e1 : a'.tmps[78]?.getD undef = .pointer (some (ad.add i)) := (hS.res 9 78 (hp 9 (by kernel_rfl)) rfl (by kernel_rfl)).trans (hF.fx 9 _ rfl (hp 9 (by kernel_rfl)))
       rw [iW] at e1
       have q9 := b5.below (HBY.out.trans (hF.bel.mono HBY.out.size)) (Nat.lt_of_lt_of_le iX HBB.out)
       have dO := q9.1
       refine Xa (v := .int .i64 y) _ rfl rfl ?_ (show DrR _ _ _ _ _ _ _ _ _ _ _ _ from ⟨hF.bel, hF.fx.step (.inr rfl), hF.v6, hF.v15, hF.v16, hF.v17, hF.v18, hF.v19, hF.v20, hF.v21⟩)
       clear hF hS hd hp
       go_simp
      case refine_12 =>
       intro d val a' w' hS hF hd hp
       have e8 : a'.tmps[17]?.getD undef = .pointer (some ⟨g, 0, none⟩) := hS.arg 17 (by kernel_rfl)
       refine Xa (v := .pointer (some ⟨g, 4, none⟩)) _ rfl rfl ?_ (show DrR _ _ _ _ _ _ _ _ _ _ _ _ from ⟨hF.bel, hF.fx.step (.inr rfl), hF.v6, hF.v15, hF.v16, hF.v17, hF.v18, hF.v19, hF.v20, hF.v21⟩)
       clear hF hS hd hp
       go_simp
      case refine_13 =>
       intro d val a' w' hS hF hd hp
       have e1 : a'.tmps[80]?.getD undef = .pointer (some ⟨g, 4, none⟩) := (hS.res 11 80 (hp 11 (by kernel_rfl)) rfl (by kernel_rfl)).trans (hF.fx 11 _ rfl (hp 11 (by kernel_rfl)))
       have b0' := BK.out.below hF.bel BK.out.lt
       obtain ⟨y0, y1, y2, y3, y4, y5⟩ := b0'.c6
       refine Xa (v := .slice A2 n2 c2) _ rfl rfl ?_ (show DrR _ _ _ _ _ _ _ _ _ _ _ _ from ⟨hF.bel, hF.fx.step (.inr rfl), hF.v6, hF.v15, hF.v16, hF.v17, hF.v18, hF.v19, hF.v20, hF.v21⟩)
       clear hF hS hd hp
       go_simp
      case refine_14 =>
       intro d val a' w' hS hF hd hp
       have e1 : a'.tmps[81]?.getD undef = .slice A2 n2 c2 := (hS.res 12 81 (hp 12 (by kernel_rfl)) rfl (by kernel_rfl)).trans (hF.fx 12 _ rfl (hp 12 (by kernel_rfl)))
       refine Xa (v := .int .i64 (n2 : Int)) _ rfl rfl ?_ (show DrR _ _ _ _ _ _ _ _ _ _ _ _ from ⟨hF.bel, hF.fx.step (.inr rfl), hF.v6, hF.v15, hF.v16, hF.v17, hF.v18, hF.v19, hF.v20, hF.v21⟩)
       clear hF hS hd hp
       go_simp
      case refine_15 =>
       intro d val a' w' hS hF hd hp
       have e1 : a'.tmps[79]?.getD undef = .int .i64 y := (hS.res 10 79 (hp 10 (by kernel_rfl)) rfl (by kernel_rfl)).trans (hF.fx 10 _ rfl (hp 10 (by kernel_rfl)))
       have e2 : a'.tmps[82]?.getD undef = .int .i64 (n2 : Int) := (hS.res 13 82 (hp 13 (by kernel_rfl)) rfl (by kernel_rfl)).trans (hF.fx 13 _ rfl (hp 13 (by kernel_rfl)))
       refine Jjm (Ψ := fun v w'' => DrR wr _ _ _ _ _ _ _ _ (upI d 14) (Jf3 val 14 v) w'') _ rfl rfl (args := #[.int .i64 y, .int .i64 (n2 : Int)]) (w2 := w') (f := 13) ?_ ?_
       ·clear hF hS hd hp
        go_simp
       refine (HPK.out n2 bG.1 (by omega) y w' (HL.out y (List.mem_of_getElem? hy)).1 (HL.out y (List.mem_of_getElem? hy)).2).mono ?_
       rintro e w2 ⟨rfl, rfl⟩
       rw [gG]
       exact ⟨_, rfl, ⟨hF.bel, hF.fx.step (.inr rfl), hF.v6, hF.v15, hF.v16, hF.v17, hF.v18, hF.v19, hF.v20, hF.v21⟩⟩
      case refine_16 =>
       intro d val a' w' hS hF hd hp
       have e1 : a'.tmps[69]?.getD undef = .agg #[.bool ng, .slice A7 l7 d7, .slice A8 l8 d8, .slice A1 n1 c1, .slice A2 n2 c2, .slice A3 n3 c3] := (hS.res 0 69 (hp 0 (by kernel_rfl)) rfl (by kernel_rfl)).trans (hF.fx 0 _ rfl (hp 0 (by kernel_rfl)))
       have e3 : a'.tmps[83]?.getD undef = .int .i64 (cn : Int) := (hS.res 14 83 (hp 14 (by kernel_rfl)) rfl (by kernel_rfl)).trans (hF.fx 14 _ rfl (hp 14 (by kernel_rfl)))
       have e2 := hS.res 6 75 (hp 6 (by kernel_rfl)) rfl (by kernel_rfl)
       obtain ⟨A6, c6, e6, h6⟩ := hF.v6 (hp 6 (by kernel_rfl))
       rw [e6] at e2
       have h6 := h6 hd
       refine Jjm (Ψ := fun v w'' => DrR wr _ _ _ _ _ _ _ _ (upI d 15) (Jf3 val 15 v) w'') _ rfl rfl (args := #[.agg #[.bool ng, .slice A7 l7 d7, .slice A8 l8 d8, .slice A1 n1 c1, .slice A2 n2 c2, .slice A3 n3 c3], .slice A6 k c6, .int .i64 (cn : Int)]) (w2 := w') (f := 31) ?_ ?_
       ·clear hF hS hd hp
        go_simp
       refine (HTE.out w' hF.bel A6 c6 h6).mono ?_
       rintro e w2 ⟨v, rfl, ⟨u, rfl, S, C, G', H', rfl, hs, j8, aF, bU⟩, o9⟩
       have hG := hF.next o9
       have y8 := hF.bel.size
       refine ⟨_, rfl, ⟨hG.bel, hG.fx.step (.inl rfl), fun h => (hG.v6 h).imp fun A h => h.imp fun c h => ⟨h.1, fun h' => Bool.noConfusion (show true = false from h')⟩, fun _ => ⟨_, _, _, _, _, _, rfl, by simp [Value.oneCell', SW.v], S, C, G', H', rfl, hs, j8, fun x hx => ⟨nt y8 (aF x hx).1, (aF x hx).2⟩, fun x hx => nt y8 (bU x hx), fun x hx => ?_⟩, fun h => absurd ((hF.v16 h).1) (by rw [hd]; decide), fun h => absurd ((hF.v17 h).1) (by rw [hd]; decide), fun h => absurd ((hF.v18 h).1) (by rw [hd]; decide), hG.v19, hG.v20, hG.v21⟩⟩
       obtain ⟨g', z0, z1, z2, z3, z4, z5, e11, jA, bD, -⟩ := hF.v19 hx.1
       have e12 := Jps (e11.symm.trans hx.2)
       subst e12
       have aS := bD.lt
       exact ⟨fun e => by have := (aF _ e).1; omega, fun e => by have := bU _ e; omega⟩
      case refine_17 =>
       intro d val a' w' hS hF hd hp
       have e1 := hS.res 15 84 (hp 15 (by kernel_rfl)) rfl (by kernel_rfl)
       have h6 := hp 15 (by kernel_rfl)
       refine Xa (v := val 15) _ rfl rfl ?_ (show DrR _ _ _ _ _ _ _ _ _ _ _ _ from ⟨hF.bel, hF.fx.step (.inl rfl), hF.v6, hF.v15, fun _ => ⟨h6, rfl⟩, hF.v17, hF.v18, hF.v19, hF.v20, hF.v21⟩)
       clear hF hS hd hp
       go_simp
      case refine_18 =>
       intro d val a' w' hS hF hd hp
       have e1 := hS.res 16 68 (hp 16 (by kernel_rfl)) rfl (by kernel_rfl)
       obtain ⟨h6, h7⟩ := hF.v16 (hp 16 (by kernel_rfl))
       obtain ⟨q0, q1', q2', q3, q4, q5, e6, -⟩ := hF.v15 h6
       rw [h7, e6] at e1
       refine Xa (v := .agg #[q0, q1', q2', q3, q4, q5]) _ rfl rfl ?_ (show DrR _ _ _ _ _ _ _ _ _ _ _ _ from ⟨hF.bel, hF.fx.step (.inl rfl), hF.v6, hF.v15, hF.v16, fun _ => ⟨h6, fun u y (e : val 15 = _) => by rw [e6] at e; injection e with e; exact (Jq6 e).1⟩, hF.v18, fun h => (hF.v19 h).imp fun g h => h.imp fun y0 h => h.imp fun y1 h => h.imp fun y2 h => h.imp fun y3 h => h.imp fun y4 h => h.imp fun y5 h => ⟨h.1, h.2.1, h.2.2.1, fun h' => absurd (h.2.2.2 h').1 (by rw [hd]; decide)⟩, hF.v20, hF.v21⟩)
       clear hF hS hd hp
       go_simp
      case refine_19 =>
       intro d val a' w' hS hF hd hp
       have e1 := hS.res 16 68 (hp 16 (by kernel_rfl)) rfl (by kernel_rfl)
       obtain ⟨h6, h7⟩ := hF.v16 (hp 16 (by kernel_rfl))
       obtain ⟨q0, q1', q2', q3, q4, q5, e6, -⟩ := hF.v15 h6
       rw [h7, e6] at e1
       refine Xa (v := .int .i64 0) _ rfl rfl ?_ (show DrR _ _ _ _ _ _ _ _ _ _ _ _ from ⟨hF.bel, hF.fx.step (.inl rfl), hF.v6, hF.v15, hF.v16, hF.v17, fun _ => ⟨h6, fun u y (e : val 15 = _) => by rw [e6] at e; injection e with e; exact (Jq6 e).2⟩, hF.v19, hF.v20, fun h => absurd ((hF.v21 h).1) (by rw [hd]; decide)⟩)
       clear hF hS hd hp
       go_simp
      case refine_20 =>
       intro d val a' w' hS hF hd hp
       have hG := hF.next (Jb w' (.cells #[.bool false, .slice none 0 0, .slice none 0 0, .slice none 0 0, .slice none 0 0, .slice none 0 0] 31))
       have y8 := hF.bel.size
       refine Xa (v := .pointer (some ⟨w'.heap.size, 0, none⟩)) (w2 := w'.alloc (.cells #[.bool false, .slice none 0 0, .slice none 0 0, .slice none 0 0, .slice none 0 0, .slice none 0 0] 31)) _ rfl rfl ?_ (show DrR _ _ _ _ _ _ _ _ _ _ _ _ from ⟨hG.bel, hG.fx.step (.inl rfl), hG.v6, fun h => ?_, hG.v16, hG.v17, hG.v18, fun _ => ⟨_, _, _, _, _, _, _, rfl, y8, Blk.new _ _ _, fun h => absurd (hF.v20 h) (by rw [hd]; decide)⟩, fun _ => rfl, hG.v21⟩)
       ·clear hG hF hS hd hp
        go_simp
       obtain ⟨q0, q1', q2', q3, q4, q5, e6, aV, eS⟩ := hF.v15 h
       exact ⟨q0, q1', q2', q3, q4, q5, e6, aV, eS.next (Jb _ _) fun g hg => .inr (by rw [<- Jps (show Value.pointer (some ⟨w'.heap.size, 0, none⟩) = .pointer (some ⟨g, 0, none⟩) from hg.2)]; exact Nat.le_refl _)⟩
      case refine_21 =>
       intro d val a' w' hS hF hd hp
       obtain ⟨h6, h8⟩ := hF.v17 (hp 17 (by kernel_rfl))
       have q8 := hp 19 (by kernel_rfl)
       obtain ⟨g', z0, z1, z2, z3, z4, z5, e11, aF, bD, -⟩ := hF.v19 q8
       obtain ⟨q0, q1', q2', q3, q4, q5, e6, aV, eS⟩ := hF.v15 h6
       have e8 := h8 _ _ e6
       exact Jde _ rfl rfl _ _ _ rfl rfl g' #[q0, q1', q2', q3, q4, q5] _ ((hS.got 19 19 q8 rfl (Nat.le_of_ble_eq_true (by kernel_rfl))).trans e11) ((hS.got 17 85 (hp 17 (by kernel_rfl)) rfl (Nat.le_of_ble_eq_true (by kernel_rfl))).trans e8) _ bD (by kernel_rfl) rfl aV fun w2 o9 dQ => show DrR _ _ _ _ _ _ _ _ _ _ _ _ from ⟨hF.bel.trans (dQ.below hF.bel.size aF), hF.fx.step (.inl rfl), fun h => (hF.v6 h).imp fun A h => h.imp fun c h => ⟨h.1, fun h' => absurd (show d 15 = false from h') (by rw [h6]; decide)⟩, fun h => ⟨q0, q1', q2', q3, q4, q5, e6, aV, eS.exc dQ ⟨q8, e11⟩⟩, hF.v16, hF.v17, hF.v18, fun _ => ⟨g', _, _, _, _, _, _, e11, aF, o9, fun _ => ⟨hp 17 (by kernel_rfl), e8⟩⟩, fun _ => q8, hF.v21⟩
      case refine_22 =>
       intro d val a' w' hS hF hd hp
       have e1 := hS.res 18 86 (hp 18 (by kernel_rfl)) rfl (by kernel_rfl)
       have h9 := hp 18 (by kernel_rfl)
       refine Xa (v := val 18) _ rfl rfl ?_ (show DrR _ _ _ _ _ _ _ _ _ _ _ _ from ⟨hF.bel, hF.fx.step (.inl rfl), hF.v6, hF.v15, hF.v16, hF.v17, hF.v18, hF.v19, hF.v20, fun _ => ⟨h9, rfl⟩⟩)
       clear hF hS hd hp
       go_simp
     intro d val w' hF hd
     simp only [Exit.then, Jd7, Act.put, List.setIfInBounds_toArray, List.set_cons_succ, List.set_cons_zero]
     refine ‹∀ a' w', Met _ a' w' -> _› _ _ ?_
     go_meet
     exact hF.end_ hd
    case rest =>
     obtain ⟨g', S, C, G', H', rfl, rfl, bk', hs, j8, aF, bU, hb⟩ := hcut
     rename World => wc
     have dR := BK.out.lt
     have bkc := BK.out.below hb dR
     have hr := Js 3 zv
     have eT := hr.loc HOA.out.1.words hb.size fun x hx => hb.block x (hr.lt HOA.out.1.words hx)
     rw [HMW.out] at eT
     have eU := fun x (hx : F x) => hr.lt HOA.out.1.words hx
     have HX := lh (And.intro (show ∀ x, F x -> x ≠ g from fun x hx e => HOA.out.2.1 (by rw [<- e]; exact hx)) (And.intro (show ∀ x, G' x -> x ≠ g from fun x hx e => by have := (aF x hx).1; omega) (show ∀ x, H' x -> x ≠ g from fun x hx e => by have := bU x hx; omega)))
     have gI : OwB 3 22 65 w5.heap.size wc ⟨A1, n1, c1⟩ S C F G' H' m' := ⟨eT, hs, j8, HOA.out.1.from1, fun x hx => nt HBX.out.size (aF x hx).1, fun x hx => nt HBX.out.size (bU x hx), fun x hx e => by have := eU x hx; have := (aF x e).1; omega, fun x hx e => by have := eU x hx; have := bU x e; omega, fun x hx => (aF x hx).2⟩
     have HO' := lh gI
     have HBC := lh (HBX.out.trans (hb.mono HBX.out.size))
     have BKC := lh bkc
     obtain ⟨x0, x1, x2, x3, x4, x5⟩ := bk'.c6
     clear gI eT eU hs j8 aF bU hb bkc bk' hr HTE HPK dA
     go_wp2_with (refine Jr rfl _ (.tmp 17) (.tmp 89) rfl g #[.bool ng, .slice A7 l7 d7, .slice A8 l8 d8, .slice A1 n1 c1, .slice S.A S.n S.c, .slice C.A C.n C.c] _ rfl rfl _ BKC.out (by kernel_rfl) rfl (by simp [Value.oneCell']) ?_; intro w8 aQ gJ; have HX8 := lh gJ; have HB8 := lh aQ; clear gJ aQ x0 x1 x2 x3 x4 x5)
     have kD : (i : Int) + (k : Int) + 1 = ((i + k + 1 : Nat) : Int) := by omega
     have aJ : DrI (Jon cols) q l M0 w5.heap.size g (.bool ng) (.slice A7 l7 d7) (.slice A8 l8 d8) w5 (i + k + 1) w8 := ⟨f', nT + 1, m', by omega, by omega, HGO.out.2.1.symm.trans HGO.out.1, HGO.out.2.2.1, by have := HGO.out.2.2.2.2.2; omega, HGO.out.2.2.2.1, HGO.out.2.2.2.2.1, ⟨⟨A1, n1, c1⟩, S, C, F, G', H', HB8.out, HO'.out.exc HX8.out (fun e => HX.out.1 g e rfl) (fun e => HX.out.2.1 g e rfl) (fun e => HX.out.2.2 g e rfl), fun e => HX.out.1 g e rfl, fun e => HX.out.2.1 g e rfl, fun e => HX.out.2.2 g e rfl⟩, HBC.out.trans (HX8.out.below HBC.out.size iT)⟩
     have HFIN := lh aJ
     clear aJ
     go_roundw
     case rel => exact ⟨i + k + 1, by go_num, HFIN.out⟩
     case measure => simp [intOf]; omega
  case rest =>
   obtain ⟨⟨iv, rfl⟩, nT, eO, p8, t7, aR, bN, q9⟩ := hcut
   rename World => wc
   obtain ⟨⟨A1, n1, c1⟩, ⟨A2, n2, c2⟩, ⟨A3, n3, c3⟩, F, G, Hh, bk, ho, cT⟩ := bN
   simp only [SW.v] at bk
   have gK : n1 = k := by have h1 : M0.words.length = n1 := ho.read.words.len; rw [<- h1, t7]; exact HWL.out
   subst gK
   have bR : M0.seen.length = n2 := ho.read.seen.len
   have bG : 1 <= n2 /\ n2 <= 3 := by have := p8.classes; omega
   obtain ⟨kk, gL⟩ : ∃ kk : Nat, at_ % (n2 : Int) = (kk : Int) := ⟨(at_ % (n2 : Int)).toNat, by have := Int.emod_nonneg at_ (show (n2 : Int) ≠ 0 by omega); omega⟩
   have jB : kk < n2 := by have := Int.emod_lt_of_pos at_ (show (0 : Int) < n2 by omega); omega
   obtain ⟨aq, gM⟩ : ∃ aq, at_.tdiv 3 = aq := ⟨_, rfl⟩
   have dD := (Jph HI.out.2.2.2.2.1).1
   rw [gM] at dD
   have kE := Jfv (x := aq) (by omega) (by omega)
   obtain ⟨cc, gO⟩ : ∃ cc : Nat, aq % (n1 : Int) = (cc : Int) := ⟨(aq % (n1 : Int)).toNat, by have := Int.emod_nonneg aq (show (n1 : Int) ≠ 0 by omega); omega⟩
   have jC : cc < n1 := by have := Int.emod_lt_of_pos aq (show (0 : Int) < n1 by omega); omega
   obtain ⟨tb, jD⟩ : ∃ tb, by_ % 9 = tb := ⟨_, rfl⟩
   have jE : 0 <= tb /\ tb < 9 := by omega
   obtain ⟨wy, gP⟩ : ∃ wy, way % 14 = wy := ⟨_, rfl⟩
   have gQ : 7 <= wy /\ wy < 14 := by omega
   have HP3 : Hid (∀ w', Calls Tryz.prog 13 #[.int .i64 at_, .int .i64 (n2 : Int)] w' fun e w'' => e = .returned (.int .i64 (kk : Int)) /\ w' = w'') := lh fun w' => by
    have h1 := HPK.out n2 (by omega) (by omega) at_ w' HI.out.2.2.2.2.1.1 HI.out.2.2.2.2.1.2
    rw [gL] at h1
    exact h1
   have HP4 : Hid (∀ w', Calls Tryz.prog 13 #[.int .i64 aq, .int .i64 (n1 : Int)] w' fun e w'' => e = .returned (.int .i64 (cc : Int)) /\ w' = w'') := lh fun w' => by
    have h1 := HPK.out n1 (by omega) (by omega) aq w' (by omega) (by omega)
    rw [gO] at h1
    exact h1
   have HP5 : Hid (∀ w', Calls Tryz.prog 13 #[.int .i64 by_, .int .i64 9] w' fun e w'' => e = .returned (.int .i64 tb) /\ w' = w'') := lh fun w' => by
    have h1 := HPK.out 9 (by decide) (by decide) by_ w' HI.out.2.2.2.2.2.1 HI.out.2.2.2.2.2.2
    rw [show by_ % ((9 : Nat) : Int) = tb by omega] at h1
    exact h1
   have HP6 : Hid (∀ w', Calls Tryz.prog 13 #[.int .i64 way, .int .i64 14] w' fun e w'' => e = .returned (.int .i64 wy) /\ w' = w'') := lh fun w' => by
    have h1 := HPK.out 14 (by decide) (by decide) way w' HI.out.2.2.2.1.1 HI.out.2.2.2.1.2
    rw [show way % ((14 : Nat) : Int) = wy by omega] at h1
    exact h1
   obtain ⟨bb, eI⟩ : ∃ bb, tb - 2 = bb := ⟨_, rfl⟩
   have jF : -2 <= bb /\ bb <= 6 := by omega
   have kF := Jfv (x := bb) (by omega) (by omega)
   have bV : Hid (Jo6 M0 way at_ by_ = M1 /\ (at_ % (M0.seen.length : Int)).toNat = kk /\ ((at_.tdiv 3) % (M0.words.length : Int)).toNat = cc /\ by_ % 9 - 2 = bb /\ way % 14 = wy) := lh ⟨HM.out.2, by rw [bR]; omega, by rw [t7, HWL.out, gM]; omega, by omega, gP⟩
   have BK := lh bk
   have HO := lh (And.intro ho cT)
   have HDR := lh (And.intro p8 (And.intro t7 (And.intro aR bR)))
   have HB6 := lh q9
   obtain ⟨x0, x1, x2, x3, x4, x5⟩ := bk.c6
   clear gL gO jD gP p8 t7 aR bR ho cT q9 bk HPK dD
   go_wp2_with fail
   refine (HP3.out _).mono ?_
   rintro e w1 ⟨rfl, rfl⟩
   go_wp2_with fail
   refine (HP4.out _).mono ?_
   rintro e w1 ⟨rfl, rfl⟩
   go_wp2_with fail
   refine (HP5.out _).mono ?_
   rintro e w1 ⟨rfl, rfl⟩
   go_wp2_with fail
   refine (HP6.out _).mono ?_
   rintro e w1 ⟨rfl, rfl⟩
   go_upto_block 4 with fail
   go_cut [17] (fun v wd => v = .pointer (some ⟨g, 0, none⟩) /\ DrQ g w.heap.size M1 wd /\ Below W.heap.size W wd)
   case first =>
    have bZ : Jpi M0 wy kk cc bb = M1 := by rw [<- bV.out.1, Jpo, bV.out.2.1, bV.out.2.2.1, bV.out.2.2.2.1, bV.out.2.2.2.2]
    have HM1 := lh bZ
    have gU : Below W.heap.size W wc := HB5.out.trans (HB6.out.mono HB5.out.size)
    have HBV := lh gU
    clear bZ gU
    have aK : ¬ (wy = 0 \/ wy = 1 \/ wy = 2 \/ wy = 3 \/ wy = 4 \/ wy = 5 \/ wy = 6) := by omega
    have e0 := HM1.out
    rw [Jo2 aK] at e0
    have HE := lh e0
    have p0 : (wy == 0) = false := by simp; omega
    have p1 : (wy == 1) = false := by simp; omega
    have p2 : (wy == 2) = false := by simp; omega
    have p3 : (wy == 3) = false := by simp; omega
    have p4 : (wy == 4) = false := by simp; omega
    have p5 : (wy == 5) = false := by simp; omega
    have p6 : (wy == 6) = false := by simp; omega
    have r0 : ¬ wy = 0 := by omega
    have r1 : ¬ wy = 1 := by omega
    have r2 : ¬ wy = 2 := by omega
    have r3 : ¬ wy = 3 := by omega
    have r4 : ¬ wy = 4 := by omega
    have r5 : ¬ wy = 5 := by omega
    have r6 : ¬ wy = 6 := by omega
    clear e0 aK bV HM1
    go_wp2_with fail
    go_meet
    rw [<- HE.out]
    have b0c := B0.out.below HBV.out B0.out.lt
    have kG : w.heap.size < w5.heap.size := Nat.lt_of_lt_of_le B0.out.lt HB5.out.size
    exact ⟨rfl, ⟨ng, A7, A8, l7, d7, l8, d8, ⟨A1, n1, c1⟩, ⟨A2, n2, c2⟩, ⟨A3, n3, c3⟩, BK.out, fun w' hx => ⟨by rw [HDR.out.2.2.1]; exact ((HIQ.out.below HB6.out).more HB6.out.size).excB b0c Jq1 hx, (HO.out.1.exc hx (fun e => by have := HO.out.1.from1 _ e; omega) (fun e => by have := HO.out.1.from2 _ e; omega) (fun e => by have := HO.out.1.from3 _ e; omega)).read⟩⟩, HBV.out⟩
   case rest =>
    obtain ⟨rfl, ⟨ng', A7', A8', l7', d7', l8', d8', W', S', C', bk, hq⟩, eV⟩ := hcut
    rename World => wd
    obtain ⟨y0, y1, y2, y3, y4, y5⟩ := bk.c6
    have BR := lh (B0.out.below eV B0.out.lt)
    have HQ := lh hq
    have HBD := lh (HBW.out.trans (eV.mono HBW.out.size))
    clear bk hq eV HP3 HP4 HP5 HP6 x0 x1 x2 x3 x4 x5 HDR HO BK HB6 HRW HIQ HB5 bV HI HL H HWL HN HM
    simp only [SW.v] at y3 y4 y5
    generalize hgR : w.heap.size = gR at BR HQ ⊢
    go_wp2_with (refine Jr rfl _ (.tmp 14) (.tmp 165) rfl gR #[.bool ng', .slice A7' l7' d7', .slice A8' l8' d8', .slice W'.A W'.n W'.c, .slice S'.A S'.n S'.c, .slice C'.A C'.n C'.c] _ rfl rfl _ BR.out (by kernel_rfl) rfl (by simp [Value.oneCell']) ?_; intro w7 aD cK; have HX7 := lh cK; have HB7 := lh aD; clear cK aD y0 y1 y2 y3 y4 y5)
    obtain ⟨p0, p1, p2, p3, p4, p5⟩ := HB7.out.c6
    refine bodyPost_ret (v := .agg #[.bool ng', .slice A7' l7' d7', .slice A8' l8' d8', .slice W'.A W'.n W'.c, .slice S'.A S'.n S'.c, .slice C'.A C'.n C'.c]) (by simp [results, Tryz.results12, go_sem, p0, p1, p2, p3, p4, p5]) rfl ?_
    exact ⟨_, rfl, ⟨ng', A7', A8', l7', d7', l8', d8', W', S', C', rfl, (HQ.out w7 HX7.out).1, (HQ.out w7 HX7.out).2⟩, HBD.out.trans (HX7.out.below HBD.out.size (Nat.le_of_eq hgR))⟩
theorem Jox (l : List Int) : ∀ (f : Nat) (m : BM) (i : Nat), (∃ n, DrawnB m n /\ n + f <= 1073741824) -> (Jop f m l i).smooth = m.smooth /\ (Jop f m l i).words = m.words
 | 0, m, i, _ => ⟨rfl, rfl⟩
 | f + 1, m, i, ⟨n, h, hn⟩ => by
  unfold Jop
  split
  ·obtain ⟨h1, h2⟩ := h.moved (h.rowOk (l.drop (i + 1))) (h.class_ (l.getD i 0)) (by omega)
   rw [h1, if_pos rfl]
   exact Jox l f _ _ ⟨n + 1, h2, by omega⟩
  exact ⟨rfl, rfl⟩
theorem Jqp (l : List Int) (classes cols smooth : Int) : QS 1000 (Jov l classes cols smooth).smooth := by
 have h := (Jox l 24 (Jo1 classes cols smooth) 0 ⟨0, Joz classes cols smooth, by omega⟩).1
 unfold Jov
 rw [h]
 show QS 1000 (((smooth % 4 + 1 : Int) : Rat) / (((smooth.tdiv 4) % 3 + 1 : Int) : Rat))
 rw [Rat.div_def]
 exact ((QS.cnt (k := 3) (by omega) (by omega) (by omega)).mul ((QS.cnt (k := 3) (by omega) (by omega) (by omega)).inv (by omega))).mono (by omega)
theorem Jpv (l : List Int) (classes cols smooth : Int) : LenB (Jov l classes cols smooth) := Za (Jpe l classes cols smooth).ok
theorem Jpn (m : BM) {way : Int} (a b : Int) (h : 7 <= way % 14) : Jo6 m way a b = m := by rw [Jpo]; exact Jo2 (by omega)
theorem Nest.swell {β : Type} {T : TypeId} {P : World -> (Nat -> Prop) -> Value -> β -> Prop} {w : World} {S : Nat -> Prop} {bl : List β} (K : SepK P) {g n c : Nat} (h : Nest T P w S (.slice (some ⟨g, 0, none⟩) n c) bl) {i : Nat} {b : β} (hb : bl[i]? = some b) :
  ∃ A m k F', w.cell? ⟨g, i, none⟩ = some (.slice A m k) /\ P w F' (.slice A m k) b /\ (∀ x, F' x -> S x /\ x ≠ g) /\ S g /\
   ∀ (w' : World) (b' : β) (F'' : Nat -> Prop) (A' : Option Addr) (m' k' : Nat), w.heap.size <= w'.heap.size -> (∀ x, x < w.heap.size -> ¬ F' x -> w'.heap[x]? = w.heap[x]?) -> P w' F'' (.slice A' m' k') b' -> (∀ x, F'' x -> F' x \/ ¬ S x) ->
    ∃ S'', Nest T P (w'.setCell ⟨g, i, none⟩ (.slice A' m' k')) S'' (.slice (some ⟨g, 0, none⟩) n c) (bl.set i b') /\ ∀ x, S'' x -> S x \/ F'' x := by
 have aS : ∀ {k : Nat}, S k -> k < w.heap.size := fun hk => h.lt K hk
 obtain ⟨rl, F, h1, h2, h3, h4, h5, h6, h7⟩ := h
 have hi : i < rl.length := by rw [h2]; exact (List.getElem?_eq_some_iff.1 hb).1
 have hn : n = rl.length := by
  obtain ⟨A', c', h4, _, _⟩ := Own.form h1
  injection h4
 subst hn
 have hr : rl[i]? = some rl[i] := List.getElem?_eq_getElem hi
 have hg : ∀ j, j < rl.length -> ∀ x, F j x -> x ≠ g := fun j hj x hx e => (h4 j hj x hx).2 (by rw [e]; rfl)
 refine ⟨_, _, _, F i, Own.cellf h1 hr, h3 i _ b hr hb, fun x hx => ⟨(h4 i hi x hx).1, hg i hi x hx⟩, h6 g rfl, fun w' b' F'' A' m' k' hs hk hP hF => ?_⟩
 have aW : ∀ x, F'' x -> S x -> F i x := fun x hx hl => (hF x hx).resolve_right fun h => h hl
 have bD : ∀ x, F'' x -> x ≠ g := fun x hx e => hg i hi x (aW x hx (by rw [e]; exact h6 g rfl)) e
 have bW : Own w' T SW.v (.slice (some ⟨g, 0, none⟩) rl.length c) rl := h1.loc fun k jG => by
  have e : g = k := by simpa [Value.ownBlock] using jG
  subst e
  exact hk g (aS (h6 g rfl)) fun hx => hg i hi g hx rfl
 have aH := World.ownsRow.stored bW i (.slice A' m' k')
 have aX : Exc g w' (w'.setCell ⟨g, i, none⟩ (.slice A' m' k')) := (Exc.refl g w').set_ i _
 refine ⟨fun x => (x = g) \/ ∃ j, j < rl.length /\ upd F i F'' j x, ⟨rl.set i ⟨A', m', k'⟩, upd F i F'', ?_, by simp [h2], fun j r b'' jH aC => ?_, fun j hj x hx => ?_, fun j j' hj dS p9 x hx l6 => ?_, fun x hx => ?_, fun x hx => ?_⟩, fun x hx => ?_⟩
 ·unfold Own
  rw [List.length_set, List.map_set]
  exact aH.1
 ·rcases getElem?_set_cases jH with ⟨e1, e2⟩ | ⟨hj, gV⟩
  ·subst e1 e2
   have e : b'' = b' := by
    rw [List.getElem?_set, if_pos rfl] at aC
    split at aC
    ·exact (Option.some.inj aC).symm
    cases aC
   subst e
   rw [Jcg]
   exact K.loc hP aX.size fun x hx => aX.block x (K.lt hP hx) (bD x hx)
  rw [List.getElem?_set, if_neg (fun e => hj e.symm)] at aC
  have eW := (List.getElem?_eq_some_iff.1 gV).1
  rw [Jho hj]
  have hp := K.loc (h3 j r b'' gV aC) hs fun x hx => hk x (aS (h4 j eW x hx).1) fun jI => h5 j i eW hi hj x hx jI
  exact K.loc hp aX.size fun x hx => aX.block x (K.lt hp hx) (hg j eW x hx)
 ·rw [List.length_set] at hj
  refine ⟨.inr ⟨j, hj, hx⟩, fun e => ?_⟩
  have e2 : g = x := by simpa [Value.ownBlock] using e
  subst e2
  rcases Zg hx with ⟨_, hx⟩ | ⟨_, hx⟩
  ·exact bD g hx rfl
  exact hg j hj g hx rfl
 ·rw [List.length_set] at hj dS
  rcases Zg hx with ⟨ej, hx⟩ | ⟨_, hx⟩ <;> rcases Zg l6 with ⟨ej', l6⟩ | ⟨_, l6⟩
  ·exact p9 (ej.trans ej'.symm)
  ·exact h5 i j' hi dS (fun e => p9 (ej.trans e)) x (aW x hx (h4 j' dS x l6).1) l6
  ·exact h5 j i hj hi (fun e => p9 (e.trans ej'.symm)) x hx (aW x l6 (h4 j hj x hx).1)
  exact h5 j j' hj dS p9 x hx l6
 ·exact .inl (by simpa [Value.ownBlock] using hx.symm)
 ·rcases hx with rfl | ⟨j, hj, hx⟩
  ·exact .inl rfl
  exact .inr ⟨j, by rw [List.length_set]; exact hj, hx⟩
 rcases hx with rfl | ⟨j, hj, hx⟩
 ·exact .inl (h6 _ rfl)
 rcases Zg hx with ⟨_, hx⟩ | ⟨_, hx⟩
 ·exact .inr hx
 exact .inl (h4 j hj x hx).1
theorem OwB.swell {e T T2 : TypeId} {L : Nat} {w : World} {W S : SW} {F G H : Nat -> Prop} {m : BM} {g n c i : Nat} {t : List (List Int)} (h : OwB e T T2 L w W S ⟨some ⟨g, 0, none⟩, n, c⟩ F G H m) (ht : m.counts[i]? = some t) (hL : L <= w.heap.size) :
  ∃ A k F', w.cell? ⟨g, i, none⟩ = some (.slice A t.length k) /\ Nest T (NRow e zv) w F' (.slice A t.length k) t /\ (∀ x, F' x -> H x /\ x ≠ g) /\ H g /\
   ∀ (w' : World) (t' : List (List Int)) (F'' : Nat -> Prop) (A' : Option Addr) (m' k' : Nat), w.heap.size <= w'.heap.size -> (∀ x, x < w.heap.size -> ¬ F' x -> w'.heap[x]? = w.heap[x]?) -> Nest T (NRow e zv) w' F'' (.slice A' m' k') t' -> (∀ x, F'' x -> F' x \/ w.heap.size <= x) ->
    ∃ H', OwB e T T2 L (w'.setCell ⟨g, i, none⟩ (.slice A' m' k')) W S ⟨some ⟨g, 0, none⟩, n, c⟩ F G H' { m with counts := m.counts.set i t' } /\ ∀ x, H' x -> H x \/ w.heap.size <= x := by
 obtain ⟨o1, o2, o3⟩ := h.old
 obtain ⟨A, k0, k, F', h1, h2, h3, h4, h5⟩ := h.counts.swell (Xt (Js e zv) T) ht
 obtain ⟨A2, c2, hf⟩ := h2.form
 injection hf with e1 e2 e3
 subst e2
 refine ⟨A, k, F', h1, h2, h3, h4, fun w' t' F'' A' m' k' hs hk hP hF => ?_⟩
 have aW : ∀ x, F'' x -> H x \/ w.heap.size <= x := fun x hx => (hF x hx).imp (fun h => (h3 x h).1) id
 obtain ⟨H', h6, h7⟩ := h5 w' t' F'' A' m' k' hs hk hP (fun x hx => (hF x hx).imp id fun h8 h9 => by have := o3 x h9; omega)
 have h8 : ∀ x, H' x -> H x \/ w.heap.size <= x := fun x hx => (h7 x hx).elim .inl (aW x)
 have aX : Exc g w' (w'.setCell ⟨g, i, none⟩ (.slice A' m' k')) := (Exc.refl g w').set_ i _
 have loc1 : ∀ x, x < w.heap.size -> ¬ H x -> (w'.setCell ⟨g, i, none⟩ (.slice A' m' k')).heap[x]? = w.heap[x]? := fun x hx hn => (aX.block x (Nat.lt_of_lt_of_le hx hs) fun e => hn (by rw [e]; exact h4)).trans (hk x hx fun h => hn (h3 x h).1)
 have y8 := nt hs aX.size
 refine ⟨H', ⟨(Js e zv).loc h.words y8 fun x hx => loc1 x (o1 x hx) fun e => h.ap13 x hx e, (Js e zv).loc h.seen y8 fun x hx => loc1 x (o2 x hx) fun e => h.ap23 x hx e, h6, h.from1, h.from2, fun x hx => ?_, h.ap12, fun x hx l6 => ?_, fun x hx l6 => ?_⟩, h8⟩
 ·rcases h8 x hx with h9 | h9
  ·exact h.from3 x h9
  omega
 ·rcases h8 x l6 with h9 | h9
  ·exact h.ap13 x hx h9
  have := o1 x hx
  omega
 rcases h8 x l6 with h9 | h9
 ·exact h.ap23 x hx h9
 have := o2 x hx
 omega
theorem OwB.swellWords {e T T2 : TypeId} {L : Nat} {w w' : World} {W W' S C : SW} {F G H : Nat -> Prop} {m : BM} {ws : List Int} (h : OwB e T T2 L w W S C F G H m) (hL : L <= w.heap.size) (ho : Own w' e zv W'.v ws) (hg : Grew w w' W.v W'.v) :
  OwB e T T2 L w' W' S C (fun k => W'.v.ownBlock = some k) G H { m with words := ws } /\ ∀ k, W'.v.ownBlock = some k -> F k \/ w.heap.size <= k := by
 obtain ⟨o1, o2, o3⟩ := h.old
 have hF : ∀ k, W.v.ownBlock = some k -> F k := fun k hk => (h.words.2 k).2 hk
 have h8 : ∀ k, W'.v.ownBlock = some k -> F k \/ w.heap.size <= k := fun k hk => (hg.own k hk).imp (hF k) id
 refine ⟨⟨NRow.of ho, (Js e zv).loc h.seen hg.size fun x hx => hg.block x (o2 x hx) fun e => h.ap12 x (hF x e.symm) hx, h.counts.loc (Xt (Js e zv) T) hg.size fun x hx => hg.block x (o3 x hx) fun e => h.ap13 x (hF x e.symm) hx, fun x hx => ?_, h.from2, h.from3, fun x hx l6 => ?_, fun x hx l6 => ?_, h.ap23⟩, h8⟩
 ·rcases h8 x hx with h9 | h9
  ·exact h.from1 x h9
  omega
 ·rcases h8 x hx with h9 | h9
  ·exact h.ap12 x h9 l6
  have := o2 x l6
  omega
 rcases h8 x hx with h9 | h9
 ·exact h.ap13 x h9 l6
 have := o3 x l6
 omega
theorem Jsh {β : Type} {T TT : TypeId} {K : World -> (Nat -> Prop) -> Value -> β -> Prop} {ops : Array Oper} {Q : Exit -> Act -> World -> Prop} {Ψ : Value -> World -> Prop} {i : Nat} {a : Act} (hK : SepK K) (E : Elt Tryz.prog TT T (.slice none 0 0) 24) (o : Oper) (ho : ops[i]? = some o) (jJ : Region.wanted o (yielded ops a.tmps) = true) (s x : Operand)
  (jK : o.op = .call { callee := .builtin .append, args := #[s, x], argTypes := #[TT, TT] })
  (S S' : Nat -> Prop) (w : World) (v : Value) (bl : List β) (A : Option Addr) (n c : Nat) (b : β) (B : Nat) (X : Option Addr) (cx : Nat) (hs : a.eval s = v) (bW : Nest T K w S v bl) (jL : K w S' (.slice A n c) b) (hd : ∀ x, S' x -> ¬ S x) (hx : a.eval x = .slice X 1 cx) (hr : Reads w B 1 X 1 [.slice A n c]) (hl : bl.length <= 1000000)
  (h : ∀ v' w1 S'', Nest T K w1 S'' v' (bl ++ [b]) -> (∀ x, S'' x -> S x \/ S' x \/ w.heap.size <= x) -> Grew w w1 v v' -> Ψ v' w1) : wpOp Tryz.prog ops Q i (fun a'' w'' => ∃ v, a'' = a.put (Ku ops i) v /\ Ψ v w'') a w := by
 obtain ⟨rl, F, h1, h2, h3, h4, h5, h6, h7⟩ := bW
 refine Joy E o ho jJ s x jK w v rl B X 1 cx [(⟨A, n, c⟩ : SW)] hs h1 hx hr SW.one (by unfold maxLen; omega) (by omega) ?_
 intro v' w1 h8 j6
 obtain ⟨S'', h9, q8⟩ := Nest.snoc hK h1 h2 h3 h4 h5 h6 jL hd h8 j6
 exact h v' w1 S'' h9 q8 j6
theorem Jsg (a b : Rat) : Jc2 a b = 0 ↔ a = b := by
 unfold Jc2
 by_cases h1 : a < b
 ·rw [if_pos h1]
  constructor
  ·intro h; omega
  rintro rfl; exact absurd h1 Rat.lt_irrefl
 rw [if_neg h1]
 by_cases h2 : b < a
 ·rw [if_pos h2]
  constructor
  ·intro h; omega
  rintro rfl; exact absurd h2 Rat.lt_irrefl
 rw [if_neg h2]
 exact ⟨fun _ => Rat.le_antisymm (Rat.not_lt.1 h2) (Rat.not_lt.1 h1), fun _ => rfl⟩
theorem Jsi (A A' : Option Addr) (n c c' B B' : Nat) (l l' : List Rat) (w : World) (h : ReadsQ w B A n l) (h' : ReadsQ w B' A' n l') (hB : B <= w.heap.size) (dT : B' <= w.heap.size) (hn : n <= 1000000) (hq : ∀ x ∈ l, QS 549755813888 x) (dE : ∀ x ∈ l', QS 549755813888 x) :
  Calls Tryz.prog 89 #[.slice A n c, .slice A' n c', .func (.func 43) #[] #[]] w fun e w' => ∃ z : Int, e = .returned (.int .i64 z) /\ (z == 0) = decide (l = l') /\ Below w.heap.size w w' := by
 have H := lh h
 have H' := lh h'
 have HQ := lh hq
 have HQ' := lh dE
 have HLN := lh h.len
 have HLN' := lh h'.len
 clear h h' hq dE
 go_enter Tryz.func89, Tryz.ntmps89
 go_wp2_with fail
 go_loopw [13] (fun p wr => ∃ k : Nat, k <= n /\ p = .int .i64 (k : Int) /\ Hid (l.take k = l'.take k) /\ Below w.heap.size w wr) (fun p _ => n - (intOf p).toNat)
 case atStart => exact ⟨0, by omega, rfl, lh rfl, Below.refl _ _⟩
 case round =>
  obtain ⟨k, hk, rfl, dU, j0⟩ := hrel
  rename World => wr
  by_cases eL : k < n
  ·have k1 : (k : Int) < (n : Int) := by omega
   have k2 : ¬ (n : Int) <= (k : Int) := by omega
   obtain ⟨x, hx⟩ : ∃ x, l[k]? = some x := ⟨_, List.getElem?_eq_getElem (by have := HLN.out; omega)⟩
   obtain ⟨y, hy⟩ : ∃ y, l'[k]? = some y := ⟨_, List.getElem?_eq_getElem (by have := HLN'.out; omega)⟩
   obtain ⟨ad, gx, ox, rfl, hP, kH, gW⟩ := ReadsQ.at_ (H.out.below (j0.mono hB)) hx
   obtain ⟨ad', gy, oy, rfl, kI, jM, dF⟩ := ReadsQ.at_ (H'.out.below (j0.mono dT)) hy
   have dG := dF.alloc (.cells #[.bool (decide (x.num < 0)), .int .u64 (lo x.num.natAbs : Int), .string (mo x.num.natAbs), .int .u64 (lo ((qden x)) : Int), .string (mo ((qden x)))] 41)
   obtain ⟨x0, x1, x2, x3, x4⟩ := gW.c5
   obtain ⟨y0, y1, y2, y3, y4⟩ := dG.c5
   have eX := fun w => Jg3 x y w (HQ.out x (List.mem_of_getElem? hx)) (HQ'.out y (List.mem_of_getElem? hy))
   have hz := Jsg x y
   have HE : Hid (x = y -> l.take (k + 1) = l'.take (k + 1)) := lh fun e => by
    rw [List.take_add_one, List.take_add_one, dU.out, hx, hy, e]
   have HNE : Hid (x ≠ y -> l ≠ l') := lh fun p9 e => by
    subst e
    exact p9 (Option.some.inj (hx.symm.trans hy))
   generalize Jc2 x y = r at *
   unfold qV at eX
   have HCM := lh eX
   have HB2 := lh (j0.trans ((Jo wr (.cells #[.bool (decide (x.num < 0)), .int .u64 (lo x.num.natAbs : Int), .string (mo x.num.natAbs), .int .u64 (lo ((qden x)) : Int), .string (mo ((qden x)))] 41) (.cells #[.bool (decide (y.num < 0)), .int .u64 (lo y.num.natAbs : Int), .string (mo y.num.natAbs), .int .u64 (lo ((qden y)) : Int), .string (mo ((qden y)))] 41)).mono j0.size))
   clear hx hy gW dF dG eX j0 dU
   by_cases hr : r = 0
   ·subst hr
    have HT := lh (HE.out (hz.1 rfl))
    clear hz
    go_wp2_with fail
    refine (HCM.out _).mono ?_
    rintro e w1 ⟨rfl, aE⟩
    have HB3 := lh (Ja HB2.out aE)
    clear aE x0 x1 x2 x3 x4 y0 y1 y2 y3 y4
    go_wp2
    exact ⟨⟨k + 1, by omega, by go_num, HT, HB3.out⟩, by simp [intOf]; omega⟩
   have HD : Hid ((r == 0) = decide (l = l')) := lh (by rw [decide_eq_false (HNE.out fun e => hr (hz.2 e))]; simp [hr])
   have q1 : (r == 0) = false := by simp [hr]
   have q2 : (r != 0) = true := by simp [hr]
   clear hz
   go_wp2_with fail
   refine (HCM.out _).mono ?_
   rintro e w1 ⟨rfl, aE⟩
   have HB3 := lh (Ja HB2.out aE)
   clear aE x0 x1 x2 x3 x4 y0 y1 y2 y3 y4
   go_wp2
   go_ret
   exact ⟨r, rfl, HD.out, HB3.out⟩
  obtain rfl : k = n := by omega
  have k1 : ¬ (k : Int) < (k : Int) := by omega
  have HBW := lh j0
  have HD : Hid (((0 : Int) == 0) = decide (l = l')) := lh (by
   have h1 := dU.out
   rw [List.take_of_length_le (by have := HLN.out; omega), List.take_of_length_le (by have := HLN'.out; omega)] at h1
   rw [decide_eq_true h1]
   rfl)
  clear j0 dU
  go_wp2
  go_ret
  exact ⟨0, rfl, HD.out, HBW.out⟩
theorem Jsp (A A' : Option Addr) (n c c' B B' : Nat) (l l' : List Rat) (w : World) (h : ReadsQ w B A n l) (h' : ReadsQ w B' A' n l') (hB : B <= w.heap.size) (dT : B' <= w.heap.size) (hn : n <= 1000000) (hq : ∀ x ∈ l, QS 549755813888 x) (dE : ∀ x ∈ l', QS 549755813888 x) :
  Calls Tryz.prog 44 #[.slice A n c, .slice A' n c'] w (Ret (.bool (decide (l = l'))) w) := by
 have HC := lh (Jsi A A' n c c' B B' l l' w h h' hB dT hn hq dE)
 clear h h' hB dT hq dE
 go_enter Tryz.func44, Tryz.ntmps44
 go_wp2_with fail
 refine HC.out.mono ?_
 rintro e w1 ⟨z, rfl, hz, aE⟩
 have HZ := lh hz
 have HW := lh aE
 clear hz aE
 go_wp2
 go_ret
 exact ⟨by rw [<- HZ.out]; rfl, HW.out⟩
theorem Jsl (ws : List Int) (h : ∀ x ∈ ws, 1 <= x) : rowOk ws (List.replicate ws.length (-1)) :=
 ⟨List.length_replicate, fun i a n ha hn => by
  have h1 := List.eq_of_mem_replicate (List.mem_of_getElem? ha)
  have h2 := h n (List.mem_of_getElem? hn)
  omega⟩
structure LkR (W : World) (FX : Nat -> Option Value) (d : Nat -> Bool) (val : Nat -> Value) (w : World) : Prop where
 bel : Below W.heap.size W w
 fx : Fixed FX d val
theorem LkR.next {W w w' : World} {FX : Nat -> Option Value} {d : Nat -> Bool} {val : Nat -> Value} (h : LkR W FX d val w) (hb : Below w.heap.size w w') : LkR W FX d val w' := ⟨h.bel.trans (hb.mono h.bel.size), h.fx⟩
structure LkA (W : World) (cs : Array Value) (FX : Nat -> Option Value) (d : Nat -> Bool) (val : Nat -> Value) (w : World) : Prop where
 bel : Below W.heap.size W w
 fx : Fixed FX d val
 v9 : d 9 = true -> ∃ (g : Nat) (old : Array Value), val 9 = .pointer (some ⟨g, 0, none⟩) /\ W.heap.size <= g /\ Blk w g 41 old /\ old.size = 5 /\ (d 10 = true -> old = cs)
 v10 : d 10 = true -> d 9 = true
theorem LkA.next {W w w' : World} {cs : Array Value} {FX : Nat -> Option Value} {d : Nat -> Bool} {val : Nat -> Value} (h : LkA W cs FX d val w) (hb : Below w.heap.size w w') : LkA W cs FX d val w' :=
 ⟨h.bel.trans (hb.mono h.bel.size), h.fx, fun h1 => by
  obtain ⟨g, old, e, hg, hk, h2⟩ := h.v9 h1
  exact ⟨g, old, e, hg, hk.below hb hk.lt, h2⟩, h.v10⟩
def Jr6 (m : BM) (k : Nat) : BM := ⟨m.smooth, m.words ++ [2], m.seen, (m.counts.take k).map (fun t => t ++ [[0, 0]]) ++ m.counts.drop k⟩
theorem Jsj (m : BM) : ({ m with words := m.words ++ [2] } : BM) = Jr6 m 0 := by simp [Jr6]
theorem Jsm {m : BM} {k : Nat} {t : List (List Int)} (ht : m.counts[k]? = some t) : (Jr6 m k).counts[k]? = some t /\ ({ Jr6 m k with counts := (Jr6 m k).counts.set k (t ++ [[0, 0]]) } : BM) = Jr6 m (k + 1) := by
 have hk := (List.getElem?_eq_some_iff.1 ht).1
 have hl : ((m.counts.take k).map (fun t => t ++ [[(0 : Int), 0]])).length = k := by simp; omega
 have hd : m.counts.drop k = t :: m.counts.drop (k + 1) := by
  rw [List.drop_eq_getElem_cons hk]
  rw [List.getElem?_eq_getElem hk] at ht
  rw [Option.some.inj ht]
 have dV : m.counts.take (k + 1) = m.counts.take k ++ [t] := by
  rw [<- List.take_append_getElem hk]
  rw [List.getElem?_eq_getElem hk] at ht
  rw [Option.some.inj ht]
 constructor
 ·show ((m.counts.take k).map (fun t => t ++ [[(0 : Int), 0]]) ++ m.counts.drop k)[k]? = some t
  rw [List.getElem?_append_right (by omega), hl, Nat.sub_self, hd]
  rfl
 show (⟨m.smooth, m.words ++ [2], m.seen, ((m.counts.take k).map (fun t => t ++ [[(0 : Int), 0]]) ++ m.counts.drop k).set k (t ++ [[0, 0]])⟩ : BM) = _
 rw [List.set_append_right _ _ (by omega), hl, Nat.sub_self, hd]
 unfold Jr6
 rw [dV]
 simp
theorem Jsn {m : BM} {k : Nat} (h : m.counts.length <= k) : Jr6 m k = Jr7 m := by
 unfold Jr6 Jr7
 rw [List.take_of_length_le h, List.drop_of_length_le h, List.append_nil]
theorem Jsb (m : BM) (k : Nat) : (Jr6 m k).counts.length = m.counts.length := by
 simp [Jr6]
 omega
theorem InP.words {L g : Nat} {w w' : World} {m : BM} {W S C W' : SW} {F G H : Nat -> Prop} {ws : List Int} (bk : Blk w g 43 #[.bool (decide (m.smooth.num < 0)), .int .u64 (lo m.smooth.num.natAbs : Int), .string (mo m.smooth.num.natAbs), .int .u64 (lo ((qden m.smooth)) : Int), .string (mo ((qden m.smooth))), W.v, S.v, C.v]) (ho : OwB 3 22 65 L w W S C F G H m) (hx : ¬ F g /\ ¬ G g /\ ¬ H g) (hL : L <= w.heap.size) (hg : L <= g) (hw : Own w' 3 zv W'.v ws) (j6 : Grew w w' W.v W'.v) :
  InP L (w'.setCell ⟨g, 5, none⟩ W'.v) g { m with words := ws } /\ (∀ i, w'.frozen? ⟨g, i, none⟩ = false) /\ Below L w w' /\ w'.cell? ⟨g, 5, none⟩ = some W.v := by
 have hF : ∀ k, W.v.ownBlock = some k -> F k := fun k hk => (ho.words.2 k).2 hk
 have bk2 : Blk w' g 43 #[.bool (decide (m.smooth.num < 0)), .int .u64 (lo m.smooth.num.natAbs : Int), .string (mo m.smooth.num.natAbs), .int .u64 (lo ((qden m.smooth)) : Int), .string (mo ((qden m.smooth))), W.v, S.v, C.v] := (j6.block g bk.lt fun e => hx.1 (hF g e.symm)).trans bk
 obtain ⟨h1, h2⟩ := ho.swellWords hL hw j6
 have hn : ¬ W'.v.ownBlock = some g := fun e => (h2 g e).elim hx.1 fun h => by have := bk.lt; omega
 have aX : Exc g w' (w'.setCell ⟨g, 5, none⟩ W'.v) := (Exc.refl g w').set_ 5 _
 refine ⟨⟨W', S, C, _, G, H, ?_, h1.exc aX hn hx.2.1 hx.2.2, ⟨hn, hx.2.1, hx.2.2⟩, hg⟩, fun i => bk2.frozen i, j6.below hL fun k hk => ho.from1 k (hF k hk), bk2.cell 5⟩
 have h := bk2.set_ 5 W'.v
 simpa using h
structure LkG (L : Nat) (W0 W : World) (F' : Nat -> Prop) (nt : Nat) (t : List (List Int)) (Fin : World -> Prop) (FX : Nat -> Option Value) (d : Nat -> Bool) (val : Nat -> Value) (w : World) : Prop where
 fx : Fixed FX d val
 size : W.heap.size <= w.heap.size
 bel : Below L W0 w
 bl : d 10 = false -> Below W.heap.size W w
 hold : d 12 = false -> ∀ x, x < W.heap.size -> ¬ F' x -> w.heap[x]? = W.heap[x]?
 v8 : d 8 = true -> ∃ g, val 8 = .slice (some ⟨g, 0, none⟩) 2 2 /\ W.heap.size <= g /\ (d 10 = false -> Own w 3 zv (.slice (some ⟨g, 0, none⟩) 2 2) [0, 0])
 v9 : d 9 = true -> d 8 = true /\ ∃ X, val 9 = .slice X 1 1 /\ (d 10 = false -> Reads w w.heap.size 1 X 1 [val 8])
 v10 : d 10 = true -> d 9 = true /\ ∃ A' c' F'', val 10 = .slice A' (nt + 1) c' /\ (d 12 = false -> Nest 22 (NRow 3 zv) w F'' (.slice A' (nt + 1) c') (t ++ [[0, 0]])) /\ (∀ x, F'' x -> F' x \/ W.heap.size <= x)
 v12 : d 12 = true -> (∀ j, j < 12 -> d j = true) /\ Fin w
theorem LkG.no12 {L : Nat} {W0 W w : World} {F' : Nat -> Prop} {nt : Nat} {t : List (List Int)} {Fin : World -> Prop} {FX : Nat -> Option Value} {d : Nat -> Bool} {val : Nat -> Value} (h : LkG L W0 W F' nt t Fin FX d val w) {i : Nat} (hi : i < 12) (hd : d i = false) : d 12 = false := by
 cases e : d 12 with
 | false => rfl
 | true => rw [(h.v12 e).1 i hi] at hd; cases hd
def Jsq (i : Nat) : Nat := if i = 1 \/ i = 3 \/ i = 5 then 1 else if i = 4 then 2 else 0
structure LkW (W : World) (n1 n2 : Nat) (row : List Int) (ch : List Rat) (FX : Nat -> Option Value) (d : Nat -> Bool) (val : Nat -> Value) (w : World) : Prop where
 bel : Below W.heap.size W w
 fx : Fixed FX d val
 ap : Apart Jsq W.heap.size w.heap.size d val
 v1 : d 1 = true -> (∃ g, val 1 = .slice (some ⟨g, 0, none⟩) 0 0) /\ (d 3 = false -> Own w 3 zv (val 1) [])
 v3 : d 3 = true -> d 1 = true /\ (∃ A c, val 3 = .slice A n1 c) /\ (d 5 = false -> Own w 3 zv (val 3) row)
 v4 : d 4 = true -> ∃ g, val 4 = .slice (some ⟨g, 0, none⟩) 1 1 /\ (d 5 = false -> Reads w w.heap.size 1 (some ⟨g, 0, none⟩) 1 [.int .i64 (-1)])
 v5 : d 5 = true -> d 3 = true /\ d 4 = true /\ ∃ A c, val 5 = .slice A (n1 + 1) c /\ ReadsI w w.heap.size A (n1 + 1) (row ++ [-1])
 v6 : d 6 = true -> d 5 = true /\ ∃ g, val 6 = .tuple #[.slice (some ⟨g, 0, none⟩) n2 n2, .int .i64 0] /\ OwnQ w (.slice (some ⟨g, 0, none⟩) n2 n2) ch
 v7 : d 7 = true -> d 6 = true /\ val 7 = val 6
 v8 : d 8 = true -> d 6 = true /\ ∀ u y, val 6 = .tuple #[u, y] -> val 8 = u
 v9 : d 9 = true -> d 6 = true /\ ∀ u y, val 6 = .tuple #[u, y] -> val 9 = y
 v10 : d 10 = true -> d 8 = true /\ val 10 = val 8
 v11 : d 11 = true -> d 9 = true /\ val 11 = val 9
theorem LkW.next {W w w' : World} {n1 n2 : Nat} {row : List Int} {ch : List Rat} {FX : Nat -> Option Value} {d : Nat -> Bool} {val : Nat -> Value} (h : LkW W n1 n2 row ch FX d val w) (hb : Below w.heap.size w w') : LkW W n1 n2 row ch FX d val w' where
 bel := h.bel.trans (hb.mono h.bel.size)
 fx := h.fx
 ap := h.ap.hi hb.size
 v1 := fun h1 => ⟨(h.v1 h1).1, fun h2 => Own.below ((h.v1 h1).2 h2) hb ((h.v1 h1).2 h2).lt⟩
 v3 := fun h1 => ⟨(h.v3 h1).1, (h.v3 h1).2.1, fun h2 => Own.below ((h.v3 h1).2.2 h2) hb ((h.v3 h1).2.2 h2).lt⟩
 v4 := fun h1 => (h.v4 h1).imp fun g h2 => ⟨h2.1, fun h3 => ((h2.2 h3).below hb).more hb.size⟩
 v5 := fun h1 => ⟨(h.v5 h1).1, (h.v5 h1).2.1, (h.v5 h1).2.2.imp fun A h2 => h2.imp fun c h3 => ⟨h3.1, rkindI.more (rkindI.below h3.2 hb) hb.size⟩⟩
 v6 := fun h1 => ⟨(h.v6 h1).1, (h.v6 h1).2.imp fun g h2 => ⟨h2.1, OwnW.next h2.2 hb⟩⟩
 v7 := h.v7
 v8 := h.v8
 v9 := h.v9
 v10 := h.v10
 v11 := h.v11
theorem Jsr {a b u y : Value} (h : #[a, b] = #[u, y]) : a = u /\ b = y := by simpa using h
theorem Jsa (A : Option Addr) (n c : Nat) (l : List Int) (A' : Option Addr) (n' c' : Nat) (r : List Int) (classes cols smooth : Int) (w : World) (h : ReadsI w w.heap.size A n l) (dN : n <= c) (hc : c <= 9223372036854775807) (hl : ∀ x ∈ l, -9223372036854775808 <= x /\ x <= 9223372036854775807)
  (h' : ReadsI w w.heap.size A' n' r) (jN : n' <= 9223372036854775807) (gY : ∀ x ∈ r, -9223372036854775808 <= x /\ x <= 9223372036854775807) (i1 : -9223372036854775808 <= classes /\ classes <= 9223372036854775807) (i2 : -9223372036854775808 <= cols /\ cols <= 9223372036854775807) (i3 : -9223372036854775808 <= smooth /\ smooth <= 9223372036854775807) (hT : Tab w) :
  Calls Tryz.prog 9 #[.slice A n c, .slice A' n' c', .int .i64 classes, .int .i64 cols, .int .i64 smooth] w (Ret (.bool true) w) := by
 have p8 := Jpt A n c l classes cols smooth 13 0 0 w.heap.size w h zd dN hc hl i1 i2 i3 (by decide) (by decide) (by decide) (by decide)
 rw [Jpn _ _ _ (by decide)] at p8
 have bC := Jqp l classes cols smooth
 have y9 := Jpe l classes cols smooth
 have eY := Jpv l classes cols smooth
 obtain ⟨m, hm⟩ : ∃ m, Jov l classes cols smooth = m := ⟨_, rfl⟩
 rw [hm] at p8 bC y9 eY
 obtain ⟨row, t8⟩ : ∃ row, Jkx r m.words = row := ⟨_, rfl⟩
 have dW := y9.rowOk r
 rw [t8] at dW
 have eZ := Jsl m.words fun x hx => (y9.words x hx).1
 obtain ⟨dX, aY, -⟩ := Jpm (row := List.replicate m.words.length (-1)) y9.ok eZ y9.classes.1
 have bG := Jsd (row := List.replicate m.words.length (-1)) y9.ok eZ y9.classes.1 (fun x hx => by rw [List.eq_of_mem_replicate hx]; decide)
 have dY := (Jg7 dX bC).2.2.2
 obtain ⟨CN, fA⟩ : ∃ CN, Qo m (List.replicate m.words.length (-1)) = CN := ⟨_, rfl⟩
 obtain ⟨cn, en⟩ := CN
 rw [fA] at dX aY bG dY
 simp only at dX aY bG dY
 subst dX
 obtain ⟨dZ, aI, -⟩ := Jpm (row := row) y9.ok dW y9.classes.1
 have aZ := (Jg7 dZ bC).2.2.2
 have fB := Jsf y9.ok dW y9.classes.1 (by have := y9.cols; omega)
 obtain ⟨CH, fC⟩ : ∃ CH, Qo m row = CH := ⟨_, rfl⟩
 obtain ⟨ch, ce⟩ := CH
 rw [fC] at dZ aI aZ fB
 simp only at dZ aI aZ
 subst dZ
 have HDR := lh p8
 have HQ := lh (And.intro bC (And.intro y9 (And.intro eY fC)))
 have HN := lh (And.intro fA (And.intro aY (And.intro bG dY)))
 have HC := lh (And.intro aI (And.intro aZ fB))
 have HROW := lh t8
 have H' := lh (And.intro h' gY)
 have HT := lh hT
 have HKN := lh (fun w hT => Jgy w hT)
 clear p8 bC y9 eY hm dW eZ aY bG dY fA aI aZ fB h hl h' gY hT i1 i2 i3 fC t8 dN hc
 go_enter Tryz.func9, Tryz.ntmps9
 go_wp2_with fail
 refine HDR.out.mono ?_
 rintro e w1 ⟨v, rfl, ⟨ng, A7, A8, l7, d7, l8, d8, ⟨X1, n1, c1'⟩, ⟨X2, n2, c2'⟩, ⟨X3, n3, c3'⟩, rfl, cA, aB⟩, bK⟩
 simp only [SW.v]
 have aE : m.words.length = n1 := aB.words.len
 have eM : m.seen.length = n2 := aB.seen.len
 have gZ : m.counts.length = n3 := ReadsS.len aB.counts
 have HR := lh (And.intro cA aB)
 have HB1 := lh bK
 have HW := lh (And.intro aE (And.intro eM gZ))
 clear cA aB bK aE eM gZ HDR
 go_upto_region 2 with fail
 have b11 := Blk.new w1 31 #[.bool ng, .slice A7 l7 d7, .slice A8 l8 d8, .slice X1 n1 c1', .slice X2 n2 c2', .slice X3 n3 c3']
 have o9 := Jb w1 (.cells #[.bool ng, .slice A7 l7 d7, .slice A8 l8 d8, .slice X1 n1 c1', .slice X2 n2 c2', .slice X3 n3 c3'] 31)
 generalize w1.alloc (.cells #[.bool ng, .slice A7 l7 d7, .slice A8 l8 d8, .slice X1 n1 c1', .slice X2 n2 c2', .slice X3 n3 c3'] 31) = w2 at *
 have cD := Jqw ng A7 A8 l7 d7 l8 d8 X1 X2 X3 n1 c1' n2 c2' n3 c3' w1.heap.size m w2 (HR.out.2.below o9) (HR.out.1.below o9) o9.size HQ.out.2.2.1 (HQ.out.1.mono (by omega)) (HT.out.next (Ja HB1.out o9))
 have HIN := lh cD
 have HB2 := lh (Ja HB1.out o9)
 have H12 := lh o9
 have BK := lh b11
 have dR := b11.lt
 obtain ⟨x0, x1, x2, x3, x4, x5⟩ := b11.c6
 clear cD o9 b11
 go_wp2_with fail
 refine HIN.out.mono ?_
 rintro e w3 ⟨v, rfl, ⟨⟨A1, k1, c1⟩, ⟨A2, k2, c2⟩, ⟨A3, k3, c3⟩, F1, G1, H1, rfl, ho⟩, j7⟩
 obtain rfl : n1 = k1 := by rw [<- HW.out.1]; exact ho.read.words.len
 obtain rfl : n2 = k2 := by rw [<- HW.out.2.1]; exact ho.read.seen.len
 obtain rfl : n3 = k3 := by rw [<- HW.out.2.2]; exact ReadsS.len ho.read.counts
 simp only [SW.v]
 have dH := Nat.lt_of_lt_of_le dR j7.size
 have HB3 := lh (Ja HB2.out j7)
 have H13 := lh (H12.out.trans (j7.mono H12.out.size))
 have BK3 := lh (BK.out.below j7 dR)
 have HO := lh ho
 clear j7 ho x0 x1 x2 x3 x4 x5 BK H12
 go_upto_region 3 with fail
 have b12 := Blk.new w3 43 #[.bool (decide (m.smooth.num < 0)), .int .u64 (lo m.smooth.num.natAbs : Int), .string (mo m.smooth.num.natAbs), .int .u64 (lo ((qden m.smooth)) : Int), .string (mo ((qden m.smooth))), .slice A1 n1 c1, .slice A2 n2 c2, .slice A3 n3 c3]
 have aP := Jb w3 (.cells #[.bool (decide (m.smooth.num < 0)), .int .u64 (lo m.smooth.num.natAbs : Int), .string (mo m.smooth.num.natAbs), .int .u64 (lo ((qden m.smooth)) : Int), .string (mo ((qden m.smooth))), .slice A1 n1 c1, .slice A2 n2 c2, .slice A3 n3 c3] 43)
 generalize w3.alloc (.cells #[.bool (decide (m.smooth.num < 0)), .int .u64 (lo m.smooth.num.natAbs : Int), .string (mo m.smooth.num.natAbs), .int .u64 (lo ((qden m.smooth)) : Int), .string (mo ((qden m.smooth))), .slice A1 n1 c1, .slice A2 n2 c2, .slice A3 n3 c3] 43) = w4 at *
 have o0 := b12.lt
 have HO4 := lh (HO.out.next aP)
 have HB4 := lh (HB3.out.trans (aP.mono HB3.out.size))
 have H14 := lh (H13.out.trans (aP.mono H13.out.size))
 have BK34 := lh (BK3.out.below aP dH)
 have fD := BK34.out.lt
 have BK4 := lh b12
 have fE : n2 = n3 := by rw [<- HW.out.2.1, <- HW.out.2.2, ((Yf m).1 ((Kv m).1 HQ.out.2.1.ok).1).2.1]
 have gK : 1 <= n1 := by have := HQ.out.2.1.cols; have := HW.out.1; omega
 have kJ : n1 <= 3 := by have := HQ.out.2.1.cols; have := HW.out.1; omega
 have bG : n2 <= 3 := by have := HQ.out.2.1.classes; have := HW.out.2.1; omega
 subst fE
 obtain ⟨z0, z1, z2, z3, z4, z5, z6, z7⟩ := b12.c8
 clear HO HB3 H13 BK3 b12 aP dH HIN
 generalize w3.heap.size = g12 at *
 go_wp2_with fail
 go_loopw [13, 14] (fun v p wr => ∃ k : Nat, k <= n1 /\ p = .int .i64 (k : Int) /\ Own wr 3 zv v (List.replicate k (-1)) /\ (∀ b, v.ownBlock = some b -> w4.heap.size <= b) /\ Below w4.heap.size w4 wr) (fun _ p _ => n1 - (intOf p).toNat)
 case atStart => exact ⟨0, by omega, rfl, Own.nil_ _ _ _, (fun b h => by cases h), Below.refl _ _⟩
 case round =>
  clear z0 z1 z2 z3 z4 z5 z6 z7
  obtain ⟨k, hk, rfl, ho, bE, j0⟩ := hrel
  rename World => wr
  obtain ⟨z0, z1, z2, z3, z4, z5, z6, z7⟩ := (BK4.out.below j0 o0).c8
  by_cases eL : k < n1
  ·as_aux_lemma =>
   have k1 : (k : Int) < (n1 : Int) := by omega
   have HOR := lh ho
   have HFR := lh (And.intro bE j0)
   clear ho bE j0
   go_wp2_with (at_builtin; refine Joi (f := zv) Tryz.eltZ1 rfl (.tmp 42) (.tmp 43) rfl wr _ (List.replicate k (-1)) (-1) (.int .i64 (-1)) rfl rfl HOR.out (by simp [Act.eval]) rfl (by rw [List.length_replicate]; unfold maxLen; omega) (by rw [List.length_replicate]; omega) ?_; intro v' w2' cP j6)
   have aG := HFR.out.2.trans (j6.below HFR.out.2.size HFR.out.1)
   have bL := j6.fresh HFR.out.2.size HFR.out.1
   rw [show List.replicate k (-1 : Int) ++ [-1] = List.replicate (k + 1) (-1) from List.replicate_succ'.symm] at cP
   go_roundw
   case rel => exact ⟨k + 1, by omega, by go_num, cP, bL, aG⟩
   case measure => simp [intOf]; omega
  as_aux_lemma =>
  obtain rfl : n1 = k := by omega
  have k1 : ¬ (n1 : Int) < (n1 : Int) := by omega
  obtain ⟨AN, cN, hv, -⟩ := ho.form
  rw [List.length_replicate] at hv
  subst hv
  have bX := Vu A1 A2 A3 n1 c1 n2 c2 n2 c3 wr.heap.size m AN n1 cN (List.replicate n1 (-1)) wr ((HO4.out.next j0).read) (NRow.readsI (NRow.of ho)) zd HQ.out.2.2.1 (by omega) HQ.out.1 (HT.out.next (HB4.out.trans (j0.mono HB4.out.size)))
  rw [show List.replicate n1 (-1) = List.replicate m.words.length (-1) by rw [HW.out.1], HN.out.1] at bX
  have HCH := lh bX
  have HBW := lh j0
  clear ho bE j0 bX
  go_wp2_with fail
  refine HCH.out.mono ?_
  rintro e w5 ⟨v, rfl, fF, q9⟩
  rcases fF with ⟨-, gN, rfl, hJ, bJ⟩ | ⟨h0, -⟩
  case inr => exact absurd rfl h0
  have aL : OwnQ w5 (.slice (some ⟨gN, 0, none⟩) n2 n2) cn := bJ
  clear bJ
  have HB5 := lh (HBW.out.trans (q9.mono HBW.out.size))
  have HOQ := lh (And.intro aL (show w4.heap.size <= gN from nt HBW.out.size hJ))
  clear z0 z1 z2 z3 z4 z5 z6 z7 q9 aL hJ HCH HBW
  obtain ⟨z0, z1, z2, z3, z4, z5, z6, z7⟩ := (BK4.out.below HB5.out o0).c8
  have HS := lh (Jf9 (b := 1099511627776) (l := m.seen) (by omega) (fun x hx => by have h1 := HQ.out.2.1.few x hx; have h2 := (Qy HQ.out.2.1.ok).seen x hx; omega))
  have HSR := lh ((HO4.out.next HB5.out).read.seen)
  go_wp2_with fail
  go_loopw [17, 18] (fun v p wr => ∃ j : Nat, j <= n2 /\ p = .int .i64 (j : Int) /\ v = .int .i64 (m.seen.take j).sum /\ w5 = wr) (fun _ p _ => n2 - (intOf p).toNat)
  case atStart => exact ⟨0, by omega, rfl, rfl, rfl⟩
  case round =>
   obtain ⟨j, hj, rfl, rfl, rfl⟩ := hrel
   by_cases jO : j < n2
   ·as_aux_lemma =>
    have k2 : (j : Int) < (n2 : Int) := by omega
    obtain ⟨ad, x, rfl, aS, hx, hc⟩ := HSR.out.at_ jO
    have h1 := HS.out (j + 1)
    have hs := Jcj hx
    obtain ⟨s, e1⟩ : ∃ s, (m.seen.take j).sum = s := ⟨_, rfl⟩
    obtain ⟨t, e2⟩ : ∃ t, (m.seen.take (j + 1)).sum = t := ⟨_, rfl⟩
    rw [e1, e2] at hs
    rw [e2] at h1
    rw [e1]
    have hw : wrap64 (s + x) = t := by rw [<- hs]; exact Jfv (by omega) (by omega)
    have E2 := lh e2
    clear e1 e2 hs h1 hx aS
    go_wp2
    exact ⟨⟨j + 1, by omega, by go_num, by rw [hw, E2.out], trivial⟩, by simp [intOf]; omega⟩
   as_aux_lemma =>
   obtain rfl : n2 = j := by omega
   have k2 : ¬ (n2 : Int) < (n2 : Int) := by omega
   rw [List.take_of_length_le (by have := HW.out.2.1; omega)]
   have HSB := lh (show 0 <= m.seen.sum /\ m.seen.sum < 2 ^ 43 from ⟨Zh fun x hx => (Qy HQ.out.2.1.ok).seen x hx |>.1, by have h := (HS.out n2).2; rw [List.take_of_length_le (by have := HW.out.2.1; omega)] at h; omega⟩)
   have jP : 1 <= n2 := by have := HQ.out.2.1.classes; have := HW.out.2.1; omega
   obtain ⟨gS, rfl⟩ := HO4.out.seen.blk (by have := HW.out.2.1; omega)
   clear HSR HS
   obtain ⟨sm, iA⟩ : ∃ sm, m.seen.sum = sm := ⟨_, rfl⟩
   rw [iA] at HN HSB ⊢
   clear iA
   go_wp2_with fail
   go_loopw [19] (fun p wr => ∃ i : Nat, i <= n2 /\ p = .int .i64 (i : Int) /\ Below w5.heap.size w5 wr) (fun p _ => n2 - (intOf p).toNat)
   case atStart => exact ⟨0, by omega, rfl, Below.refl _ _⟩
   case round =>
    clear z0 z1 z2 z3 z4 z5 z6 z7
    obtain ⟨i, hi, rfl, cE⟩ := hrel
    rename World => w6
    have HBR := lh (HB5.out.trans (cE.mono HB5.out.size))
    have HBQ := lh cE
    obtain ⟨z0, z1, z2, z3, z4, z5, z6, z7⟩ := (BK4.out.below HBR.out o0).c8
    clear cE
    by_cases cD : i < n2
    ·as_aux_lemma =>
     obtain ⟨x, hx⟩ : ∃ x, m.seen[i]? = some x := ⟨_, List.getElem?_eq_getElem (by have := HW.out.2.1; omega)⟩
     obtain ⟨cq, cO, cF⟩ := HN.out.2.2.1 i x hx
     rw [HW.out.2.1] at cF
     have fG := (Qy HQ.out.2.1.ok).seen x (List.mem_of_getElem? hx)
     have k3 : (i : Int) < (n2 : Int) := by omega
     have fH : QS 1000 ((x : Int) : Rat) := (QS.cnt (k := 31) fG.1 (by omega) (by omega)).mono (by omega)
     have dP : QS 1000 ((sm : Int) : Rat) := (QS.cnt (k := 43) HSB.out.1 HSB.out.2 (by omega)).mono (by omega)
     have aU : QS 1000 (((n2 : Nat) : Int) : Rat) := (QS.cnt (k := 3) (by omega) (by omega) (by omega)).mono (by omega)
     have eA := HQ.out.1.mul aU
     have eB := dP.add eA
     have iB := HN.out.2.2.2 cq (List.mem_of_getElem? cO)
     have fI := fH.add HQ.out.1
     obtain ⟨tp, e1⟩ : ∃ tp, ((x : Int) : Rat) + m.smooth = tp := ⟨_, rfl⟩
     obtain ⟨mn, e2⟩ : ∃ mn, m.smooth * (((n2 : Nat) : Int) : Rat) = mn := ⟨_, rfl⟩
     rw [e2] at cF eA eB
     obtain ⟨dn, e3⟩ : ∃ dn, ((sm : Int) : Rat) + mn = dn := ⟨_, rfl⟩
     rw [e3] at cF eB
     rw [e1] at cF fI
     have EQ := lh (And.intro e1 (And.intro e2 (And.intro e3 cF)))
     have QB := lh (And.intro fH (And.intro dP (And.intro aU (And.intro eA (And.intro eB (And.intro iB fI))))))
     have XB := lh (And.intro fG HSB.out)
     have HX := lh (And.intro hx cO)
     have HT6 := lh (HT.out.next (HB4.out.trans (HBR.out.mono HB4.out.size)))
     clear fH dP aU eA eB iB fI cF e1 e2 e3 fG hx cO HSB
     go_wp2_with fail
     go_cut [20] (fun v wc => ∃ g, v = .pointer (some ⟨g, 0, none⟩) /\ Blk wc g 41 #[.bool (decide (tp.num < 0)), .int .u64 (lo tp.num.natAbs : Int), .string (mo tp.num.natAbs), .int .u64 (lo ((qden tp)) : Int), .string (mo ((qden tp)))] /\ Below w6.heap.size w6 wc)
     case first =>
      refine Je0 (LkA w6 #[.bool (decide (tp.num < 0)), .int .u64 (lo tp.num.natAbs : Int), .string (mo tp.num.natAbs), .int .u64 (lo ((qden tp)) : Int), .string (mo ((qden tp)))] (fun j => ([some (.pointer (some ⟨g12, 6, none⟩)), some (.slice (some ⟨gS, 0, none⟩) n2 c2), some (.int .i64 (i : Int)), some (.pointer (some ⟨gS, i, none⟩)), some (.int .i64 x), some (qV ((x : Int) : Rat)), some (.pointer (some ⟨g12, 0, none⟩)), some (qV m.smooth), some (qV tp), none, none] : List (Option Value)).getD j none)) (by kernel_rfl) (by kernel_rfl) (by kernel_rfl) ?_ ?_ [some 81, some 82, some 83, some 84, some 85, some 86, some 87, some 88, some 89, some 20, none] rfl ?_
      ·constructor <;> first | exact Jt _ | exact Fixed.start _ _ | (intro h; cases h)
      ·refine ⟨⟨⟨⟨⟨⟨⟨⟨⟨⟨⟨trivial, ?_⟩, ?_⟩, ?_⟩, ?_⟩, ?_⟩, ?_⟩, ?_⟩, ?_⟩, ?_⟩, ?_⟩, ?_⟩
       case refine_1 =>
        intro d val a' w' hS hF hd hp
        have e8 : a'.tmps[12]?.getD undef = .pointer (some ⟨g12, 0, none⟩) := hS.arg 12 (by kernel_rfl)
        refine Xa (v := .pointer (some ⟨g12, 6, none⟩)) _ rfl rfl ?_ (show LkA _ _ _ _ _ _ from ⟨hF.bel, hF.fx.step (.inr rfl), hF.v9, hF.v10⟩)
        clear hF hS hd hp
        go_simp
       case refine_2 =>
        intro d val a' w' hS hF hd hp
        have e1 : a'.tmps[81]?.getD undef = .pointer (some ⟨g12, 6, none⟩) := (hS.res 0 81 (hp 0 (by kernel_rfl)) rfl (by kernel_rfl)).trans (hF.fx 0 _ rfl (hp 0 (by kernel_rfl)))
        have b0' := BK4.out.below (HBR.out.trans (hF.bel.mono HBR.out.size)) o0
        obtain ⟨y0, y1, y2, y3, y4, y5, y6, y7⟩ := b0'.c8
        refine Xa (v := .slice (some ⟨gS, 0, none⟩) n2 c2) _ rfl rfl ?_ (show LkA _ _ _ _ _ _ from ⟨hF.bel, hF.fx.step (.inr rfl), hF.v9, hF.v10⟩)
        clear hF hS hd hp
        go_simp
       case refine_3 =>
        intro d val a' w' hS hF hd hp
        have e8 : a'.tmps[19]?.getD undef = .int .i64 (i : Int) := hS.arg 19 (by kernel_rfl)
        refine Xa (v := .int .i64 (i : Int)) _ rfl rfl ?_ (show LkA _ _ _ _ _ _ from ⟨hF.bel, hF.fx.step (.inr rfl), hF.v9, hF.v10⟩)
        clear hF hS hd hp
        go_simp
       case refine_4 =>
        intro d val a' w' hS hF hd hp
        have e1 : a'.tmps[82]?.getD undef = .slice (some ⟨gS, 0, none⟩) n2 c2 := (hS.res 1 82 (hp 1 (by kernel_rfl)) rfl (by kernel_rfl)).trans (hF.fx 1 _ rfl (hp 1 (by kernel_rfl)))
        have e2 : a'.tmps[83]?.getD undef = .int .i64 (i : Int) := (hS.res 2 83 (hp 2 (by kernel_rfl)) rfl (by kernel_rfl)).trans (hF.fx 2 _ rfl (hp 2 (by kernel_rfl)))
        refine Xa (v := .pointer (some ⟨gS, i, none⟩)) _ rfl rfl ?_ (show LkA _ _ _ _ _ _ from ⟨hF.bel, hF.fx.step (.inr rfl), hF.v9, hF.v10⟩)
        clear hF hS hd hp
        go_simp
       case refine_5 =>
        intro d val a' w' hS hF hd hp
        have e1 : a'.tmps[84]?.getD undef = .pointer (some ⟨gS, i, none⟩) := (hS.res 3 84 (hp 3 (by kernel_rfl)) rfl (by kernel_rfl)).trans (hF.fx 3 _ rfl (hp 3 (by kernel_rfl)))
        have hc := (HO4.out.next (HBR.out.trans (hF.bel.mono HBR.out.size))).seen.cell HX.out.1
        unfold zv at hc
        refine Xa (v := .int .i64 x) _ rfl rfl ?_ (show LkA _ _ _ _ _ _ from ⟨hF.bel, hF.fx.step (.inr rfl), hF.v9, hF.v10⟩)
        clear hF hS hd hp
        go_simp
       case refine_6 =>
        intro d val a' w' hS hF hd hp
        have e1 : a'.tmps[85]?.getD undef = .int .i64 x := (hS.res 4 85 (hp 4 (by kernel_rfl)) rfl (by kernel_rfl)).trans (hF.fx 4 _ rfl (hp 4 (by kernel_rfl)))
        refine Jjm (Ψ := fun v w'' => LkA w6 #[.bool (decide (tp.num < 0)), .int .u64 (lo tp.num.natAbs : Int), .string (mo tp.num.natAbs), .int .u64 (lo ((qden tp)) : Int), .string (mo ((qden tp)))] _ (upI d 5) (Jf3 val 5 v) w'') _ rfl rfl (args := #[.int .i64 x]) (w2 := w') (f := 40) ?_ ?_
        ·clear hF hS hd hp
         go_simp
        refine (Vo x w' (by have := XB.out.1; omega) (by have := XB.out.1; omega)).mono ?_
        rintro e w3 ⟨rfl, j7⟩
        have hG := hF.next j7
        exact ⟨_, rfl, ⟨hG.bel, hG.fx.step (.inr rfl), hG.v9, hG.v10⟩⟩
       case refine_7 =>
        intro d val a' w' hS hF hd hp
        have e8 : a'.tmps[12]?.getD undef = .pointer (some ⟨g12, 0, none⟩) := hS.arg 12 (by kernel_rfl)
        refine Xa (v := .pointer (some ⟨g12, 0, none⟩)) _ rfl rfl ?_ (show LkA _ _ _ _ _ _ from ⟨hF.bel, hF.fx.step (.inr rfl), hF.v9, hF.v10⟩)
        clear hF hS hd hp
        go_simp
       case refine_8 =>
        intro d val a' w' hS hF hd hp
        have e1 : a'.tmps[87]?.getD undef = .pointer (some ⟨g12, 0, none⟩) := (hS.res 6 87 (hp 6 (by kernel_rfl)) rfl (by kernel_rfl)).trans (hF.fx 6 _ rfl (hp 6 (by kernel_rfl)))
        have b0' := BK4.out.below (HBR.out.trans (hF.bel.mono HBR.out.size)) o0
        obtain ⟨y0, y1, y2, y3, y4, y5, y6, y7⟩ := b0'.c8
        refine Xa (v := qV m.smooth) _ rfl rfl ?_ (show LkA _ _ _ _ _ _ from ⟨hF.bel, hF.fx.step (.inr rfl), hF.v9, hF.v10⟩)
        clear hF hS hd hp
        unfold qV
        go_simp
       case refine_9 =>
        intro d val a' w' hS hF hd hp
        have e1 : a'.tmps[86]?.getD undef = qV ((x : Int) : Rat) := (hS.res 5 86 (hp 5 (by kernel_rfl)) rfl (by kernel_rfl)).trans (hF.fx 5 _ rfl (hp 5 (by kernel_rfl)))
        have e2 : a'.tmps[88]?.getD undef = qV m.smooth := (hS.res 7 88 (hp 7 (by kernel_rfl)) rfl (by kernel_rfl)).trans (hF.fx 7 _ rfl (hp 7 (by kernel_rfl)))
        have j8 := Jcx ((x : Int) : Rat) m.smooth w' (QB.out.1.mono (by omega)) (HQ.out.1.mono (by omega)) (HT6.out.next hF.bel)
        rw [EQ.out.1] at j8
        refine Jjm (Ψ := fun v w'' => LkA w6 #[.bool (decide (tp.num < 0)), .int .u64 (lo tp.num.natAbs : Int), .string (mo tp.num.natAbs), .int .u64 (lo ((qden tp)) : Int), .string (mo ((qden tp)))] _ (upI d 8) (Jf3 val 8 v) w'') _ rfl rfl (args := #[qV ((x : Int) : Rat), qV m.smooth]) (w2 := w') (f := 41) ?_ ?_
        ·clear hF hS hd hp
         go_simp
        refine (j8).mono ?_
        rintro e w3 ⟨rfl, j7⟩
        have hG := hF.next j7
        exact ⟨_, rfl, ⟨hG.bel, hG.fx.step (.inr rfl), hG.v9, hG.v10⟩⟩
       case refine_10 =>
        intro d val a' w' hS hF hd hp
        have hG := hF.next (Jb w' (.cells #[.bool false, .int .u64 0, .string ⟨#[]⟩, .int .u64 0, .string ⟨#[]⟩] 41))
        refine Xa (v := .pointer (some ⟨w'.heap.size, 0, none⟩)) (w2 := w'.alloc (.cells #[.bool false, .int .u64 0, .string ⟨#[]⟩, .int .u64 0, .string ⟨#[]⟩] 41)) _ rfl rfl ?_ (show LkA _ _ _ _ _ _ from ⟨hG.bel, hG.fx.step (.inl rfl), fun _ => ⟨_, _, rfl, hF.bel.size, Blk.new _ _ _, rfl, fun h => absurd (hF.v10 h) (by rw [hd]; decide)⟩, fun _ => rfl⟩)
        clear hG hF hS hd hp
        go_simp
       case refine_11 =>
        intro d val a' w' hS hF hd hp
        obtain ⟨g, old, e9, hg, hk, y8, -⟩ := hF.v9 (hp 9 (by kernel_rfl))
        have h9 := hp 9 (by kernel_rfl)
        refine Jde _ rfl rfl _ _ _ rfl rfl g #[.bool (decide (tp.num < 0)), .int .u64 (lo tp.num.natAbs : Int), .string (mo tp.num.natAbs), .int .u64 (lo ((qden tp)) : Int), .string (mo ((qden tp)))] _ ((hS.got 9 20 (hp 9 (by kernel_rfl)) rfl (Nat.le_of_ble_eq_true (by kernel_rfl))).trans e9) ((hS.got 8 89 (hp 8 (by kernel_rfl)) rfl (Nat.le_of_ble_eq_true (by kernel_rfl))).trans (hF.fx 8 _ rfl (hp 8 (by kernel_rfl)))) _ hk (by kernel_rfl) y8 (by simp [Value.oneCell']) fun w2 o9 dQ => ?_
        exact (show LkA _ _ _ _ _ _ from ⟨hF.bel.trans (dQ.below hF.bel.size hg), hF.fx.step (.inl rfl), fun _ => ⟨g, _, e9, hg, o9, rfl, fun _ => rfl⟩, fun _ => h9⟩)
      intro d val w' hF hd
      simp only [Exit.then, Jd7, Act.put, List.setIfInBounds_toArray, List.set_cons_succ, List.set_cons_zero]
      refine ‹∀ a' w', Met _ a' w' -> _› _ _ ?_
      go_meet
      obtain ⟨g, old, e9, hg, hk, -, q8⟩ := hF.v9 (hd 9 (by decide))
      rw [q8 (hd 10 (by decide))] at hk
      exact ⟨g, e9, hk, hF.bel⟩
     case rest =>
      obtain ⟨gT, rfl, bkT, aT⟩ := hcut
      rename World => w7
      have BKT := lh bkT
      have HBC := lh aT
      have jQ := bkT.lt
      have HT7 := lh (HT6.out.next aT)
      clear aT bkT z0 z1 z2 z3 z4 z5 z6 z7
      go_wp2_with fail
      go_cut [107] (fun v wc => v = .bool false /\ Below w7.heap.size w7 wc)
      case first =>
       refine Je0 (LkR w7 (fun j => ([some (.slice (some ⟨gN, 0, none⟩) n2 n2), some (.int .i64 (i : Int)), some (.pointer (some ⟨gN, i * 5, none⟩)), some (qV cq), some (.int .i64 sm), some (qV ((sm : Int) : Rat)), some (.pointer (some ⟨g12, 0, none⟩)), some (qV m.smooth), some (.pointer (some ⟨g12, 6, none⟩)), some (.slice (some ⟨gS, 0, none⟩) n2 c2), some (.int .i64 ((n2 : Nat) : Int)), some (qV (((n2 : Nat) : Int) : Rat)), some (qV mn), some (qV dn), some (qV tp), some (qV tp), some (.int .i64 0), some (.bool false)] : List (Option Value)).getD j none)) (by kernel_rfl) (by kernel_rfl) (by kernel_rfl) ?_ ?_ [some 90, some 91, some 92, some 93, some 94, some 95, some 96, some 97, some 98, some 99, some 100, some 101, some 102, some 103, some 104, some 105, some 106, some 107] rfl ?_
       ·constructor <;> first | exact Jt _ | exact Fixed.start _ _ | (intro h; cases h)
       ·refine ⟨⟨⟨⟨⟨⟨⟨⟨⟨⟨⟨⟨⟨⟨⟨⟨⟨⟨trivial, ?_⟩, ?_⟩, ?_⟩, ?_⟩, ?_⟩, ?_⟩, ?_⟩, ?_⟩, ?_⟩, ?_⟩, ?_⟩, ?_⟩, ?_⟩, ?_⟩, ?_⟩, ?_⟩, ?_⟩, ?_⟩
        case refine_1 =>
         intro d val a' w' hS hF hd hp
         have e8 : a'.tmps[15]?.getD undef = .slice (some ⟨gN, 0, none⟩) n2 n2 := hS.arg 15 (by kernel_rfl)
         refine Xa (v := .slice (some ⟨gN, 0, none⟩) n2 n2) _ rfl rfl ?_ (show LkR _ _ _ _ _ from ⟨hF.bel, hF.fx.step (.inr rfl)⟩)
         clear hF hS hd hp
         go_simp
        case refine_2 =>
         intro d val a' w' hS hF hd hp
         have e8 : a'.tmps[19]?.getD undef = .int .i64 (i : Int) := hS.arg 19 (by kernel_rfl)
         refine Xa (v := .int .i64 (i : Int)) _ rfl rfl ?_ (show LkR _ _ _ _ _ from ⟨hF.bel, hF.fx.step (.inr rfl)⟩)
         clear hF hS hd hp
         go_simp
        case refine_3 =>
         intro d val a' w' hS hF hd hp
         have e1 : a'.tmps[90]?.getD undef = .slice (some ⟨gN, 0, none⟩) n2 n2 := (hS.res 0 90 (hp 0 (by kernel_rfl)) rfl (by kernel_rfl)).trans (hF.fx 0 _ rfl (hp 0 (by kernel_rfl)))
         have e2 : a'.tmps[91]?.getD undef = .int .i64 (i : Int) := (hS.res 1 91 (hp 1 (by kernel_rfl)) rfl (by kernel_rfl)).trans (hF.fx 1 _ rfl (hp 1 (by kernel_rfl)))
         refine Xa (v := .pointer (some ⟨gN, i * 5, none⟩)) _ rfl rfl ?_ (show LkR _ _ _ _ _ from ⟨hF.bel, hF.fx.step (.inr rfl)⟩)
         clear hF hS hd hp
         go_simp
        case refine_4 =>
         intro d val a' w' hS hF hd hp
         have e1 : a'.tmps[92]?.getD undef = .pointer (some ⟨gN, i * 5, none⟩) := (hS.res 2 92 (hp 2 (by kernel_rfl)) rfl (by kernel_rfl)).trans (hF.fx 2 _ rfl (hp 2 (by kernel_rfl)))
         have hc := (OwnQ.at_ (OwnW.next HOQ.out.1 ((HBQ.out.trans (HBC.out.mono HBQ.out.size)).trans (hF.bel.mono (nt HBQ.out.size HBC.out.size)))) HX.out.2).c5
         obtain ⟨c0, c1, c2, c3, c4⟩ := hc
         refine Xa (v := qV cq) _ rfl rfl ?_ (show LkR _ _ _ _ _ from ⟨hF.bel, hF.fx.step (.inr rfl)⟩)
         clear hF hS hd hp
         unfold qV
         go_simp
        case refine_5 =>
         intro d val a' w' hS hF hd hp
         have e8 : a'.tmps[17]?.getD undef = .int .i64 sm := hS.arg 17 (by kernel_rfl)
         refine Xa (v := .int .i64 sm) _ rfl rfl ?_ (show LkR _ _ _ _ _ from ⟨hF.bel, hF.fx.step (.inr rfl)⟩)
         clear hF hS hd hp
         go_simp
        case refine_6 =>
         intro d val a' w' hS hF hd hp
         have e1 : a'.tmps[94]?.getD undef = .int .i64 sm := (hS.res 4 94 (hp 4 (by kernel_rfl)) rfl (by kernel_rfl)).trans (hF.fx 4 _ rfl (hp 4 (by kernel_rfl)))
         refine Jjm (Ψ := fun v w'' => LkR w7 _ (upI d 5) (Jf3 val 5 v) w'') _ rfl rfl (args := #[.int .i64 sm]) (w2 := w') (f := 40) ?_ ?_
         ·clear hF hS hd hp
          go_simp
         refine (Vo sm w' (by have := XB.out.2; omega) (by have := XB.out.2; omega)).mono ?_
         rintro e w3 ⟨rfl, j7⟩
         have hG := hF.next j7
         exact ⟨_, rfl, ⟨hG.bel, hG.fx.step (.inr rfl)⟩⟩
        case refine_7 =>
         intro d val a' w' hS hF hd hp
         have e8 : a'.tmps[12]?.getD undef = .pointer (some ⟨g12, 0, none⟩) := hS.arg 12 (by kernel_rfl)
         refine Xa (v := .pointer (some ⟨g12, 0, none⟩)) _ rfl rfl ?_ (show LkR _ _ _ _ _ from ⟨hF.bel, hF.fx.step (.inr rfl)⟩)
         clear hF hS hd hp
         go_simp
        case refine_8 =>
         intro d val a' w' hS hF hd hp
         have e1 : a'.tmps[96]?.getD undef = .pointer (some ⟨g12, 0, none⟩) := (hS.res 6 96 (hp 6 (by kernel_rfl)) rfl (by kernel_rfl)).trans (hF.fx 6 _ rfl (hp 6 (by kernel_rfl)))
         have b0' := BK4.out.below ((HBR.out.trans (HBC.out.mono HBR.out.size)).trans (hF.bel.mono (nt HBR.out.size HBC.out.size))) o0
         obtain ⟨y0, y1, y2, y3, y4, y5, y6, y7⟩ := b0'.c8
         refine Xa (v := qV m.smooth) _ rfl rfl ?_ (show LkR _ _ _ _ _ from ⟨hF.bel, hF.fx.step (.inr rfl)⟩)
         clear hF hS hd hp
         unfold qV
         go_simp
        case refine_9 =>
         intro d val a' w' hS hF hd hp
         have e8 : a'.tmps[12]?.getD undef = .pointer (some ⟨g12, 0, none⟩) := hS.arg 12 (by kernel_rfl)
         refine Xa (v := .pointer (some ⟨g12, 6, none⟩)) _ rfl rfl ?_ (show LkR _ _ _ _ _ from ⟨hF.bel, hF.fx.step (.inr rfl)⟩)
         clear hF hS hd hp
         go_simp
        case refine_10 =>
         intro d val a' w' hS hF hd hp
         have e1 : a'.tmps[98]?.getD undef = .pointer (some ⟨g12, 6, none⟩) := (hS.res 8 98 (hp 8 (by kernel_rfl)) rfl (by kernel_rfl)).trans (hF.fx 8 _ rfl (hp 8 (by kernel_rfl)))
         have b0' := BK4.out.below ((HBR.out.trans (HBC.out.mono HBR.out.size)).trans (hF.bel.mono (nt HBR.out.size HBC.out.size))) o0
         obtain ⟨y0, y1, y2, y3, y4, y5, y6, y7⟩ := b0'.c8
         refine Xa (v := .slice (some ⟨gS, 0, none⟩) n2 c2) _ rfl rfl ?_ (show LkR _ _ _ _ _ from ⟨hF.bel, hF.fx.step (.inr rfl)⟩)
         clear hF hS hd hp
         go_simp
        case refine_11 =>
         intro d val a' w' hS hF hd hp
         have e1 : a'.tmps[99]?.getD undef = .slice (some ⟨gS, 0, none⟩) n2 c2 := (hS.res 9 99 (hp 9 (by kernel_rfl)) rfl (by kernel_rfl)).trans (hF.fx 9 _ rfl (hp 9 (by kernel_rfl)))
         refine Xa (v := .int .i64 ((n2 : Nat) : Int)) _ rfl rfl ?_ (show LkR _ _ _ _ _ from ⟨hF.bel, hF.fx.step (.inr rfl)⟩)
         clear hF hS hd hp
         go_simp
        case refine_12 =>
         intro d val a' w' hS hF hd hp
         have e1 : a'.tmps[100]?.getD undef = .int .i64 ((n2 : Nat) : Int) := (hS.res 10 100 (hp 10 (by kernel_rfl)) rfl (by kernel_rfl)).trans (hF.fx 10 _ rfl (hp 10 (by kernel_rfl)))
         refine Jjm (Ψ := fun v w'' => LkR w7 _ (upI d 11) (Jf3 val 11 v) w'') _ rfl rfl (args := #[.int .i64 ((n2 : Nat) : Int)]) (w2 := w') (f := 40) ?_ ?_
         ·clear hF hS hd hp
          go_simp
         refine (Vo ((n2 : Nat) : Int) w' (by omega) (by omega)).mono ?_
         rintro e w3 ⟨rfl, j7⟩
         have hG := hF.next j7
         exact ⟨_, rfl, ⟨hG.bel, hG.fx.step (.inr rfl)⟩⟩
        case refine_13 =>
         intro d val a' w' hS hF hd hp
         have e1 : a'.tmps[97]?.getD undef = qV m.smooth := (hS.res 7 97 (hp 7 (by kernel_rfl)) rfl (by kernel_rfl)).trans (hF.fx 7 _ rfl (hp 7 (by kernel_rfl)))
         have e2 : a'.tmps[101]?.getD undef = qV (((n2 : Nat) : Int) : Rat) := (hS.res 11 101 (hp 11 (by kernel_rfl)) rfl (by kernel_rfl)).trans (hF.fx 11 _ rfl (hp 11 (by kernel_rfl)))
         have j8 := Jcw m.smooth (((n2 : Nat) : Int) : Rat) w' (HQ.out.1.mono (by omega)) (QB.out.2.2.1.mono (by omega)) (HT7.out.next hF.bel)
         rw [EQ.out.2.1] at j8
         refine Jjm (Ψ := fun v w'' => LkR w7 _ (upI d 12) (Jf3 val 12 v) w'') _ rfl rfl (args := #[qV m.smooth, qV (((n2 : Nat) : Int) : Rat)]) (w2 := w') (f := 42) ?_ ?_
         ·clear hF hS hd hp
          go_simp
         refine (j8).mono ?_
         rintro e w3 ⟨rfl, j7⟩
         have hG := hF.next j7
         exact ⟨_, rfl, ⟨hG.bel, hG.fx.step (.inr rfl)⟩⟩
        case refine_14 =>
         intro d val a' w' hS hF hd hp
         have e1 : a'.tmps[95]?.getD undef = qV ((sm : Int) : Rat) := (hS.res 5 95 (hp 5 (by kernel_rfl)) rfl (by kernel_rfl)).trans (hF.fx 5 _ rfl (hp 5 (by kernel_rfl)))
         have e2 : a'.tmps[102]?.getD undef = qV mn := (hS.res 12 102 (hp 12 (by kernel_rfl)) rfl (by kernel_rfl)).trans (hF.fx 12 _ rfl (hp 12 (by kernel_rfl)))
         have j8 := Jcx ((sm : Int) : Rat) mn w' (QB.out.2.1.mono (by omega)) (QB.out.2.2.2.1.mono (by omega)) (HT7.out.next hF.bel)
         rw [EQ.out.2.2.1] at j8
         refine Jjm (Ψ := fun v w'' => LkR w7 _ (upI d 13) (Jf3 val 13 v) w'') _ rfl rfl (args := #[qV ((sm : Int) : Rat), qV mn]) (w2 := w') (f := 41) ?_ ?_
         ·clear hF hS hd hp
          go_simp
         refine (j8).mono ?_
         rintro e w3 ⟨rfl, j7⟩
         have hG := hF.next j7
         exact ⟨_, rfl, ⟨hG.bel, hG.fx.step (.inr rfl)⟩⟩
        case refine_15 =>
         intro d val a' w' hS hF hd hp
         have e1 : a'.tmps[93]?.getD undef = qV cq := (hS.res 3 93 (hp 3 (by kernel_rfl)) rfl (by kernel_rfl)).trans (hF.fx 3 _ rfl (hp 3 (by kernel_rfl)))
         have e2 : a'.tmps[103]?.getD undef = qV dn := (hS.res 13 103 (hp 13 (by kernel_rfl)) rfl (by kernel_rfl)).trans (hF.fx 13 _ rfl (hp 13 (by kernel_rfl)))
         have j8 := Jcw cq dn w' (QB.out.2.2.2.2.2.1.mono (by omega)) (QB.out.2.2.2.2.1.mono (by omega)) (HT7.out.next hF.bel)
         rw [EQ.out.2.2.2] at j8
         refine Jjm (Ψ := fun v w'' => LkR w7 _ (upI d 14) (Jf3 val 14 v) w'') _ rfl rfl (args := #[qV cq, qV dn]) (w2 := w') (f := 42) ?_ ?_
         ·clear hF hS hd hp
          go_simp
         refine (j8).mono ?_
         rintro e w3 ⟨rfl, j7⟩
         have hG := hF.next j7
         exact ⟨_, rfl, ⟨hG.bel, hG.fx.step (.inr rfl)⟩⟩
        case refine_16 =>
         intro d val a' w' hS hF hd hp
         have e8 : a'.tmps[20]?.getD undef = .pointer (some ⟨gT, 0, none⟩) := hS.arg 20 (by kernel_rfl)
         have hc := (BKT.out.below hF.bel jQ).c5
         obtain ⟨c0, c1, c2, c3, c4⟩ := hc
         refine Xa (v := qV tp) _ rfl rfl ?_ (show LkR _ _ _ _ _ from ⟨hF.bel, hF.fx.step (.inr rfl)⟩)
         clear hF hS hd hp
         unfold qV
         go_simp
        case refine_17 =>
         intro d val a' w' hS hF hd hp
         have e1 : a'.tmps[104]?.getD undef = qV tp := (hS.res 14 104 (hp 14 (by kernel_rfl)) rfl (by kernel_rfl)).trans (hF.fx 14 _ rfl (hp 14 (by kernel_rfl)))
         have e2 : a'.tmps[105]?.getD undef = qV tp := (hS.res 15 105 (hp 15 (by kernel_rfl)) rfl (by kernel_rfl)).trans (hF.fx 15 _ rfl (hp 15 (by kernel_rfl)))
         have j8 := Jg3 tp tp w' (QB.out.2.2.2.2.2.2.mono (by omega)) (QB.out.2.2.2.2.2.2.mono (by omega))
         rw [(Jsg tp tp).2 rfl] at j8
         refine Jjm (Ψ := fun v w'' => LkR w7 _ (upI d 16) (Jf3 val 16 v) w'') _ rfl rfl (args := #[qV tp, qV tp]) (w2 := w') (f := 43) ?_ ?_
         ·clear hF hS hd hp
          go_simp
         refine (j8).mono ?_
         rintro e w3 ⟨rfl, j7⟩
         have hG := hF.next j7
         exact ⟨_, rfl, ⟨hG.bel, hG.fx.step (.inr rfl)⟩⟩
        case refine_18 =>
         intro d val a' w' hS hF hd hp
         have e1 : a'.tmps[106]?.getD undef = .int .i64 0 := (hS.res 16 106 (hp 16 (by kernel_rfl)) rfl (by kernel_rfl)).trans (hF.fx 16 _ rfl (hp 16 (by kernel_rfl)))
         refine Xa (v := .bool false) _ rfl rfl ?_ (show LkR _ _ _ _ _ from ⟨hF.bel, hF.fx.step (.inr rfl)⟩)
         clear hF hS hd hp
         go_simp
       intro d val w' hF hd
       simp only [Exit.then, Jd7, Act.put, List.setIfInBounds_toArray, List.set_cons_succ, List.set_cons_zero]
       refine ‹∀ a' w', Met _ a' w' -> _› _ _ ?_
       go_meet
       exact ⟨hF.fx 17 _ rfl (hd 17 (by decide)), hF.bel⟩
      case rest =>
       obtain ⟨rfl, aT⟩ := hcut
       rename World => w8
       have HB8 := lh (HBQ.out.trans ((HBC.out.trans (aT.mono HBC.out.size)).mono HBQ.out.size))
       clear aT
       go_wp2_with fail
       exact ⟨⟨i + 1, by omega, by go_num, HB8.out⟩, by simp [intOf]; omega⟩
    as_aux_lemma =>
    obtain rfl : n2 = i := by omega
    have k2 : ¬ (n2 : Int) < (n2 : Int) := by omega
    clear z0 z1 z2 z3 z4 z5 z6 z7 HN HOQ HSB
    have eC := H14.out.trans (HBR.out.mono H14.out.size)
    have fJ := HB4.out.trans (HBR.out.mono HB4.out.size)
    have cD := Jqw ng A7 A8 l7 d7 l8 d8 X1 X2 X3 n1 c1' n2 c2' n2 c3' w1.heap.size m w6 (HR.out.2.below eC) (HR.out.1.below eC) eC.size HQ.out.2.2.1 (HQ.out.1.mono (by omega)) (HT.out.next fJ)
    have HIN := lh cD
    have HW6 := lh fJ
    obtain ⟨x0, x1, x2, x3, x4, x5⟩ := (BK34.out.below HBR.out fD).c6
    clear cD eC fJ
    go_wp2_with fail
    refine HIN.out.mono ?_
    rintro e w7 ⟨v, rfl, ⟨⟨B1, q1, s1⟩, ⟨B2, q2, s2⟩, ⟨B3, q3, s3⟩, F2, G2, H2, rfl, ho⟩, aD⟩
    obtain rfl : n1 = q1 := by rw [<- HW.out.1]; exact ho.read.words.len
    obtain rfl : n2 = q2 := by rw [<- HW.out.2.1]; exact ho.read.seen.len
    obtain rfl : n2 = q3 := by rw [<- HW.out.2.2]; exact ReadsS.len ho.read.counts
    simp only [SW.v]
    have HB7 := lh aD
    have HO := lh ho
    clear aD ho x0 x1 x2 x3 x4 x5 HIN
    go_upto_region 23 with fail
    have b21 := Blk.new w7 43 #[.bool (decide (m.smooth.num < 0)), .int .u64 (lo m.smooth.num.natAbs : Int), .string (mo m.smooth.num.natAbs), .int .u64 (lo ((qden m.smooth)) : Int), .string (mo ((qden m.smooth))), .slice B1 n1 s1, .slice B2 n2 s2, .slice B3 n2 s3]
    have aQ := Jb w7 (.cells #[.bool (decide (m.smooth.num < 0)), .int .u64 (lo m.smooth.num.natAbs : Int), .string (mo m.smooth.num.natAbs), .int .u64 (lo ((qden m.smooth)) : Int), .string (mo ((qden m.smooth))), .slice B1 n1 s1, .slice B2 n2 s2, .slice B3 n2 s3] 43)
    generalize w7.alloc (.cells #[.bool (decide (m.smooth.num < 0)), .int .u64 (lo m.smooth.num.natAbs : Int), .string (mo m.smooth.num.natAbs), .int .u64 (lo ((qden m.smooth)) : Int), .string (mo ((qden m.smooth))), .slice B1 n1 s1, .slice B2 n2 s2, .slice B3 n2 s3] 43) = w8 at *
    have HO8 := lh (HO.out.next aQ)
    have HB8 := lh (HB7.out.trans (aQ.mono HB7.out.size))
    have HX := lh (show (¬ F2 w7.heap.size /\ ¬ G2 w7.heap.size /\ ¬ H2 w7.heap.size) /\ w6.heap.size <= w7.heap.size from ⟨⟨fun e => by have := HO.out.old.1 _ e; omega, fun e => by have := HO.out.old.2.1 _ e; omega, fun e => by have := HO.out.old.2.2 _ e; omega⟩, HB7.out.size⟩)
    have BK8 := lh b21
    obtain ⟨y0, y1, y2, y3, y4, y5, y6, y7⟩ := b21.c8
    clear HO HB7 b21 aQ
    generalize w7.heap.size = g21 at *
    have HL9 := lh (show (m.words ++ [(2 : Int)]).length = n1 + 1 from by rw [List.length_append, HW.out.1]; rfl)
    go_wp2_with (at_builtin; refine Joi (f := zv) Tryz.eltZ1 rfl (.tmp 111) (.tmp 112) rfl w8 _ m.words 2 (.int .i64 2) rfl rfl HO8.out.words.own (by simp [Act.eval]) rfl (by have := HW.out.1; unfold maxLen; omega) (by have := HW.out.1; omega) ?_; intro v' w9 fK j6; obtain ⟨A9, c9, iC, -⟩ := fK.form; rw [HL9.out] at iC; subst iC; have aH := InP.words (W' := ⟨A9, n1 + 1, c9⟩) BK8.out HO8.out HX.out.1 HB8.out.size HX.out.2 fK j6; have eD := HB8.out.trans (aH.2.2.1.mono zd); have iD := aH.2.1 5; have iE := aH.2.2.2; simp only [SW.v] at iE; have HST := lh (And.intro aH.1 (And.intro eD HX.out.2)); clear aH eD fK j6 y0 y1 y2 y3 y4 y5 y6 y7)
    clear iD iE
    have HST2 := lh (And.intro HST.out.1 (HST.out.2.1.setCell (p := ⟨g21, 5, none⟩) HST.out.2.2 (.slice A9 (n1 + 1) c9)))
    simp only [SW.v] at HST2
    rw [Jsj] at HST2
    generalize w9.setCell ⟨g21, 5, none⟩ (.slice A9 (n1 + 1) c9) = w10 at *
    clear BK8 HO8 HB8
    go_loopw [22] (fun p wr => ∃ k : Nat, k <= n2 /\ p = .int .i64 (k : Int) /\ InP w6.heap.size wr g21 (Jr6 m k) /\ Below w6.heap.size w6 wr) (fun p _ => n2 - (intOf p).toNat)
    case atStart => exact ⟨0, by omega, rfl, HST2.out.1, HST2.out.2⟩
    case round =>
     clear HST2 HST
     obtain ⟨k, hk, rfl, ⟨⟨AW, nW, cW⟩, ⟨AS, nS, cS⟩, ⟨AC, nC, cC⟩, F3, G3, H3, bk, ho, iF, iG⟩, cE⟩ := hrel
     rename World => w11
     obtain rfl : n2 = nC := by rw [<- HW.out.2.2, <- Jsb m k]; exact ReadsS.len ho.read.counts
     obtain rfl : n2 = nS := by rw [<- HW.out.2.1]; exact ho.read.seen.len
     obtain rfl : n1 + 1 = nW := by rw [<- HL9.out]; exact ho.read.words.len
     simp only [SW.v] at bk
     have fL : Blk w11 g21 43 #[.bool (decide (m.smooth.num < 0)), .int .u64 (lo m.smooth.num.natAbs : Int), .string (mo m.smooth.num.natAbs), .int .u64 (lo ((qden m.smooth)) : Int), .string (mo ((qden m.smooth))), .slice AW (n1 + 1) cW, .slice AS n2 cS, .slice AC n2 cC] := bk
     obtain ⟨y0, y1, y2, y3, y4, y5, y6, y7⟩ := fL.c8
     have BK := lh fL
     have HO := lh ho
     have HB := lh cE
     have HX3 := lh (And.intro iF iG)
     clear bk fL ho cE iF iG
     by_cases eL : k < n2
     ·as_aux_lemma =>
      have k1 : (k : Int) < (n2 : Int) := by omega
      obtain ⟨t, ht⟩ : ∃ t, m.counts[k]? = some t := ⟨_, List.getElem?_eq_getElem (by have := HW.out.2.2; omega)⟩
      have aS : t.length = n1 := by rw [((Qy HQ.out.2.1.ok).fits t (List.mem_of_getElem? ht)).1]; exact HW.out.1
      obtain ⟨iH, dV⟩ := Jsm ht
      obtain ⟨gC, rfl⟩ := HO.out.counts.addr (by rw [Jsb]; have := HW.out.2.2; omega)
      obtain ⟨At, kt, F', aI, bO, cG, aZ, iI⟩ := HO.out.swell iH HB.out.size
      rw [aS] at aI bO
      have p9 : ¬ g21 = gC := fun e => HX3.out.1.2.2 (by rw [e]; exact aZ)
      have iJ : ¬ F' g21 := fun e => HX3.out.1.2.2 (cG _ e).1
      have iK : ¬ F' gC := fun e => (cG _ e).2 rfl
      have iL : ∀ x, (Value.slice At n1 kt).ownBlock = some x -> F' x := by obtain ⟨rl, F1, q1, q2, q3, q4, q5, q6, q7⟩ := bO; exact q6
      have HC2 := lh bO
      have HNE := lh (And.intro p9 (And.intro iJ (And.intro iK iL)))
      have HC := lh (And.intro aI (And.intro cG (And.intro (HO.out.old.2.2 gC aZ) (And.intro (HO.out.counts.frozen k) (HO.out.from3 gC aZ)))))
      have HF := lh (And.intro (fun x (hx : F' x) => HO.out.from3 x (cG x hx).1) fun x (hx : F' x) => HO.out.old.2.2 x (cG x hx).1)
      have HT2 := lh (And.intro aS dV)
      have HC5 := lh iI
      have HLT := lh (show (t ++ [[(0 : Int), 0]]).length = n1 + 1 from by rw [List.length_append, aS]; rfl)
      clear aI bO cG aZ iI aS iH dV ht p9 iJ iK iL
      go_wp2_with fail
      refine Je0 (LkG w6.heap.size w6 w11 F' n1 t (fun w => InP w6.heap.size w g21 (Jr6 m (k + 1))) (fun j => ([some (.pointer (some ⟨g21, 7, none⟩)), some (.slice (some ⟨gC, 0, none⟩) n2 cC), some (.int .i64 (k : Int)), some (.pointer (some ⟨g21, 7, none⟩)), some (.slice (some ⟨gC, 0, none⟩) n2 cC), some (.int .i64 (k : Int)), some (.pointer (some ⟨gC, k, none⟩)), some (.slice At n1 kt), none, none, none, some (.pointer (some ⟨gC, k, none⟩)), none] : List (Option Value)).getD j none)) (by kernel_rfl) (by kernel_rfl) (by kernel_rfl) ?_ ?_ [some 122, some 123, some 124, some 125, some 126, some 127, some 128, some 129, some 130, some 131, some 132, some 133, none] rfl ?_
      ·exact ⟨Fixed.start _ _, Nat.le_refl _, HB.out.trans ((Jt _).mono HB.out.size), fun _ => Jt _, fun _ _ _ _ => rfl, (fun h => by cases h), (fun h => by cases h), (fun h => by cases h), (fun h => by cases h)⟩
      ·refine ⟨⟨⟨⟨⟨⟨⟨⟨⟨⟨⟨⟨⟨trivial, ?_⟩, ?_⟩, ?_⟩, ?_⟩, ?_⟩, ?_⟩, ?_⟩, ?_⟩, ?_⟩, ?_⟩, ?_⟩, ?_⟩, ?_⟩
       case refine_1 =>
        intro d val a' w' hS hF hd hp
        have hn := hF.no12 (i := 0) (by decide) hd
        have e8 : a'.tmps[21]?.getD undef = .pointer (some ⟨g21, 0, none⟩) := hS.arg 21 (by kernel_rfl)
        refine Xa (v := .pointer (some ⟨g21, 7, none⟩)) _ rfl rfl ?_ (show LkG _ _ _ _ _ _ _ _ _ _ _ from ⟨hF.fx.step (.inr rfl), hF.size, hF.bel, hF.bl, hF.hold, hF.v8, hF.v9, hF.v10, fun h => absurd (show d 12 = true from h) (by rw [hn]; decide)⟩)
        clear hF hS hd hp
        go_simp
       case refine_2 =>
        intro d val a' w' hS hF hd hp
        have hn := hF.no12 (i := 1) (by decide) hd
        have e1 : a'.tmps[122]?.getD undef = .pointer (some ⟨g21, 7, none⟩) := (hS.res 0 122 (hp 0 (by kernel_rfl)) rfl (by kernel_rfl)).trans (hF.fx 0 _ rfl (hp 0 (by kernel_rfl)))
        have b0' := (hF.hold hn g21 BK.out.lt HNE.out.2.1).trans BK.out
        obtain ⟨z0, z1, z2, z3, z4, z5, z6, z7⟩ := Blk.c8 b0'
        refine Xa (v := .slice (some ⟨gC, 0, none⟩) n2 cC) _ rfl rfl ?_ (show LkG _ _ _ _ _ _ _ _ _ _ _ from ⟨hF.fx.step (.inr rfl), hF.size, hF.bel, hF.bl, hF.hold, hF.v8, hF.v9, hF.v10, fun h => absurd (show d 12 = true from h) (by rw [hn]; decide)⟩)
        clear hF hS hd hp
        go_simp
       case refine_3 =>
        intro d val a' w' hS hF hd hp
        have hn := hF.no12 (i := 2) (by decide) hd
        have e8 : a'.tmps[22]?.getD undef = .int .i64 (k : Int) := hS.arg 22 (by kernel_rfl)
        refine Xa (v := .int .i64 (k : Int)) _ rfl rfl ?_ (show LkG _ _ _ _ _ _ _ _ _ _ _ from ⟨hF.fx.step (.inr rfl), hF.size, hF.bel, hF.bl, hF.hold, hF.v8, hF.v9, hF.v10, fun h => absurd (show d 12 = true from h) (by rw [hn]; decide)⟩)
        clear hF hS hd hp
        go_simp
       case refine_4 =>
        intro d val a' w' hS hF hd hp
        have hn := hF.no12 (i := 3) (by decide) hd
        have e8 : a'.tmps[21]?.getD undef = .pointer (some ⟨g21, 0, none⟩) := hS.arg 21 (by kernel_rfl)
        refine Xa (v := .pointer (some ⟨g21, 7, none⟩)) _ rfl rfl ?_ (show LkG _ _ _ _ _ _ _ _ _ _ _ from ⟨hF.fx.step (.inr rfl), hF.size, hF.bel, hF.bl, hF.hold, hF.v8, hF.v9, hF.v10, fun h => absurd (show d 12 = true from h) (by rw [hn]; decide)⟩)
        clear hF hS hd hp
        go_simp
       case refine_5 =>
        intro d val a' w' hS hF hd hp
        have hn := hF.no12 (i := 4) (by decide) hd
        have e1 : a'.tmps[125]?.getD undef = .pointer (some ⟨g21, 7, none⟩) := (hS.res 3 125 (hp 3 (by kernel_rfl)) rfl (by kernel_rfl)).trans (hF.fx 3 _ rfl (hp 3 (by kernel_rfl)))
        have b0' := (hF.hold hn g21 BK.out.lt HNE.out.2.1).trans BK.out
        obtain ⟨z0, z1, z2, z3, z4, z5, z6, z7⟩ := Blk.c8 b0'
        refine Xa (v := .slice (some ⟨gC, 0, none⟩) n2 cC) _ rfl rfl ?_ (show LkG _ _ _ _ _ _ _ _ _ _ _ from ⟨hF.fx.step (.inr rfl), hF.size, hF.bel, hF.bl, hF.hold, hF.v8, hF.v9, hF.v10, fun h => absurd (show d 12 = true from h) (by rw [hn]; decide)⟩)
        clear hF hS hd hp
        go_simp
       case refine_6 =>
        intro d val a' w' hS hF hd hp
        have hn := hF.no12 (i := 5) (by decide) hd
        have e8 : a'.tmps[22]?.getD undef = .int .i64 (k : Int) := hS.arg 22 (by kernel_rfl)
        refine Xa (v := .int .i64 (k : Int)) _ rfl rfl ?_ (show LkG _ _ _ _ _ _ _ _ _ _ _ from ⟨hF.fx.step (.inr rfl), hF.size, hF.bel, hF.bl, hF.hold, hF.v8, hF.v9, hF.v10, fun h => absurd (show d 12 = true from h) (by rw [hn]; decide)⟩)
        clear hF hS hd hp
        go_simp
       case refine_7 =>
        intro d val a' w' hS hF hd hp
        have hn := hF.no12 (i := 6) (by decide) hd
        have e1 : a'.tmps[126]?.getD undef = .slice (some ⟨gC, 0, none⟩) n2 cC := (hS.res 4 126 (hp 4 (by kernel_rfl)) rfl (by kernel_rfl)).trans (hF.fx 4 _ rfl (hp 4 (by kernel_rfl)))
        have e2 : a'.tmps[127]?.getD undef = .int .i64 (k : Int) := (hS.res 5 127 (hp 5 (by kernel_rfl)) rfl (by kernel_rfl)).trans (hF.fx 5 _ rfl (hp 5 (by kernel_rfl)))
        refine Xa (v := .pointer (some ⟨gC, k, none⟩)) _ rfl rfl ?_ (show LkG _ _ _ _ _ _ _ _ _ _ _ from ⟨hF.fx.step (.inr rfl), hF.size, hF.bel, hF.bl, hF.hold, hF.v8, hF.v9, hF.v10, fun h => absurd (show d 12 = true from h) (by rw [hn]; decide)⟩)
        clear hF hS hd hp
        go_simp
       case refine_8 =>
        intro d val a' w' hS hF hd hp
        have hn := hF.no12 (i := 7) (by decide) hd
        have e1 : a'.tmps[128]?.getD undef = .pointer (some ⟨gC, k, none⟩) := (hS.res 6 128 (hp 6 (by kernel_rfl)) rfl (by kernel_rfl)).trans (hF.fx 6 _ rfl (hp 6 (by kernel_rfl)))
        have hc := (World.cell?_of_block (a := ⟨gC, k, none⟩) (w := w11) (hF.hold hn gC HC.out.2.2.1 HNE.out.2.2.1)).trans HC.out.1
        refine Xa (v := .slice At n1 kt) _ rfl rfl ?_ (show LkG _ _ _ _ _ _ _ _ _ _ _ from ⟨hF.fx.step (.inr rfl), hF.size, hF.bel, hF.bl, hF.hold, hF.v8, hF.v9, hF.v10, fun h => absurd (show d 12 = true from h) (by rw [hn]; decide)⟩)
        clear hF hS hd hp
        go_simp
       case refine_9 =>
        intro d val a' w' hS hF hd hp
        have hn := hF.no12 (i := 8) (by decide) hd
        have iM := Own.lit w' 3 zv [0, 0] (by unfold maxLen; decide)
        have s9 := Jb w' (.cells #[.int .i64 0, .int .i64 0] 3)
        refine Xa (v := .slice (some ⟨w'.heap.size, 0, none⟩) 2 2) (w2 := w'.alloc (.cells #[.int .i64 0, .int .i64 0] 3)) _ rfl rfl ?_ (show LkG _ _ _ _ _ _ _ _ _ _ _ from ⟨hF.fx.step (.inl rfl), nt hF.size s9.size, hF.bel.trans (s9.mono hF.bel.size), fun h => (hF.bl h).trans (s9.mono (hF.bl h).size), fun h x hx cH => (s9.block x (Nat.lt_of_lt_of_le hx hF.size)).trans (hF.hold h x hx cH), fun _ => ⟨_, rfl, hF.size, fun _ => iM⟩, fun h => absurd (hF.v9 h).1 (by rw [hd]; decide), fun h => absurd (hF.v9 (hF.v10 h).1).1 (by rw [hd]; decide), fun h => absurd (show d 12 = true from h) (by rw [hn]; decide)⟩)
        clear s9 iM hF hS hd hp
        go_simp
       case refine_10 =>
        intro d val a' w' hS hF hd hp
        have hn := hF.no12 (i := 9) (by decide) hd
        obtain ⟨g8, e8, jR, iN⟩ := hF.v8 (hp 8 (by kernel_rfl))
        have e1 := hS.res 8 130 (hp 8 (by kernel_rfl)) rfl (by kernel_rfl)
        rw [e8] at e1
        have h8 := hp 8 (by kernel_rfl)
        have s9 := Jb w' (.cells #[.slice (some ⟨g8, 0, none⟩) 2 2] 22)
        refine Xa (v := .slice (some ⟨w'.heap.size, 0, none⟩) 1 1) (w2 := w'.alloc (.cells #[.slice (some ⟨g8, 0, none⟩) 2 2] 22)) _ rfl rfl ?_ (show LkG _ _ _ _ _ _ _ _ _ _ _ from ⟨hF.fx.step (.inl rfl), nt hF.size s9.size, hF.bel.trans (s9.mono hF.bel.size), fun h => (hF.bl h).trans (s9.mono (hF.bl h).size), fun h x hx cH => (s9.block x (Nat.lt_of_lt_of_le hx hF.size)).trans (hF.hold h x hx cH), fun h => (hF.v8 h).imp fun g h2 => ⟨h2.1, h2.2.1, fun h3 => Own.below (h2.2.2 h3) s9 (h2.2.2 h3).lt⟩, fun _ => ⟨h8, _, rfl, fun _ => by show Reads _ _ _ _ _ [val 8]; rw [e8, World.size_alloc]; exact Reads.one w' _ _⟩, fun h => absurd (hF.v10 h).1 (by rw [hd]; decide), fun h => absurd (show d 12 = true from h) (by rw [hn]; decide)⟩)
        clear s9 hF hS hd hp h8
        go_simp
       case refine_11 =>
        intro d val a' w' hS hF hd hp
        have hn := hF.no12 (i := 10) (by decide) hd
        obtain ⟨h8, X, e9, eE⟩ := hF.v9 (hp 9 (by kernel_rfl))
        obtain ⟨g8, e8, jR, iN⟩ := hF.v8 h8
        have h9 := hp 9 (by kernel_rfl)
        have eE := eE hd
        rw [e8] at eE
        refine Jsh (Js 3 zv) Tryz.eltZ2 _ rfl rfl (.tmp 129) (.tmp 131) rfl F' (fun k => (Value.slice (some ⟨g8, 0, none⟩) 2 2).ownBlock = some k) w' (.slice At n1 kt) t (some ⟨g8, 0, none⟩) 2 2 [0, 0] w'.heap.size X 1 ((hS.got 7 129 (hp 7 (by kernel_rfl)) rfl (Nat.le_of_ble_eq_true (by kernel_rfl))).trans (hF.fx 7 _ rfl (hp 7 (by kernel_rfl)))) (HC2.out.next (Js 3 zv) (hF.bl hd)) (NRow.of (iN hd)) (fun x hx l6 => ?_) ((hS.got 9 131 (hp 9 (by kernel_rfl)) rfl (Nat.le_of_ble_eq_true (by kernel_rfl))).trans e9) eE (by rw [HT2.out.1]; omega) ?_
        ·have e : g8 = x := Option.some.inj hx
         have := HF.out.2 x l6
         omega
        intro v' w1 S'' p9 jS j6
        obtain ⟨A', c', hv⟩ := p9.form
        rw [HLT.out] at hv
        subst hv
        have eD := j6.below (B := w6.heap.size) (nt HB.out.size hF.size) fun x hx => HF.out.1 x (HNE.out.2.2.2 x hx)
        exact (show LkG _ _ _ _ _ _ _ _ _ _ _ from ⟨hF.fx.step (.inl rfl), nt hF.size j6.size, hF.bel.trans eD, fun h => Bool.noConfusion (show true = false from h), fun h x hx cH => (j6.block x (Nat.lt_of_lt_of_le hx hF.size) fun e => cH (HNE.out.2.2.2 x e.symm)).trans (hF.hold hn x hx cH), fun h => (hF.v8 h).imp fun g h2 => ⟨h2.1, h2.2.1, fun h3 => Bool.noConfusion (show true = false from h3)⟩, fun h => ⟨(hF.v9 h).1, (hF.v9 h).2.imp fun X h2 => ⟨h2.1, fun h3 => Bool.noConfusion (show true = false from h3)⟩⟩, fun _ => ⟨h9, A', c', S'', rfl, fun _ => p9, fun x hx => (jS x hx).elim .inl fun h => .inr (h.elim (fun h => by have e : g8 = x := Option.some.inj h; omega) fun h => nt hF.size h)⟩, fun h => absurd (show d 12 = true from h) (by rw [hn]; decide)⟩)
       case refine_12 =>
        intro d val a' w' hS hF hd hp
        have hn := hF.no12 (i := 11) (by decide) hd
        have e1 : a'.tmps[123]?.getD undef = .slice (some ⟨gC, 0, none⟩) n2 cC := (hS.res 1 123 (hp 1 (by kernel_rfl)) rfl (by kernel_rfl)).trans (hF.fx 1 _ rfl (hp 1 (by kernel_rfl)))
        have e2 : a'.tmps[124]?.getD undef = .int .i64 (k : Int) := (hS.res 2 124 (hp 2 (by kernel_rfl)) rfl (by kernel_rfl)).trans (hF.fx 2 _ rfl (hp 2 (by kernel_rfl)))
        refine Xa (v := .pointer (some ⟨gC, k, none⟩)) _ rfl rfl ?_ (show LkG _ _ _ _ _ _ _ _ _ _ _ from ⟨hF.fx.step (.inr rfl), hF.size, hF.bel, hF.bl, hF.hold, hF.v8, hF.v9, hF.v10, fun h => absurd (show d 12 = true from h) (by rw [hn]; decide)⟩)
        clear hF hS hd hp
        go_simp
       case refine_13 =>
        intro d val a' w' hS hF hd hp
        obtain ⟨h9, A', c', F'', e10, p9, aW⟩ := hF.v10 (hp 10 (by kernel_rfl))
        have p9 := p9 hd
        have e1 := hS.res 10 132 (hp 10 (by kernel_rfl)) rfl (by kernel_rfl)
        rw [e10] at e1
        have e2 : a'.tmps[133]?.getD undef = .pointer (some ⟨gC, k, none⟩) := (hS.res 11 133 (hp 11 (by kernel_rfl)) rfl (by kernel_rfl)).trans (hF.fx 11 _ rfl (hp 11 (by kernel_rfl)))
        have q8 := hp 10 (by kernel_rfl)
        have fM := hF.hold hd gC HC.out.2.2.1 HNE.out.2.2.1
        have hc := (World.cell?_of_block (a := ⟨gC, k, none⟩) (w := w11) fM).trans HC.out.1
        have iD := (World.frozen?_of_block (a := ⟨gC, k, none⟩) (w := w11) fM).trans HC.out.2.2.2.1
        obtain ⟨H', q1, q2⟩ := HC5.out w' (t ++ [[0, 0]]) F'' A' (n1 + 1) c' hF.size (fun x hx jT => hF.hold hd x hx jT) p9 aW
        rw [HT2.out.2] at q1
        have bk := Blk.far ((hF.hold hd g21 BK.out.lt HNE.out.2.1).trans BK.out) (p := ⟨gC, k, none⟩) HNE.out.1 (.slice A' (n1 + 1) c')
        have dI : ∀ j, j < 12 -> d j = true := fun j hj => by
         match j, hj with
         | 0, _ => exact hp 0 (by kernel_rfl)
         | 1, _ => exact hp 1 (by kernel_rfl)
         | 2, _ => exact hp 2 (by kernel_rfl)
         | 3, _ => exact hp 3 (by kernel_rfl)
         | 4, _ => exact hp 4 (by kernel_rfl)
         | 5, _ => exact hp 5 (by kernel_rfl)
         | 6, _ => exact hp 6 (by kernel_rfl)
         | 7, _ => exact hp 7 (by kernel_rfl)
         | 8, _ => exact hp 8 (by kernel_rfl)
         | 9, _ => exact hp 9 (by kernel_rfl)
         | 10, _ => exact hp 10 (by kernel_rfl)
         | 11, _ => exact hp 11 (by kernel_rfl)
        have aJ : InP w6.heap.size (w'.setCell ⟨gC, k, none⟩ (.slice A' (n1 + 1) c')) g21 (Jr6 m (k + 1)) := ⟨⟨AW, n1 + 1, cW⟩, ⟨AS, n2, cS⟩, ⟨some ⟨gC, 0, none⟩, n2, cC⟩, F3, G3, H', bk, q1, ⟨HX3.out.1.1, HX3.out.1.2.1, fun e => (q2 _ e).elim HX3.out.1.2.2 fun h => by have := BK.out.lt; omega⟩, HX3.out.2⟩
        have iO := hF.bel.setCell (p := ⟨gC, k, none⟩) HC.out.2.2.2.2 (.slice A' (n1 + 1) c')
        refine Jpy (w2 := w'.setCell ⟨gC, k, none⟩ (.slice A' (n1 + 1) c')) _ rfl rfl ?_ (show LkG _ _ _ _ _ _ _ _ _ _ _ from ⟨hF.fx.step (.inl rfl), (by simpa [World.setCell] using hF.size), iO, fun h => absurd q8 (by rw [show d 10 = false from h]; decide), fun h => Bool.noConfusion (show true = false from h), fun h => (hF.v8 h).imp fun g h2 => ⟨h2.1, h2.2.1, fun h3 => absurd q8 (by rw [show d 10 = false from h3]; decide)⟩, fun h => ⟨(hF.v9 h).1, (hF.v9 h).2.imp fun X h2 => ⟨h2.1, fun h3 => absurd q8 (by rw [show d 10 = false from h3]; decide)⟩⟩, fun h => ⟨(hF.v10 h).1, A', c', F'', e10, fun h3 => Bool.noConfusion (show true = false from h3), aW⟩, fun _ => ⟨fun j hj => by unfold upI; rw [dI j hj, Bool.or_true], aJ⟩⟩)
        clear iO aJ dI bk q1 q2 fM q8 h9 p9 aW hF hS hd hp
        go_simp
      intro d val w' hF hd
      simp only [Exit.inBlock, Exit.then, Jd7, Act.put, List.setIfInBounds_toArray, List.set_cons_succ, List.set_cons_zero]
      refine ‹∀ (a' : Act) (w' : World), _ -> _› _ _ ?_
      have HIP := lh (And.intro (hF.v12 (hd 12 (by decide))).2 hF.bel)
      clear hF hd y0 y1 y2 y3 y4 y5 y6 y7
      go_wp2_with fail
      exact ⟨⟨k + 1, by omega, by go_num, HIP.out.1, HIP.out.2⟩, by simp [intOf]; omega⟩
     as_aux_lemma =>
     obtain rfl : n2 = k := by omega
     have k1 : ¬ (n2 : Int) < (n2 : Int) := by omega
     have e1 := Jsn (m := m) (k := n2) (Nat.le_of_eq HW.out.2.2)
     rw [e1] at HO
     clear e1
     obtain ⟨z0, z1, z2, z3, z4, z5, z6, z7⟩ := (BK4.out.below (HBR.out.trans (HB.out.mono HBR.out.size)) o0).c8
     have bT := HW6.out.trans (HB.out.mono HW6.out.size)
     have eF := HBR.out.trans (HB.out.mono HBR.out.size)
     have bM := Jpc A' n' c' r A1 n1 c1 m.words w11.heap.size w11 (rkindI.more (rkindI.below H'.out.1 bT) bT.size) (rkindI.more (rkindI.below HO4.out.words.readsI eF) eF.size) zd jN H'.out.2 (by omega) (fun x hx => by have := HQ.out.2.1.words x hx; omega)
     rw [HROW.out] at bM
     have HRW := lh bM
     have HBY := lh bT
     have HBZ := lh eF
     clear bM bT eF HBR
     go_wp2_with fail
     refine HRW.out.mono ?_
     rintro e w12 ⟨v, rfl, bI, -, bA⟩
     obtain ⟨A6, c6, dC, -⟩ := bI.form
     rw [show row.length = n1 by rw [<- HROW.out, Jkw]; exact HW.out.1] at dC
     subst dC
     have aA := HBZ.out.trans (bA.mono HBZ.out.size)
     obtain ⟨z0, z1, z2, z3, z4, z5, z6, z7⟩ := (BK4.out.below aA o0).c8
     have HB12 := lh aA
     have HBL := lh bA
     have HR6 := lh (NRow.readsI (NRow.of bI))
     have fN := HBY.out.trans (bA.mono HBY.out.size)
     have bX := Vu A1 (some ⟨gS, 0, none⟩) A3 n1 c1 n2 c2 n2 c3 w12.heap.size m A6 n1 c6 row w12 ((HO4.out.next aA).read) (NRow.readsI (NRow.of bI)) zd HQ.out.2.2.1 (by omega) HQ.out.1 (HT.out.next fN)
     rw [HQ.out.2.2.2] at bX
     have HTY := lh fN
     have HCH := lh bX
     clear bX bI bA aA fN HRW
     go_wp2_with fail
     refine HCH.out.mono ?_
     rintro e w13 ⟨v, rfl, fF, aM⟩
     rcases fF with ⟨-, gA, rfl, kK, bJ⟩ | ⟨h0, -⟩
     case inr => exact absurd rfl h0
     have aL : OwnQ w13 (.slice (some ⟨gA, 0, none⟩) n2 n2) ch := bJ
     have HOA := lh aL
     have aN := HBL.out.trans (aM.mono HBL.out.size)
     have HBK := lh (BK.out.below aN BK.out.lt)
     have HOW := lh (HO.out.next aN)
     have HTZ := lh (HTY.out.trans (aM.mono HTY.out.size))
     have HRR := lh (rkindI.more (rkindI.below HR6.out aM) aM.size)
     have fO := HBK.out.lt
     have HLW := lh (Za (Jsk HQ.out.2.1.ok (by have := HW.out.1; omega)))
     have HRL := lh (show row.length = n1 from by rw [<- HROW.out, Jkw]; exact HW.out.1)
     clear bJ aL aM aN HCH z0 z1 z2 z3 z4 z5 z6 z7 y0 y1 y2 y3 y4 y5 y6 y7 BK HO HR6 HBL HBZ HBY HB12
     go_wp2_with fail
     go_cut [26, 27] (fun u v wc => ∃ gB, u = .slice (some ⟨gB, 0, none⟩) n2 n2 /\ v = .int .i64 0 /\ OwnQ wc (.slice (some ⟨gB, 0, none⟩) n2 n2) ch /\ Below w13.heap.size w13 wc)
     case first =>
      refine Je0 (LkW w13 n1 n2 row ch (fun j => ([some (.agg #[.bool (decide (m.smooth.num < 0)), .int .u64 (lo m.smooth.num.natAbs : Int), .string (mo m.smooth.num.natAbs), .int .u64 (lo ((qden m.smooth)) : Int), .string (mo ((qden m.smooth))), .slice AW (n1 + 1) cW, .slice AS n2 cS, .slice AC n2 cC]), none, some (.slice A6 n1 c6), none, none, none, none, none, none, none, none, none] : List (Option Value)).getD j none)) (by kernel_rfl) (by kernel_rfl) (by kernel_rfl) ?_ ?_ [some 145, some 146, some 147, some 148, some 149, some 150, some 151, some 144, some 152, some 153, some 26, some 27] rfl ?_
      ·constructor <;> first | exact Jt _ | exact Fixed.start _ _ | exact Apart.start _ _ _ _ | (intro h; cases h)
      ·refine ⟨⟨⟨⟨⟨⟨⟨⟨⟨⟨⟨⟨trivial, ?_⟩, ?_⟩, ?_⟩, ?_⟩, ?_⟩, ?_⟩, ?_⟩, ?_⟩, ?_⟩, ?_⟩, ?_⟩, ?_⟩
       case refine_1 =>
        intro d val a' w' hS hF hd hp
        have e8 : a'.tmps[21]?.getD undef = .pointer (some ⟨g21, 0, none⟩) := hS.arg 21 (by kernel_rfl)
        have b0' := HBK.out.below hF.bel fO
        obtain ⟨z0, z1, z2, z3, z4, z5, z6, z7⟩ := Blk.c8 b0'
        refine Xa (v := .agg #[.bool (decide (m.smooth.num < 0)), .int .u64 (lo m.smooth.num.natAbs : Int), .string (mo m.smooth.num.natAbs), .int .u64 (lo ((qden m.smooth)) : Int), .string (mo ((qden m.smooth))), .slice AW (n1 + 1) cW, .slice AS n2 cS, .slice AC n2 cC]) _ rfl rfl ?_ (show LkW _ _ _ _ _ _ _ _ _ from ⟨hF.bel, hF.fx.step (.inr rfl), hF.ap.pure hF.bel.size rfl, hF.v1, hF.v3, hF.v4, hF.v5, hF.v6, hF.v7, hF.v8, hF.v9, hF.v10, hF.v11⟩)
        clear hF hS hd hp
        go_simp
       case refine_2 =>
        intro d val a' w' hS hF hd hp
        have hG := hF.next (Jb w' (.cells #[] 3))
        refine Xa (v := .slice (some ⟨w'.heap.size, 0, none⟩) 0 0) (w2 := w'.alloc (.cells #[] 3)) _ rfl rfl ?_ (show LkW _ _ _ _ _ _ _ _ _ from ⟨hG.bel, hG.fx.step (.inl rfl), hF.ap.step (Jb w' _).size hF.bel.size fun _ b hb => .inl (by have hb : some w'.heap.size = some b := hb; have hb := Option.some.inj hb; rw [World.size_alloc]; omega), fun _ => ⟨⟨_, rfl⟩, fun _ => Jpb w'⟩, fun h => absurd (hF.v3 h).1 (by rw [hd]; decide), hG.v4, hG.v5, hG.v6, hG.v7, hG.v8, hG.v9, hG.v10, hG.v11⟩)
        clear hG hF hS hd hp
        go_simp
       case refine_3 =>
        intro d val a' w' hS hF hd hp
        have e8 : a'.tmps[23]?.getD undef = .slice A6 n1 c6 := hS.arg 23 (by kernel_rfl)
        refine Xa (v := .slice A6 n1 c6) _ rfl rfl ?_ (show LkW _ _ _ _ _ _ _ _ _ from ⟨hF.bel, hF.fx.step (.inr rfl), hF.ap.pure hF.bel.size rfl, hF.v1, hF.v3, hF.v4, hF.v5, hF.v6, hF.v7, hF.v8, hF.v9, hF.v10, hF.v11⟩)
        clear hF hS hd hp
        go_simp
       case refine_4 =>
        intro d val a' w' hS hF hd hp
        have h1 := hp 1 (by kernel_rfl)
        obtain ⟨⟨g1, e1⟩, fP⟩ := hF.v1 h1
        have fP := fP hd
        have y8 := hF.bel.size
        have b1 : Jom (val 1) = (val 1).ownBlock := by rw [e1]; rfl
        refine Joy Tryz.eltZ1 _ rfl rfl (.tmp 146) (.tmp 147) rfl w' (val 1) [] w13.heap.size A6 n1 c6 row (hS.got 1 146 h1 rfl (Nat.le_of_ble_eq_true (by kernel_rfl))) fP ((hS.got 2 147 (hp 2 (by kernel_rfl)) rfl (Nat.le_of_ble_eq_true (by kernel_rfl))).trans (hF.fx 2 _ rfl (hp 2 (by kernel_rfl)))) (rkindI.below HRR.out hF.bel) (fun _ => rfl) (by unfold maxLen; simp; omega) (by simp; omega) ?_
        intro v' w1 ho j6
        rw [List.nil_append] at ho
        obtain ⟨A', c', ev, -⟩ := ho.form
        rw [HRL.out] at ev
        have bv : Jom v' = v'.ownBlock := by rw [ev]; rfl
        have jU : ∀ k, (val 1).ownBlock = some k -> w13.heap.size <= k := fun k hk => (hF.ap.lt 1 k h1 (by decide) (b1.trans hk)).1
        have keep : ∀ k b, d k = true -> Jsq k ≠ 0 -> Jsq k ≠ 1 -> Jom (val k) = some b -> w1.heap[b]? = w'.heap[b]? := fun k b iP h2 jV h4 => j6.block b (hF.ap.lt k b iP h2 h4).2 fun e => hF.ap.ap k 1 b iP h1 h2 (by decide) jV h4 (b1.trans e.symm)
        refine (show LkW _ _ _ _ _ _ _ _ _ from ⟨hF.bel.trans (j6.below y8 jU), hF.fx.step (.inl rfl), hF.ap.step j6.size y8 fun _ b hb => (j6.own b (bv.symm.trans hb)).elim (fun h => .inr ⟨1, h1, rfl, b1.trans h⟩) fun h => .inl ⟨h, ho.lt b (bv.symm.trans hb)⟩, fun h => ⟨(hF.v1 h).1, fun h6 => Bool.noConfusion (show true = false from h6)⟩, fun _ => ⟨h1, ⟨A', c', ev⟩, fun _ => ho⟩, fun h => ?_, fun h => absurd (hF.v5 h).1 (by rw [hd]; decide), fun h => absurd (hF.v5 (hF.v6 h).1).1 (by rw [hd]; decide), fun h => absurd (hF.v5 (hF.v6 (hF.v7 h).1).1).1 (by rw [hd]; decide), fun h => absurd (hF.v5 (hF.v6 (hF.v8 h).1).1).1 (by rw [hd]; decide), fun h => absurd (hF.v5 (hF.v6 (hF.v9 h).1).1).1 (by rw [hd]; decide), fun h => absurd (hF.v5 (hF.v6 (hF.v8 (hF.v10 h).1).1).1).1 (by rw [hd]; decide), fun h => absurd (hF.v5 (hF.v6 (hF.v9 (hF.v11 h).1).1).1).1 (by rw [hd]; decide)⟩)
        obtain ⟨g4, e4, h4⟩ := hF.v4 h
        refine ⟨g4, e4, fun h5 => ⟨(h4 h5).1, fun hn => ?_⟩⟩
        obtain ⟨ad, q1, q2, q3⟩ := (h4 h5).2 hn
        refine ⟨ad, q1, Nat.lt_of_lt_of_le q2 j6.size, fun j u hu => (World.cell?_of_block (keep 4 _ h (by decide) (by decide) ?_)).trans (q3 j u hu)⟩
        rw [Jz]
        have q1 := Option.some.inj q1
        rw [<- q1, e4]
        rfl
       case refine_5 =>
        intro d val a' w' hS hF hd hp
        have hG := hF.next (Jb w' (.cells #[.int .i64 (-1)] 3))
        refine Xa (v := .slice (some ⟨w'.heap.size, 0, none⟩) 1 1) (w2 := w'.alloc (.cells #[.int .i64 (-1)] 3)) _ rfl rfl ?_ (show LkW _ _ _ _ _ _ _ _ _ from ⟨hG.bel, hG.fx.step (.inl rfl), hF.ap.step (Jb w' _).size hF.bel.size fun _ b hb => .inl (by have hb : some w'.heap.size = some b := hb; have hb := Option.some.inj hb; rw [World.size_alloc]; omega), hG.v1, hG.v3, fun _ => ⟨_, rfl, fun _ => by rw [World.size_alloc]; exact Reads.one w' _ _⟩, fun h => absurd (hF.v5 h).2.1 (by rw [hd]; decide), hG.v6, hG.v7, hG.v8, hG.v9, hG.v10, hG.v11⟩)
        clear hG hF hS hd hp
        go_simp
       case refine_6 =>
        intro d val a' w' hS hF hd hp
        have h3 := hp 3 (by kernel_rfl)
        have h4 := hp 4 (by kernel_rfl)
        obtain ⟨h1, ⟨A1', c1', e3⟩, bY⟩ := hF.v3 h3
        have bY := bY hd
        obtain ⟨g4, e4, fQ⟩ := hF.v4 h4
        have fQ := fQ hd
        have y8 := hF.bel.size
        have b3 : Jom (val 3) = (val 3).ownBlock := by rw [e3]; rfl
        have jW : ∀ k, (val 3).ownBlock = some k -> w13.heap.size <= k := fun k hk => (hF.ap.lt 3 k h3 (by decide) (b3.trans hk)).1
        refine Joy Tryz.eltZ1 _ rfl rfl (.tmp 148) (.tmp 149) rfl w' (val 3) row w'.heap.size (some ⟨g4, 0, none⟩) 1 1 [-1] (hS.got 3 148 h3 rfl (Nat.le_of_ble_eq_true (by kernel_rfl))) bY ((hS.got 4 149 h4 rfl (Nat.le_of_ble_eq_true (by kernel_rfl))).trans e4) fQ (fun _ => rfl) (by unfold maxLen; rw [HRL.out]; omega) (by rw [HRL.out]; omega) ?_
        intro v' w1 ho j6
        obtain ⟨A', c', ev, -⟩ := ho.form
        rw [show (row ++ [(-1 : Int)]).length = n1 + 1 from by rw [List.length_append, HRL.out]; rfl] at ev
        have bv : Jom v' = v'.ownBlock := by rw [ev]; rfl
        have aB : ReadsI w1 w1.heap.size A' (n1 + 1) (row ++ [-1]) := by rw [ev] at ho; exact NRow.readsI (NRow.of ho)
        exact (show LkW _ _ _ _ _ _ _ _ _ from ⟨hF.bel.trans (j6.below y8 jW), hF.fx.step (.inl rfl), hF.ap.step j6.size y8 fun _ b hb => (j6.own b (bv.symm.trans hb)).elim (fun h => .inr ⟨3, h3, rfl, b3.trans h⟩) fun h => .inl ⟨h, ho.lt b (bv.symm.trans hb)⟩, fun h => ⟨(hF.v1 h).1, fun h6 => absurd h3 (by rw [show d 3 = false from h6]; decide)⟩, fun h => ⟨(hF.v3 h).1, (hF.v3 h).2.1, fun h6 => Bool.noConfusion (show true = false from h6)⟩, fun h => (hF.v4 h).imp fun g h2 => ⟨h2.1, fun h6 => Bool.noConfusion (show true = false from h6)⟩, fun _ => ⟨h3, h4, A', c', ev, aB⟩, fun h => absurd (hF.v6 h).1 (by rw [hd]; decide), fun h => absurd (hF.v6 (hF.v7 h).1).1 (by rw [hd]; decide), fun h => absurd (hF.v6 (hF.v8 h).1).1 (by rw [hd]; decide), fun h => absurd (hF.v6 (hF.v9 h).1).1 (by rw [hd]; decide), fun h => absurd (hF.v6 (hF.v8 (hF.v10 h).1).1).1 (by rw [hd]; decide), fun h => absurd (hF.v6 (hF.v9 (hF.v11 h).1).1).1 (by rw [hd]; decide)⟩)
       case refine_7 =>
        intro d val a' w' hS hF hd hp
        have e1 : a'.tmps[145]?.getD undef = .agg #[.bool (decide (m.smooth.num < 0)), .int .u64 (lo m.smooth.num.natAbs : Int), .string (mo m.smooth.num.natAbs), .int .u64 (lo ((qden m.smooth)) : Int), .string (mo ((qden m.smooth))), .slice AW (n1 + 1) cW, .slice AS n2 cS, .slice AC n2 cC] := (hS.res 0 145 (hp 0 (by kernel_rfl)) rfl (by kernel_rfl)).trans (hF.fx 0 _ rfl (hp 0 (by kernel_rfl)))
        have e2 := hS.res 5 150 (hp 5 (by kernel_rfl)) rfl (by kernel_rfl)
        obtain ⟨h3, h4, A5, c5, e5, jX⟩ := hF.v5 (hp 5 (by kernel_rfl))
        rw [e5] at e2
        have h5 := hp 5 (by kernel_rfl)
        refine Jjm (Ψ := fun v w'' => LkW w13 n1 n2 row ch _ (upI d 6) (Jf3 val 6 v) w'') _ rfl rfl (args := #[.agg #[.bool (decide (m.smooth.num < 0)), .int .u64 (lo m.smooth.num.natAbs : Int), .string (mo m.smooth.num.natAbs), .int .u64 (lo ((qden m.smooth)) : Int), .string (mo ((qden m.smooth))), .slice AW (n1 + 1) cW, .slice AS n2 cS, .slice AC n2 cC], .slice A5 (n1 + 1) c5]) (w2 := w') (f := 24) ?_ ?_
        ·clear hF hS hd hp
         go_simp
        have j8 := Vu AW AS AC (n1 + 1) cW n2 cS n2 cC w'.heap.size (Jr7 m) A5 (n1 + 1) c5 (row ++ [-1]) w' ((HOW.out.next hF.bel).read) jX zd HLW.out (by omega) HQ.out.1 (HT.out.next (HTZ.out.trans (hF.bel.mono HTZ.out.size)))
        rw [HC.out.2.2] at j8
        refine j8.mono ?_
        rintro e w3 ⟨v, rfl, hv, j7⟩
        have hG := hF.next j7
        rcases hv with ⟨-, g6, rfl, -, fR⟩ | ⟨h0, -⟩
        ·exact ⟨_, rfl, ⟨hG.bel, hG.fx.step (.inl rfl), hG.ap.pure hG.bel.size rfl, hG.v1, hG.v3, hG.v4, hG.v5, fun _ => ⟨h5, g6, rfl, fR⟩, fun h => absurd (hG.v7 h).1 (by rw [hd]; decide), fun h => absurd (hG.v8 h).1 (by rw [hd]; decide), fun h => absurd (hG.v9 h).1 (by rw [hd]; decide), hG.v10, hG.v11⟩⟩
        exact absurd rfl h0
       case refine_8 =>
        intro d val a' w' hS hF hd hp
        have e1 := hS.res 6 151 (hp 6 (by kernel_rfl)) rfl (by kernel_rfl)
        have h6 := hp 6 (by kernel_rfl)
        refine Xa (v := val 6) _ rfl rfl ?_ (show LkW _ _ _ _ _ _ _ _ _ from ⟨hF.bel, hF.fx.step (.inl rfl), hF.ap.pure hF.bel.size rfl, hF.v1, hF.v3, hF.v4, hF.v5, hF.v6, fun _ => ⟨h6, rfl⟩, hF.v8, hF.v9, hF.v10, hF.v11⟩)
        clear hF hS hd hp
        go_simp
       case refine_9 =>
        intro d val a' w' hS hF hd hp
        have e1 := hS.res 7 144 (hp 7 (by kernel_rfl)) rfl (by kernel_rfl)
        obtain ⟨h6, h7⟩ := hF.v7 (hp 7 (by kernel_rfl))
        obtain ⟨-, g6, e6, -⟩ := hF.v6 h6
        rw [h7, e6] at e1
        refine Xa (v := .slice (some ⟨g6, 0, none⟩) n2 n2) _ rfl rfl ?_ (show LkW _ _ _ _ _ _ _ _ _ from ⟨hF.bel, hF.fx.step (.inl rfl), hF.ap.pure hF.bel.size rfl, hF.v1, hF.v3, hF.v4, hF.v5, hF.v6, hF.v7, fun _ => ⟨h6, fun u y (e : val 6 = _) => by rw [e6] at e; injection e with e; exact (Jsr e).1⟩, hF.v9, fun h => absurd (hF.v10 h).1 (by rw [hd]; decide), hF.v11⟩)
        clear hF hS hd hp
        go_simp
       case refine_10 =>
        intro d val a' w' hS hF hd hp
        have e1 := hS.res 7 144 (hp 7 (by kernel_rfl)) rfl (by kernel_rfl)
        obtain ⟨h6, h7⟩ := hF.v7 (hp 7 (by kernel_rfl))
        obtain ⟨-, g6, e6, -⟩ := hF.v6 h6
        rw [h7, e6] at e1
        refine Xa (v := .int .i64 0) _ rfl rfl ?_ (show LkW _ _ _ _ _ _ _ _ _ from ⟨hF.bel, hF.fx.step (.inl rfl), hF.ap.pure hF.bel.size rfl, hF.v1, hF.v3, hF.v4, hF.v5, hF.v6, hF.v7, hF.v8, fun _ => ⟨h6, fun u y (e : val 6 = _) => by rw [e6] at e; injection e with e; exact (Jsr e).2⟩, hF.v10, fun h => absurd (hF.v11 h).1 (by rw [hd]; decide)⟩)
        clear hF hS hd hp
        go_simp
       case refine_11 =>
        intro d val a' w' hS hF hd hp
        have e1 := hS.res 8 152 (hp 8 (by kernel_rfl)) rfl (by kernel_rfl)
        have h9 := hp 8 (by kernel_rfl)
        refine Xa (v := val 8) _ rfl rfl ?_ (show LkW _ _ _ _ _ _ _ _ _ from ⟨hF.bel, hF.fx.step (.inl rfl), hF.ap.pure hF.bel.size rfl, hF.v1, hF.v3, hF.v4, hF.v5, hF.v6, hF.v7, hF.v8, hF.v9, fun _ => ⟨h9, rfl⟩, hF.v11⟩)
        clear hF hS hd hp
        go_simp
       case refine_12 =>
        intro d val a' w' hS hF hd hp
        have e1 := hS.res 9 153 (hp 9 (by kernel_rfl)) rfl (by kernel_rfl)
        have h9 := hp 9 (by kernel_rfl)
        refine Xa (v := val 9) _ rfl rfl ?_ (show LkW _ _ _ _ _ _ _ _ _ from ⟨hF.bel, hF.fx.step (.inl rfl), hF.ap.pure hF.bel.size rfl, hF.v1, hF.v3, hF.v4, hF.v5, hF.v6, hF.v7, hF.v8, hF.v9, hF.v10, fun _ => ⟨h9, rfl⟩⟩)
        clear hF hS hd hp
        go_simp
      intro d val w' hF hd
      simp only [Exit.then, Jd7, Act.put, List.setIfInBounds_toArray, List.set_cons_succ, List.set_cons_zero]
      refine ‹∀ a' w', Met _ a' w' -> _› _ _ ?_
      go_meet
      obtain ⟨-, g6, e6, fR⟩ := hF.v6 (hd 6 (by decide))
      exact ⟨g6, (hF.v10 (hd 10 (by decide))).2.trans ((hF.v8 (hd 8 (by decide))).2 _ _ e6), (hF.v11 (hd 11 (by decide))).2.trans ((hF.v9 (hd 9 (by decide))).2 _ _ e6), fR, hF.bel⟩
     case rest =>
      obtain ⟨gB, rfl, rfl, bJ, aT⟩ := hcut
      rename World => w14
      have HOB := lh bJ
      have HB14 := lh (HTZ.out.trans (aT.mono HTZ.out.size))
      have HOA2 := lh (OwnW.next HOA.out aT)
      clear bJ aT
      go_wp2_with fail
      refine (HKN.out _ (HT.out.next HB14.out)).mono ?_
      rintro e w15 ⟨rfl, bB⟩
      have HB15 := lh (HB14.out.trans (bB.mono HB14.out.size))
      have aO := Jsp (some ⟨gA, 0, none⟩) (some ⟨gB, 0, none⟩) n2 n2 n2 w15.heap.size w15.heap.size ch ch w15 (OwnQ.reads_ (OwnW.next HOA2.out bB)) (OwnQ.reads_ (OwnW.next HOB.out bB)) zd zd (by omega) (fun x hx => (HC.out.2.1 x hx).mono (by omega)) (fun x hx => (HC.out.2.1 x hx).mono (by omega))
      rw [decide_eq_true (rfl : ch = ch)] at aO
      have HSA := lh aO
      clear aO bB
      go_wp2_with fail
      refine HSA.out.mono ?_
      rintro e w16 ⟨rfl, dJ⟩
      have HB16 := lh (HB15.out.trans (dJ.mono HB15.out.size))
      clear dJ
      go_wp2
      go_ret
      exact ⟨rfl, HB16.out⟩
