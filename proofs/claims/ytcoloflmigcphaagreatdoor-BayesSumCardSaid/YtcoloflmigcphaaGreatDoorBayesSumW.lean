import Derived.Test.YtcoloflmigcphaaGreatDoorBayesC
import Derived.Test.YtcoloflmigcphaaGreatDoorHandRows
import Derived.Test.YtcoloflmigcphaaGreatDoorBayesY
namespace Go.Proofs.YtcoloflmigcphaaGreatDoor
set_option maxRecDepth 100000
set_option maxHeartbeats 8000000
open Go.RowKit
set_option linter.all false
theorem Jlf : LenB kn0 := Za Jj0
theorem Jle : LenB kn1 := Za Jjz
theorem Jaj (w : World) (x : Int) : ReadsI (w.alloc (.cells #[.int .i64 x] 3)) (w.alloc (.cells #[.int .i64 x] 3)).heap.size (some ⟨w.heap.size, 0, none⟩) 1 [x] := rkindI.more (Reads.one w (zv x) _) (by show w.heap.size + 1 <= (w.heap.push _).size; rw [Array.size_push]; exact Nat.le_refl _)
theorem Jnm : ∃ (m0 m1 : BM) (a b : Rat), Jdk 2 [2] 1 = (m0, 0) /\ Xg m0 [0] 0 = (m1, 0) /\ Qo m1 [0] = ([a, b], 0) /\ LenB m0 /\ LenB m1 /\ QS 1000 m0.smooth /\ QS 1000 m1.smooth /\ QS 1000 a /\ QS 1000 b /\ a = Rat.divInt 8 11 /\ b = Rat.divInt 3 11 :=
 ⟨kn0, kn1, _, _, Jnl, Jld, Jh6, Jlf, Jle, ⟨Nat.le_of_ble_eq_true (by kernel_rfl), Nat.le_of_ble_eq_true (by kernel_rfl)⟩, ⟨Nat.le_of_ble_eq_true (by kernel_rfl), Nat.le_of_ble_eq_true (by kernel_rfl)⟩, ⟨Nat.le_of_ble_eq_true (by kernel_rfl), Nat.le_of_ble_eq_true (by kernel_rfl)⟩, ⟨Nat.le_of_ble_eq_true (by kernel_rfl), Nat.le_of_ble_eq_true (by kernel_rfl)⟩, by decide +kernel, by decide +kernel⟩
theorem Jgy (w : World) (hT : Tab w) : Calls Tryz.prog 19 #[] w (Ret (.bool true) w) := by
 obtain ⟨m0, m1, a, b, h1, h2, h3, h4, h5, h6, h7, h8, h9, aG, eH⟩ := Jnm
 have bU := fun w => Vo 1 w (by decide) (by decide)
 obtain ⟨q1, aB⟩ : ∃ q1 : Rat, ((1 : Int) : Rat) = q1 := ⟨_, rfl⟩
 have aW : (1 : Rat) = q1 := aB
 rw [aW] at h1
 rw [aB] at bU
 have y8 : QS 1099511627776 q1 := by rw [<- aB]; exact (QS.cnt (k := 1) (by decide) (by decide) (by decide)).mono (by decide)
 unfold qV at bU
 have HOF := lh bU
 have HNW : Hid (∀ (w : World) (X : Addr), ReadsI w w.heap.size (some X) 1 [2] -> Calls Tryz.prog 15 #[.int .i64 2, .slice (some X) 1 1, .agg #[.bool (decide (q1.num < 0)), .int .u64 (lo q1.num.natAbs : Int), .string (mo q1.num.natAbs), .int .u64 (lo ((qden q1)) : Int), .string (mo ((qden q1)))]] w fun e w' => ∃ u, e = .returned (.tuple #[u, .int .i64 0]) /\ ModB w.heap.size 1 2 2 m0 u w' /\ Below w.heap.size w w') := lh fun w X h => by
  refine (Vp 2 (some X) 1 1 w.heap.size [2] q1 w h zd (by omega) y8).mono ?_
  rintro e w' ⟨v, rfl, hv, hb⟩
  rw [h1] at hv
  rcases hv with ⟨-, u, rfl, hm⟩ | ⟨h0, -⟩
  ·exact ⟨u, rfl, hm, hb⟩
  exact absurd rfl h0
 have HTE : Hid (∀ (w : World) (AW : Option Addr) (cW gS gC : Nat) (X : Addr), RdB w w.heap.size ⟨AW, 1, cW⟩ ⟨some ⟨gS, 0, none⟩, 2, 2⟩ ⟨some ⟨gC, 0, none⟩, 2, 2⟩ m0 -> ReadsI w w.heap.size (some X) 1 [0] -> Calls Tryz.prog 29 #[.agg #[.bool (decide (m0.smooth.num < 0)), .int .u64 (lo m0.smooth.num.natAbs : Int), .string (mo m0.smooth.num.natAbs), .int .u64 (lo ((qden m0.smooth)) : Int), .string (mo ((qden m0.smooth))), .slice AW 1 cW, .slice (some ⟨gS, 0, none⟩) 2 2, .slice (some ⟨gC, 0, none⟩) 2 2], .slice (some X) 1 1, .int .i64 0] w fun e w' => ∃ u, e = .returned (.tuple #[u, .int .i64 0]) /\ ModB w.heap.size 1 2 2 m1 u w' /\ Below w.heap.size w w') := lh fun w AW cW gS gC X h h' => by
  refine (Jb3 AW (some ⟨gS, 0, none⟩) (some ⟨gC, 0, none⟩) 1 cW 2 2 2 2 w.heap.size m0 (some X) 1 1 [0] 0 w h h' zd h4 (by omega) (h6.mono (by omega))).mono ?_
  rintro e w' ⟨v, rfl, hv, hb⟩
  rw [h2] at hv
  rcases hv with ⟨-, u, rfl, hm⟩ | ⟨h0, -⟩
  ·exact ⟨u, rfl, hm, hb⟩
  exact absurd rfl h0
 have HCH : Hid (∀ (w : World) (AW : Option Addr) (cW gS gC : Nat) (X : Addr), RdB w w.heap.size ⟨AW, 1, cW⟩ ⟨some ⟨gS, 0, none⟩, 2, 2⟩ ⟨some ⟨gC, 0, none⟩, 2, 2⟩ m1 -> ReadsI w w.heap.size (some X) 1 [0] -> Tab w -> Calls Tryz.prog 24 #[.agg #[.bool (decide (m1.smooth.num < 0)), .int .u64 (lo m1.smooth.num.natAbs : Int), .string (mo m1.smooth.num.natAbs), .int .u64 (lo ((qden m1.smooth)) : Int), .string (mo ((qden m1.smooth))), .slice AW 1 cW, .slice (some ⟨gS, 0, none⟩) 2 2, .slice (some ⟨gC, 0, none⟩) 2 2], .slice (some X) 1 1] w fun e w' => ∃ g, e = .returned (.tuple #[.slice (some ⟨g, 0, none⟩) 2 2, .int .i64 0]) /\ AtQ w' g 0 a /\ AtQ w' g 5 b /\ g < w'.heap.size /\ Below w.heap.size w w') := lh fun w AW cW gS gC X h h' hT => by
  refine (Vu AW (some ⟨gS, 0, none⟩) (some ⟨gC, 0, none⟩) 1 cW 2 2 2 2 w.heap.size m1 (some X) 1 1 [0] w h h' zd h5 (by omega) h7 hT).mono ?_
  rintro e w' ⟨v, rfl, hv, hb⟩
  rw [h3] at hv
  rcases hv with ⟨-, g, rfl, hg, ho⟩ | ⟨h0, -⟩
  ·have e0 := OwnQ.at_ ho (k := 0) rfl
   have e1 := OwnQ.at_ ho (k := 1) rfl
   exact ⟨g, rfl, e0, e1, Xw e0.c5.1, hb⟩
  exact absurd rfl h0
 have cG := fun w => Ji4 a 8 11 w (by omega) (by omega) (by omega) (by omega) (by omega) aG (h8.mono (by omega))
 have cH := fun w => Ji4 b 3 11 w (by omega) (by omega) (by omega) (by omega) (by omega) eH (h9.mono (by omega))
 unfold qV at cG cH
 have HI1 := lh cG
 have HI2 := lh cH
 have HT := lh hT
 clear cG cH hT bU h1 h2 h3 h4 h5 h6 h7 h8 h9 aG eH aB aW y8
 go_enter Tryz.func19, Tryz.ntmps19
 go_wp2_with fail
 refine (HOF.out _).mono ?_
 rintro e w1 ⟨rfl, aH⟩
 have hr := rkindI.below (Jaj w 2) aH
 have HR := lh (rkindI.more hr aH.size)
 have HB1 := lh (Ja (Jb w (.cells #[.int .i64 2] 3)) aH)
 clear aH hr
 go_wp2_with fail
 refine (HNW.out w1 _ HR.out).mono ?_
 rintro e w2 ⟨u, rfl, ⟨AW, cW, gS, gC, F, G, H, rfl, ho⟩, q8⟩
 have HB2 := lh (Ja HB1.out q8)
 have HO := lh ho
 clear q8 ho HR HB1 HNW HOF
 go_upto_region 2 with fail
 have b0 := Blk.new w2 43 #[.bool (decide (m0.smooth.num < 0)), .int .u64 (lo m0.smooth.num.natAbs : Int), .string (mo m0.smooth.num.natAbs), .int .u64 (lo ((qden m0.smooth)) : Int), .string (mo ((qden m0.smooth))), .slice AW 1 cW, .slice (some ⟨gS, 0, none⟩) 2 2, .slice (some ⟨gC, 0, none⟩) 2 2]
 have o9 := Jb w2 (.cells #[.bool (decide (m0.smooth.num < 0)), .int .u64 (lo m0.smooth.num.natAbs : Int), .string (mo m0.smooth.num.natAbs), .int .u64 (lo ((qden m0.smooth)) : Int), .string (mo ((qden m0.smooth))), .slice AW 1 cW, .slice (some ⟨gS, 0, none⟩) 2 2, .slice (some ⟨gC, 0, none⟩) 2 2] 43)
 generalize w2.alloc (.cells #[.bool (decide (m0.smooth.num < 0)), .int .u64 (lo m0.smooth.num.natAbs : Int), .string (mo m0.smooth.num.natAbs), .int .u64 (lo ((qden m0.smooth)) : Int), .string (mo ((qden m0.smooth))), .slice AW 1 cW, .slice (some ⟨gS, 0, none⟩) 2 2, .slice (some ⟨gC, 0, none⟩) 2 2] 43) = w3 at *
 have aX : w.heap.size <= w2.heap.size := HB2.out.size
 have eI := HO.out.next o9
 have HB3 := lh (Ja HB2.out o9)
 generalize w2.heap.size = g at *
 have hr := Jaj w3 0
 have bV := Jb w3 (.cells #[.int .i64 0] 3)
 have p8 := (eI.next bV).read
 have b4 := b0.below bV b0.lt
 have HTE2 := lh (HTE.out _ AW cW gS gC _ p8 hr)
 have HB4 := lh (Ja HB3.out bV)
 have bW := b4.lt
 obtain ⟨x0, x1, x2, x3, x4, x5, x6, x7⟩ := b0.c8
 have B4 := lh (And.intro b4 bW)
 clear eI o9 hr bV p8 HTE HO HB2 HB3 b4 bW b0
 go_wp2_with fail
 refine HTE2.out.mono ?_
 rintro e w5 ⟨u, rfl, ⟨AW5, cW5, gS5, gC5, F5, G5, H5, rfl, aY⟩, j7⟩
 have HB5 := lh (Ja HB4.out j7)
 have B5 := lh (B4.out.1.below j7 B4.out.2)
 have HN5 := lh (show ¬ F5 g /\ ¬ G5 g /\ ¬ H5 g from ⟨fun e => by have := aY.from1 _ e; have := B4.out.2; omega, fun e => by have := aY.from2 _ e; have := B4.out.2; omega, fun e => by have := aY.from3 _ e; have := B4.out.2; omega⟩)
 have HO5 := lh aY
 clear j7 aY HTE2 HB4 B4 x0 x1 x2 x3 x4 x5 x6 x7
 go_wp2_with (refine Jr rfl _ (.tmp 1) (.tmp 16) rfl g #[.bool (decide (m1.smooth.num < 0)), .int .u64 (lo m1.smooth.num.natAbs : Int), .string (mo m1.smooth.num.natAbs), .int .u64 (lo ((qden m1.smooth)) : Int), .string (mo ((qden m1.smooth))), .slice AW5 1 cW5, .slice (some ⟨gS5, 0, none⟩) 2 2, .slice (some ⟨gC5, 0, none⟩) 2 2] _ rfl rfl _ B5.out (by kernel_rfl) rfl (by simp [Value.oneCell']) ?_; intro w7 q9 aZ; have HX7 := lh aZ; have B7 := lh q9; obtain ⟨x0, x1, x2, x3, x4, x5, x6, x7⟩ := q9.c8; clear q9 aZ)
 have bA := HO5.out.exc HX7.out HN5.out.1 HN5.out.2.1 HN5.out.2.2
 have HB7 := lh (HB5.out.trans (HX7.out.below HB5.out.size aX))
 have hr := Jaj w7 0
 have aA := Jb w7 (.cells #[.int .i64 0] 3)
 have p8 := (bA.next aA).read
 have HB8 := lh (Ja HB7.out aA)
 have HCH2 := lh (HCH.out _ AW5 cW5 gS5 gC5 _ p8 hr (HT.out.next HB8.out))
 clear bA hr aA p8 HCH HB7 HB5 HN5 HX7 B5 B7 HO5
 refine HCH2.out.mono ?_
 rintro e w9 ⟨g9, rfl, d0, d1, bW, eJ⟩
 have HB9 := lh (Ja HB8.out eJ)
 clear HCH2 eJ HB8 x0 x1 x2 x3 x4 x5 x6 x7
 obtain ⟨x0, x1, x2, x3, x4⟩ := d0.c5
 obtain ⟨y0, y1, y2, y3, y4⟩ := d1.c5
 go_wp2_with fail
 refine (HI1.out _).mono ?_
 rintro e wa ⟨rfl, cI⟩
 have d1 := d1.below cI bW
 have HBA := lh (Ja HB9.out cI)
 clear cI x0 x1 x2 x3 x4 y0 y1 y2 y3 y4 HI1 HB9 d0
 obtain ⟨y0, y1, y2, y3, y4⟩ := d1.c5
 go_wp2_with fail
 refine (HI2.out _).mono ?_
 rintro e wb ⟨rfl, cJ⟩
 have HBB := lh (Ja HBA.out cJ)
 clear cJ y0 y1 y2 y3 y4 HI2 HBA d1
 go_wp2
 go_ret
 exact ⟨rfl, HBB.out⟩
def DocQ (m : BM) (v : Value) (w : World) : Prop := ∃ (ng : Bool) (A7 A8 : Option Addr) (l7 d7 l8 d8 : Nat) (W S C : SW), v = .agg #[.bool ng, .slice A7 l7 d7, .slice A8 l8 d8, W.v, S.v, C.v] /\ IsQ w w.heap.size (.agg #[.bool ng, .slice A7 l7 d7, .slice A8 l8 d8]) m.smooth /\ RdB w w.heap.size W S C m
def Joq (cols : Int) (k : Nat) : List Int := (List.range k).map fun (c : Nat) => (cols.tdiv 3 + (c : Int)) % 3 + 1
theorem Jpg (cols : Int) (k : Nat) : Joq cols (k + 1) = Joq cols k ++ [(cols.tdiv 3 + (k : Int)) % 3 + 1] := by
 unfold Joq
 rw [List.range_succ, List.map_append]
 rfl
theorem Jow (cols : Int) (k : Nat) : (Joq cols k).length = k := by simp [Joq]
theorem Jph {x : Int} (h : -9223372036854775808 <= x /\ x <= 9223372036854775807) : (-4611686018427387904 <= x.tdiv 3 /\ x.tdiv 3 <= 4611686018427387904) /\ -4611686018427387904 <= x.tdiv 4 /\ x.tdiv 4 <= 4611686018427387904 := by
 rcases Int.le_total 0 x with h0 | h0
 ·rw [Int.tdiv_eq_ediv_of_nonneg h0, Int.tdiv_eq_ediv_of_nonneg h0]
  omega
 have e : x.tdiv 4 = -((-x).tdiv 4) := by rw [Int.neg_tdiv]; omega
 have e' : x.tdiv 3 = -((-x).tdiv 3) := by rw [Int.neg_tdiv]; omega
 rw [e, e', Int.tdiv_eq_ediv_of_nonneg (by omega), Int.tdiv_eq_ediv_of_nonneg (by omega)]
 omega
theorem Jpk {f : Nat} {m : BM} {l : List Int} {i : Nat} (h : ¬ (i + m.words.length < l.length /\ i < 24)) : Jop f m l i = m := by
 cases f with
 | zero => rfl
 | succ f => unfold Jop; rw [if_neg h]
theorem Jpl {f n : Nat} {m : BM} {l : List Int} {i : Nat} (hd : DrawnB m n) (hn : n < 1073741824) (h : i + m.words.length < l.length /\ i < 24) (hf : 24 <= f + i) :
  ∃ (f' : Nat), f = f' + 1 /\ Xg m (Jkx (l.drop (i + 1)) m.words) (l.getD i 0 % (m.seen.length : Int)) = (Jn m (Jkx (l.drop (i + 1)) m.words) (l.getD i 0 % (m.seen.length : Int)).toNat 1, 0) /\ DrawnB (Jn m (Jkx (l.drop (i + 1)) m.words) (l.getD i 0 % (m.seen.length : Int)).toNat 1) (n + 1) /\ Jop f m l i = Jop f' (Jn m (Jkx (l.drop (i + 1)) m.words) (l.getD i 0 % (m.seen.length : Int)).toNat 1) l (i + m.words.length + 1) := by
 obtain ⟨h1, h2⟩ := hd.moved (hd.rowOk (l.drop (i + 1))) (hd.class_ (l.getD i 0)) hn
 obtain ⟨f', rfl⟩ : ∃ f', f = f' + 1 := ⟨f - 1, by omega⟩
 refine ⟨f', rfl, h1, h2, ?_⟩
 rw [Jop, if_pos h, h1, if_pos rfl]
def DrS (L : Nat) (g : Nat) (x0 x1 x2 : Value) (m : BM) (w : World) : Prop := ∃ (W S C : SW) (F G H : Nat -> Prop), Blk w g 31 #[x0, x1, x2, W.v, S.v, C.v] /\ OwB 3 22 65 L w W S C F G H m /\ (¬ F g /\ ¬ G g /\ ¬ H g)
def DrI (ws : List Int) (q : Rat) (l : List Int) (M0 : BM) (L g : Nat) (x0 x1 x2 : Value) (w5 : World) (i : Nat) (w : World) : Prop := ∃ (f nT : Nat) (mm : BM), i <= 40 /\ 24 <= f + i /\ Jop f mm l i = M0 /\ DrawnB mm nT /\ nT <= i /\ mm.words = ws /\ mm.smooth = q /\ DrS L g x0 x1 x2 mm w /\ Below L w5 w
def Jpi (m : BM) (y : Int) (k c : Nat) (b : Int) : BM :=
 if y = 0 then { m with seen := m.seen.set k b }
 else if y = 1 then { m with counts := m.counts.set k ((m.counts.getD k []).set c (((m.counts.getD k []).getD c []).set 0 b)) }
 else if y = 2 then { m with smooth := (b : Rat) }
 else if y = 3 then { m with words := m.words.set c b }
 else if y = 4 then { m with counts := m.counts.set k ((m.counts.getD k []).drop 1) }
 else if y = 5 then { m with seen := m.seen.drop 1 }
 else if y = 6 then { m with seen := m.seen.set k 1073741824 }
 else m
theorem Jpo (m : BM) (way at_ by_ : Int) : Jo6 m way at_ by_ = Jpi m (way % 14) (at_ % (m.seen.length : Int)).toNat ((at_.tdiv 3) % (m.words.length : Int)).toNat (by_ % 9 - 2) := rfl
theorem Jo2 {m : BM} {y : Int} {k c : Nat} {b : Int} (h : ¬ (y = 0 \/ y = 1 \/ y = 2 \/ y = 3 \/ y = 4 \/ y = 5 \/ y = 6)) : Jpi m y k c b = m := by
 unfold Jpi
 rw [if_neg (by omega), if_neg (by omega), if_neg (by omega), if_neg (by omega), if_neg (by omega), if_neg (by omega), if_neg (by omega)]
def DrQ (g g' : Nat) (m : BM) (w : World) : Prop := ∃ (ng : Bool) (A7 A8 : Option Addr) (l7 d7 l8 d8 : Nat) (W S C : SW), Blk w g 31 #[.bool ng, .slice A7 l7 d7, .slice A8 l8 d8, W.v, S.v, C.v] /\ ∀ w', Exc g' w w' -> IsQ w' w'.heap.size (.agg #[.bool ng, .slice A7 l7 d7, .slice A8 l8 d8]) m.smooth /\ RdB w' w'.heap.size W S C m
theorem Jq1 {a : Bool} {A1 A2 A3 A4 A5 : Option Addr} {l1 c1 l2 c2 l3 c3 l4 c4 l5 c5 : Nat} : ∀ i x : Nat, (#[Value.bool a, .slice A1 l1 c1, .slice A2 l2 c2, .slice A3 l3 c3, .slice A4 l4 c4, .slice A5 l5 c5])[i]? ≠ some (Ju x) := by
 intro i x h
 match i with
 | 0 => simp [Ju] at h
 | 1 => simp [Ju] at h
 | 2 => simp [Ju] at h
 | 3 => simp [Ju] at h
 | 4 => simp [Ju] at h
 | 5 => simp [Ju] at h
 | n + 6 => simp at h
def DrF (ws : List Int) (q : Rat) (M0 : BM) (L g : Nat) (x0 x1 x2 : Value) (w5 : World) (w : World) : Prop := ∃ nT : Nat, nT <= 40 /\ DrawnB M0 nT /\ M0.words = ws /\ M0.smooth = q /\ DrS L g x0 x1 x2 M0 w /\ Below L w5 w
def DrM (L : Nat) (x0 x1 x2 xw : Value) (m : BM) (u : Value) (w : World) (X : Nat -> Prop) : Prop := ∃ (S C : SW) (G H : Nat -> Prop), u = .agg #[x0, x1, x2, xw, S.v, C.v] /\ NRow 3 zv w G S.v m.seen /\ Nest 65 (Nest 22 (NRow 3 zv)) w H C.v m.counts /\ (∀ k, G k -> L <= k /\ ¬ H k) /\ (∀ k, H k -> L <= k) /\ ∀ g, X g -> ¬ G g /\ ¬ H g
theorem DrM.next {L : Nat} {x0 x1 x2 xw u : Value} {m : BM} {w w' : World} {X Y : Nat -> Prop} (h : DrM L x0 x1 x2 xw m u w X) (hb : Below w.heap.size w w') (hY : ∀ g, Y g -> X g \/ w.heap.size <= g) : DrM L x0 x1 x2 xw m u w' Y := by
 obtain ⟨S, C, G, H, e, hs, hc, h1, h2, h3⟩ := h
 have hr := Js 3 zv
 refine ⟨S, C, G, H, e, hr.loc hs hb.size fun k hk => hb.block k (hr.lt hs hk), hc.next (Xt hr _) hb, h1, h2, fun g hg => ?_⟩
 rcases hY g hg with h | h
 ·exact h3 g h
 exact ⟨fun e => by have := hr.lt hs e; omega, fun e => by have := hc.lt (Xt hr _) e; omega⟩
theorem DrM.exc {L g : Nat} {x0 x1 x2 xw u : Value} {m : BM} {w w' : World} {X : Nat -> Prop} (h : DrM L x0 x1 x2 xw m u w X) (hx : Exc g w w') (hg : X g) : DrM L x0 x1 x2 xw m u w' X := by
 obtain ⟨S, C, G, H, e, hs, hc, h1, h2, h3⟩ := h
 have hr := Js 3 zv
 exact ⟨S, C, G, H, e, hr.loc hs hx.size fun k hk => hx.block k (hr.lt hs hk) fun e => (h3 g hg).1 (by rw [<- e]; exact hk), hc.loc (Xt hr _) hx.size fun k hk => hx.block k (hc.lt (Xt hr _) hk) fun e => (h3 g hg).2 (by rw [<- e]; exact hk), h1, h2, h3⟩
structure DrR (W : World) (x0 x1 x2 xw : Value) (n1 : Nat) (row : List Int) (m : BM) (FX : Nat -> Option Value) (d : Nat -> Bool) (val : Nat -> Value) (w : World) : Prop where
 bel : Below W.heap.size W w
 fx : Fixed FX d val
 v6 : d 6 = true -> ∃ A c, val 6 = .slice A n1 c /\ (d 15 = false -> ReadsI w w.heap.size A n1 row)
 v15 : d 15 = true -> ∃ c0 c1 c2 c3 c4 c5, val 15 = .tuple #[.agg #[c0, c1, c2, c3, c4, c5], .int .i64 0] /\ (#[c0, c1, c2, c3, c4, c5].all (·.oneCell') = true) /\ DrM W.heap.size x0 x1 x2 xw m (.agg #[c0, c1, c2, c3, c4, c5]) w fun g => d 19 = true /\ val 19 = .pointer (some ⟨g, 0, none⟩)
 v16 : d 16 = true -> d 15 = true /\ val 16 = val 15
 v17 : d 17 = true -> d 15 = true /\ ∀ u y, val 15 = .tuple #[u, y] -> val 17 = u
 v18 : d 18 = true -> d 15 = true /\ ∀ u y, val 15 = .tuple #[u, y] -> val 18 = y
 v19 : d 19 = true -> ∃ g y0 y1 y2 y3 y4 y5, val 19 = .pointer (some ⟨g, 0, none⟩) /\ W.heap.size <= g /\ Blk w g 31 #[y0, y1, y2, y3, y4, y5] /\ (d 20 = true -> d 17 = true /\ val 17 = .agg #[y0, y1, y2, y3, y4, y5])
 v20 : d 20 = true -> d 19 = true
 v21 : d 21 = true -> d 18 = true /\ val 21 = val 18
theorem DrR.next {W w w' : World} {x0 x1 x2 xw : Value} {n1 : Nat} {row : List Int} {m : BM} {FX : Nat -> Option Value} {d : Nat -> Bool} {val : Nat -> Value} (h : DrR W x0 x1 x2 xw n1 row m FX d val w) (hb : Below w.heap.size w w') : DrR W x0 x1 x2 xw n1 row m FX d val w' where
 bel := h.bel.trans (hb.mono h.bel.size)
 fx := h.fx
 v6 := fun h1 => (h.v6 h1).imp fun A h2 => h2.imp fun c h3 => ⟨h3.1, fun h4 => rkindI.more (rkindI.below (h3.2 h4) hb) hb.size⟩
 v15 := fun h1 => by
  obtain ⟨c0, c1, c2, c3, c4, c5, e, ho, hm⟩ := h.v15 h1
  exact ⟨c0, c1, c2, c3, c4, c5, e, ho, hm.next hb fun g hg => .inl hg⟩
 v16 := h.v16
 v17 := h.v17
 v18 := h.v18
 v19 := fun h1 => by
  obtain ⟨g, y0, y1, y2, y3, y4, y5, e, hg, hk, h2⟩ := h.v19 h1
  exact ⟨g, y0, y1, y2, y3, y4, y5, e, hg, hk.below hb hk.lt, h2⟩
 v20 := h.v20
 v21 := h.v21
theorem Jq6 {a b u y : Value} (h : #[a, b] = #[u, y]) : a = u /\ b = y := by simpa using h
theorem Jps {g g' : Nat} (h : Value.pointer (some ⟨g, 0, none⟩) = .pointer (some ⟨g', 0, none⟩)) : g = g' := by
 injection h with h
 injection h with h
 injection h with h
def DrC (L : Nat) (x0 x1 x2 xw : Value) (m : BM) (W : World) (v v20 : Value) (w : World) : Prop := ∃ (g : Nat) (S C : SW) (G H : Nat -> Prop), v = .pointer (some ⟨g, 0, none⟩) /\ v20 = .int .i64 0 /\ Blk w g 31 #[x0, x1, x2, xw, S.v, C.v] /\ NRow 3 zv w G S.v m.seen /\ Nest 65 (Nest 22 (NRow 3 zv)) w H C.v m.counts /\ (∀ k, G k -> L <= k /\ ¬ H k) /\ (∀ k, H k -> L <= k) /\ Below W.heap.size W w
theorem DrR.end_ {W w : World} {x0 x1 x2 xw : Value} {n1 : Nat} {row : List Int} {m : BM} {FX : Nat -> Option Value} {d : Nat -> Bool} {val : Nat -> Value} (hF : DrR W x0 x1 x2 xw n1 row m FX d val w) (hd : ∀ i, i < 22 -> d i = true) : DrC W.heap.size x0 x1 x2 xw m W (val 19) (val 21) w := by
 obtain ⟨c0, c1, c2, c3, c4, c5, e15, -, S, C, G, H, e0, hs, hc, h1, h2, -⟩ := hF.v15 (hd 15 (by decide))
 obtain ⟨g, y0, y1, y2, y3, y4, y5, e19, hg, hk, fN⟩ := hF.v19 (hd 19 (by decide))
 have e8 := ((fN (hd 20 (by decide))).2.symm.trans ((hF.v17 (hd 17 (by decide))).2 _ _ e15)).trans e0
 injection e8 with e8
 rw [e8] at hk
 exact ⟨g, S, C, G, H, e19, (hF.v21 (hd 21 (by decide))).2.trans ((hF.v18 (hd 18 (by decide))).2 _ _ e15), hk, hs, hc, h1, h2, hF.bel⟩
theorem Jqh {L : Nat} {x0 x1 x2 xw : Value} {m : BM} {v : Value} {w : World} (h : Jq7 L x0 x1 x2 xw (m, 0) v w) : ∃ u, v = .tuple #[u, .int .i64 0] /\ Jq3 L x0 x1 x2 xw m u w := by
 rcases h with ⟨-, u, rfl, hm⟩ | ⟨h0, -⟩
 ·exact ⟨u, rfl, hm⟩
 exact absurd rfl h0
theorem Jpt (A : Option Addr) (n c : Nat) (l : List Int) (classes cols smooth way at_ by_ : Int) (B : Nat) (w : World) (h : ReadsI w B A n l) (hB : B <= w.heap.size) (bX : n <= c) (hc : c <= 9223372036854775807) (hl : ∀ x ∈ l, -9223372036854775808 <= x /\ x <= 9223372036854775807)
  (i1 : -9223372036854775808 <= classes /\ classes <= 9223372036854775807) (i2 : -9223372036854775808 <= cols /\ cols <= 9223372036854775807) (i3 : -9223372036854775808 <= smooth /\ smooth <= 9223372036854775807) (i4 : -9223372036854775808 <= way /\ way <= 9223372036854775807) (i5 : -9223372036854775808 <= at_ /\ at_ <= 9223372036854775807) (i6 : -9223372036854775808 <= by_ /\ by_ <= 9223372036854775807) (i7 : 7 <= way % 14) :
  Calls Tryz.prog 12 #[.slice A n c, .int .i64 classes, .int .i64 cols, .int .i64 smooth, .int .i64 way, .int .i64 at_, .int .i64 by_] w fun e w' => ∃ v, e = .returned v /\ DocQ (Jo6 (Jov l classes cols smooth) way at_ by_) v w' /\ Below w.heap.size w w' := by
 have bB : l.length = n := h.len
 have cK : ∀ (M : Nat), 1 <= M -> M <= 1000 -> ∀ (y : Int) (w' : World), -9223372036854775808 <= y -> y <= 9223372036854775807 -> Calls Tryz.prog 13 #[.int .i64 y, .int .i64 (M : Int)] w' fun e w'' => e = .returned (.int .i64 (y % (M : Int))) /\ w' = w'' := fun M h1 h2 y w' h3 h4 => Jpd y M w' h3 h4 h1 (by omega)
 have HPK := lh cK
 obtain ⟨N, hN⟩ : ∃ N : Nat, cols % 3 + 1 = (N : Int) := ⟨(cols % 3 + 1).toNat, by omega⟩
 have hJ : 1 <= N /\ N <= 3 := by omega
 obtain ⟨NC, eK⟩ : ∃ NC : Nat, classes % 3 + 1 = (NC : Int) := ⟨(classes % 3 + 1).toNat, by omega⟩
 have fO : 1 <= NC /\ NC <= 3 := by omega
 have eL : Joq cols N = Jon cols := by unfold Joq Jon; rw [show (cols % 3).toNat + 1 = N by omega]
 obtain ⟨M0, cL⟩ : ∃ M0, Jov l classes cols smooth = M0 := ⟨_, rfl⟩
 rw [cL]
 obtain ⟨M1, aT⟩ : ∃ M1, Jo6 M0 way at_ by_ = M1 := ⟨_, rfl⟩
 rw [aT]
 have HM := lh (And.intro cL aT)
 have HN := lh (And.intro hN (And.intro eK eL))
 have H := lh h
 have HL := lh hl
 have HI := lh (And.intro i1 (And.intro i2 (And.intro i3 (And.intro i4 (And.intro i5 i6)))))
 have HBB := lh hB
 have HLN := lh bB
 have HP1 : Hid (∀ w', Calls Tryz.prog 13 #[.int .i64 cols, .int .i64 3] w' fun e w'' => e = .returned (.int .i64 ((N : Int) - 1)) /\ w' = w'') := lh fun w' => by
  have h1 := cK 3 (by decide) (by decide) cols w' i2.1 i2.2
  rw [show cols % ((3 : Nat) : Int) = (N : Int) - 1 by omega] at h1
  exact h1
 clear h hl i1 i2 i3 i4 i5 i6 hB bB cL aT hN eK cK eL
 obtain ⟨b0, hB, hZ⟩ := bx1 w 31 #[.bool false, .slice none 0 0, .slice none 0 0, .slice none 0 0, .slice none 0 0, .slice none 0 0]
 go_enter Tryz.func12, Tryz.ntmps12
 go_upto_region 1 with fail
 generalize (w.alloc (.cells #[.bool false, .slice none 0 0, .slice none 0 0, .slice none 0 0, .slice none 0 0, .slice none 0 0] 31)) = W at *
 have HBW := lh hB
 have HZ := lh hZ.out
 have B0 := lh b0
 clear hB hZ b0
 go_wp2_with fail
 go_loopw [15, 16] (fun v p wr => ∃ k : Nat, k <= N /\ p = .int .i64 (k : Int) /\ Own wr 3 zv v (Joq cols k) /\ (∀ b, v.ownBlock = some b -> W.heap.size <= b) /\ Below W.heap.size W wr) (fun _ p _ => N - (intOf p).toNat)
 case atStart => exact ⟨0, by omega, rfl, Own.nil_ _ _ _, (fun b h => by cases h), Below.refl _ _⟩
 case round =>
  obtain ⟨k, hk, rfl, ho, bY, j8⟩ := hrel
  rename World => wr
  have q1 : (N : Int) - 1 + 1 = N := by omega
  by_cases eM : k < N
  ·as_aux_lemma =>
   have k1 : (k : Int) < (N : Int) := by omega
   have fP := (Jph HI.out.2.1).1
   obtain ⟨cq, fQ⟩ : ∃ cq, cols.tdiv 3 = cq := ⟨_, rfl⟩
   have bC := Jpg cols k
   rw [fQ] at fP bC
   have aC := Jfv (x := cq) (by omega) (by omega)
   obtain ⟨y, hy⟩ : ∃ y, cq + (k : Int) = y := ⟨_, rfl⟩
   have cN := Jfv (x := y) (by omega) (by omega)
   rw [hy] at bC
   obtain ⟨t, ht⟩ : ∃ t, y % 3 = t := ⟨_, rfl⟩
   have HP2 : Hid (Calls Tryz.prog 13 #[.int .i64 y, .int .i64 3] wr fun e w'' => e = .returned (.int .i64 t) /\ wr = w'') := lh (by
    have h1 := HPK.out 3 (by decide) (by decide) y wr (by omega) (by omega)
    rw [show y % ((3 : Nat) : Int) = t by omega] at h1
    exact h1)
   rw [ht] at bC
   have iA : 0 <= t /\ t < 3 := by omega
   have HO := lh ho
   have HFR := lh (And.intro bY j8)
   have HSN := lh bC
   clear ho bY j8 bC ht HPK
   go_wp2_with fail
   refine (HP1.out _).mono ?_
   rintro e w1 ⟨rfl, rfl⟩
   go_wp2_with fail
   refine HP2.out.mono ?_
   rintro e w1 ⟨rfl, rfl⟩
   go_wp2_with (at_builtin; refine Joi (f := zv) Tryz.eltZ1 rfl (.tmp 30) (.tmp 37) rfl wr _ (Joq cols k) (t + 1) (.int .i64 (t + 1)) rfl rfl HO.out (by simp [Act.eval]) rfl (by rw [Jow]; unfold maxLen; omega) (by rw [Jow]; omega) ?_; intro v' w2 eN eO)
   have bD := HFR.out.2.trans (eO.below HFR.out.2.size HFR.out.1)
   have cO := eO.fresh HFR.out.2.size HFR.out.1
   rw [<- HSN.out] at eN
   exact ⟨⟨k + 1, by omega, by go_num, eN, cO, bD⟩, by simp [intOf]; omega⟩
  as_aux_lemma =>
  obtain rfl : k = N := by omega
  have k1 : ¬ (k : Int) < (k : Int) := by omega
  rw [HN.out.2.2] at ho
  have cP : (Jon cols).length = k := by rw [<- HN.out.2.2, Jow]
  have HWL := lh cP
  obtain ⟨AW, cW, hv, -⟩ := ho.form
  rw [cP] at hv
  subst hv
  clear cP
  have HO := lh ho
  have HFR := lh (And.intro bY j8)
  clear ho bY j8
  obtain ⟨t4, eP⟩ : ∃ t4, smooth % 4 = t4 := ⟨_, rfl⟩
  obtain ⟨sq, eQ⟩ : ∃ sq, smooth.tdiv 4 = sq := ⟨_, rfl⟩
  have bE := (Jph HI.out.2.2.1).2
  rw [eQ] at bE
  obtain ⟨t5, eR⟩ : ∃ t5, sq % 3 = t5 := ⟨_, rfl⟩
  have iB := Jfv (x := sq) (by omega) (by omega)
  have iC : (0 <= t4 /\ t4 < 4) /\ 0 <= t5 /\ t5 < 3 := by omega
  obtain ⟨q, hq⟩ : ∃ q, Rat.divInt (t4 + 1) (t5 + 1) = q := ⟨_, rfl⟩
  have cQ : Jo1 classes cols smooth = Uw NC (Jon cols) q := by
   unfold Jo1
   rw [show (classes % 3).toNat + 1 = NC by have := HN.out.2.1; omega, eQ, eP, eR, <- Rat.divInt_eq_div, hq]
  have eS : Jp6 (NC : Int) (Jon cols) q = Uw NC (Jon cols) q := Jp5 (by
   have h1 := (Joz classes cols smooth).ok
   rw [cQ, Kv, Yf] at h1
   have h2 := h1.1.1
   simpa [Uw] using h2)
  have HPC : Hid (∀ w', Calls Tryz.prog 13 #[.int .i64 classes, .int .i64 3] w' fun e w'' => e = .returned (.int .i64 ((NC : Int) - 1)) /\ w' = w'') := lh fun w' => by
   have h1 := HPK.out 3 (by decide) (by decide) classes w' HI.out.1.1 HI.out.1.2
   rw [show classes % ((3 : Nat) : Int) = (NC : Int) - 1 by have := HN.out.2.1; omega] at h1
   exact h1
  have HPS : Hid (∀ w', Calls Tryz.prog 13 #[.int .i64 smooth, .int .i64 4] w' fun e w'' => e = .returned (.int .i64 t4) /\ w' = w'') := lh fun w' => by
   have h1 := HPK.out 4 (by decide) (by decide) smooth w' HI.out.2.2.1.1 HI.out.2.2.1.2
   rw [show smooth % ((4 : Nat) : Int) = t4 by omega] at h1
   exact h1
  have HPT : Hid (∀ w', Calls Tryz.prog 13 #[.int .i64 sq, .int .i64 3] w' fun e w'' => e = .returned (.int .i64 t5) /\ w' = w'') := lh fun w' => by
   have h1 := HPK.out 3 (by decide) (by decide) sq w' (by omega) (by omega)
   rw [show sq % ((3 : Nat) : Int) = t5 by omega] at h1
   exact h1
  have HOV : Hid (∀ w', Calls Tryz.prog 47 #[.int .i64 (t4 + 1), .int .i64 (t5 + 1)] w' (Jmv q w')) := lh fun w' => by
   have h1 := Jk0 (t4 + 1) (t5 + 1) w' (by omega) (by omega) (by omega) (by omega) (by omega)
   rw [hq] at h1
   exact h1
  have q2 : (NC : Int) - 1 + 1 = NC := by omega
  have HST := lh (And.intro cQ eS)
  clear eP eR hq cQ eS bE
  go_wp2_with fail
  refine (HP1.out _).mono ?_
  rintro e w1 ⟨rfl, rfl⟩
  go_upto_region 6 with fail
  go_wp2_with fail
  refine (HPC.out _).mono ?_
  rintro e w1 ⟨rfl, rfl⟩
  go_wp2_with fail
  refine (HPS.out _).mono ?_
  rintro e w1 ⟨rfl, rfl⟩
  go_wp2_with fail
  refine (HPT.out _).mono ?_
  rintro e w1 ⟨rfl, rfl⟩
  go_wp2_with fail
  refine (HOV.out _).mono ?_
  rintro e w5 ⟨V, rfl, aU, j7⟩
  obtain ⟨ng, A7, l7, d7, A8, l8, d8, rfl⟩ := aU.shape
  have cR : ReadsI w5 w5.heap.size AW k (Jon cols) := rkindI.more (rkindI.below (NRow.readsI (NRow.of HO.out)) j7) j7.size
  have HNW := lh (Jqu (NC : Int) AW k cW (Jon cols) ng A7 A8 l7 d7 l8 d8 w5.heap.size q w5 cR zd (by omega) (fun x hx => by have := Jou hx; omega))
  have HB5 := lh (HFR.out.2.trans (j7.mono HFR.out.2.size))
  have HIQ := lh aU
  have HRW := lh cR
  clear j7 aU cR HPC HPS HPT HOV HP1
  rw [HST.out.2] at HNW
  go_wp2_with fail
  refine HNW.out.mono ?_
  rintro e w6 ⟨v, rfl, ⟨⟨A1, n1, c1⟩, ⟨A2, n2, c2⟩, ⟨A3, n3, c3⟩, F, G, Hh, rfl, ho⟩, aD⟩
  simp only [SW.v] at *
  go_upto_region 7 with fail
  have b17 := Blk.new w6 31 #[.bool ng, .slice A7 l7 d7, .slice A8 l8 d8, .slice A1 n1 c1, .slice A2 n2 c2, .slice A3 n3 c3]
  have q9 := Ja aD (Jb w6 (.cells #[.bool ng, .slice A7 l7 d7, .slice A8 l8 d8, .slice A1 n1 c1, .slice A2 n2 c2, .slice A3 n3 c3] 31))
  have bA := ho.next (Jb w6 (.cells #[.bool ng, .slice A7 l7 d7, .slice A8 l8 d8, .slice A1 n1 c1, .slice A2 n2 c2, .slice A3 n3 c3] 31))
  generalize w6.alloc (.cells #[.bool ng, .slice A7 l7 d7, .slice A8 l8 d8, .slice A1 n1 c1, .slice A2 n2 c2, .slice A3 n3 c3] 31) = w7 at *
  obtain ⟨o1, o2, o3⟩ := ho.old
  have cT : w5.heap.size <= w6.heap.size := aD.size
  generalize w6.heap.size = g at *
  have bF : DrS w5.heap.size g (.bool ng) (.slice A7 l7 d7) (.slice A8 l8 d8) (Uw NC (Jon cols) q) w7 := ⟨⟨A1, n1, c1⟩, ⟨A2, n2, c2⟩, ⟨A3, n3, c3⟩, F, G, Hh, b17, bA, fun e => by have := o1 _ e; omega, fun e => by have := o2 _ e; omega, fun e => by have := o3 _ e; omega⟩
  have HDI : Hid (DrI (Jon cols) q l M0 w5.heap.size g (.bool ng) (.slice A7 l7 d7) (.slice A8 l8 d8) w5 0 w7) := lh ⟨24, 0, _, by omega, by omega, by rw [<- HM.out.1]; unfold Jov; rw [HST.out.1], by rw [<- HST.out.1]; exact Joz classes cols smooth, by omega, rfl, rfl, bF, q9⟩
  clear q9 aD ho bA b17 bF o1 o2 o3 HNW HST HO HFR
  go_upto_block 2 with fail
  go_cut [18] (fun v wc => (∃ i : Int, v = .int .i64 i) /\ DrF (Jon cols) q M0 w5.heap.size g (.bool ng) (.slice A7 l7 d7) (.slice A8 l8 d8) w5 wc)
  case first =>
   go_wp2_with fail
   go_loopw [18] (fun p wr => ∃ i : Nat, p = .int .i64 (i : Int) /\ DrI (Jon cols) q l M0 w5.heap.size g (.bool ng) (.slice A7 l7 d7) (.slice A8 l8 d8) w5 i wr) (fun p _ => 1000 - (intOf p).toNat)
   case atStart => exact ⟨0, rfl, HDI.out⟩
   case round =>
    obtain ⟨i, rfl, f, nT, mm, fR, fS, bG, j6, cU, j9, y9, aI, j8⟩ := hrel
    clear HDI
    rename World => wr
    have j0 := @Jpk f mm l i
    rw [j9, HWL.out, HLN.out, bG] at j0
    by_cases aJ : i + k < n
    case neg =>
     have k2 : ¬ (i : Int) + (k : Int) < (n : Int) := by omega
     have e0 := j0 fun h => aJ h.1
     subst e0
     have HDF : Hid (DrF (Jon cols) q M0 w5.heap.size g (.bool ng) (.slice A7 l7 d7) (.slice A8 l8 d8) w5 wr) := lh ⟨nT, by omega, j6, j9, y9, aI, j8⟩
     clear j0 bG j6 j9 y9 aI j8
     go_wp2_with fail
     go_meet
     exact ⟨⟨_, rfl⟩, HDF.out⟩
    have k2 : (i : Int) + (k : Int) < (n : Int) := by omega
    by_cases aK : i < 24
    case neg =>
     have k3 : ¬ (i : Int) < 24 := by omega
     have e0 := j0 fun h => aK h.2
     subst e0
     have HDF : Hid (DrF (Jon cols) q M0 w5.heap.size g (.bool ng) (.slice A7 l7 d7) (.slice A8 l8 d8) w5 wr) := lh ⟨nT, by omega, j6, j9, y9, aI, j8⟩
     clear j0 bG j6 j9 y9 aI j8
     go_wp2_with fail
     go_meet
     exact ⟨⟨_, rfl⟩, HDF.out⟩
    have k3 : (i : Int) < 24 := by omega
    clear j0
    obtain ⟨f', rfl, aL, aM, aE⟩ := Jpl (l := l) j6 (by omega) (by rw [j9, HWL.out, HLN.out]; exact ⟨aJ, aK⟩) fS
    rw [j9] at aL aM aE
    rw [HWL.out] at aE
    obtain ⟨row, l6⟩ : ∃ row, Jkx (l.drop (i + 1)) (Jon cols) = row := ⟨_, rfl⟩
    obtain ⟨⟨A1, n1, c1⟩, ⟨A2, n2, c2⟩, ⟨A3, n3, c3⟩, F, G, Hh, bk, ho, bH⟩ := aI
    simp only [SW.v] at bk
    obtain ⟨ad, g5, o5, y, rfl, fT, fU, hy, b5⟩ := H.out.spot (k := i) (by omega)
    have eT : l.getD i 0 = y := by rw [List.getD_eq_getElem?_getD, hy]; rfl
    have cZ := (ho.read).seen.len
    have aN : mm.seen.length = n2 := ho.read.seen.len
    rw [eT, aN, l6] at aL aM aE
    have dA : 1 <= n2 /\ n2 <= 3 := by have := j6.classes; omega
    obtain ⟨cn, eU⟩ : ∃ cn : Nat, y % (n2 : Int) = (cn : Int) := ⟨(y % (n2 : Int)).toNat, by have := Int.emod_nonneg y (show (n2 : Int) ≠ 0 by omega); omega⟩
    rw [eU] at aL aM aE
    rw [Int.toNat_natCast] at aL aM aE
    obtain ⟨m', bI⟩ : ∃ m', Jn mm row cn 1 = m' := ⟨_, rfl⟩
    have aO : m'.words = Jon cols := by rw [<- bI]; exact j9
    have bJ : m'.smooth = q := by rw [<- bI]; exact y9
    rw [bI] at aL aM aE
    obtain ⟨A9, dB⟩ : ∃ A9, Jg4 (some ad) c (i + 1) 1 = A9 := ⟨_, rfl⟩
    obtain ⟨n9, dC⟩ : ∃ n9, n - (i + 1) = n9 := ⟨_, rfl⟩
    obtain ⟨c9, eV⟩ : ∃ c9, c - (i + 1) = c9 := ⟨_, rfl⟩
    have bK : ∀ w' : World, (Instr.slice 22 (.slice (some ad) n c) (some (.int .i64 ((i : Int) + 1))) none none).run Tryz.prog w' = .ok (.slice A9 n9 c9) w' := fun w' => by
     have := Ji0 (P := Tryz.prog) (Tryz.eltZ1).under (Tryz.eltZ1).info (some ad) n c .i64 ((i : Int) + 1) (by omega) (by omega) w'
     rw [show ((i : Int) + 1).toNat = i + 1 by omega, dB, dC, eV] at this
     exact this
    have p9 : Below w5.heap.size w5 wr := j8
    have bL : Below w.heap.size w wr := HBW.out.trans ((HB5.out.trans (j8.mono HB5.out.size)).mono HBW.out.size)
    have aF : ReadsI w5 w5.heap.size A9 n9 (l.drop (i + 1)) := by
     have h1 : Reads w B 1 (Jg4 (some ad) c (i + 1) 1) (n - (i + 1)) ((l.map zv).drop ((i + 1) * 1)) := Reads.cut H.out (show i + 1 <= n by omega) bX
     rw [dB, dC, Nat.mul_one] at h1
     have h2 := rkindI.below (show ReadsI w B A9 n9 (l.drop (i + 1)) by unfold ReadsI; rw [List.map_drop]; exact h1) ((HBW.out.trans (HB5.out.mono HBW.out.size)).mono HBB.out)
     exact rkindI.more h2 (nt HBB.out (HBW.out.trans (HB5.out.mono HBW.out.size)).size)
    have bM : ∀ w', Below wr.heap.size wr w' -> ∀ A6 c6, ReadsI w' w'.heap.size A6 k row -> Calls Tryz.prog 31 #[.agg #[.bool ng, .slice A7 l7 d7, .slice A8 l8 d8, .slice A1 n1 c1, .slice A2 n2 c2, .slice A3 n3 c3], .slice A6 k c6, .int .i64 (cn : Int)] w' fun e w'' => ∃ v, e = .returned v /\ (∃ u, v = .tuple #[u, .int .i64 0] /\ Jq3 w'.heap.size (.bool ng) (.slice A7 l7 d7) (.slice A8 l8 d8) (.slice A1 n1 c1) m' u w'') /\ Below w'.heap.size w' w'' := fun w' hb A6 c6 h6 => by
     refine (Jp3 ng A7 A8 l7 d7 l8 d8 A1 A2 A3 n1 c1 n2 c2 n3 c3 w'.heap.size mm A6 k c6 row cn w' (ho.next hb).read (by rw [y9]; exact (HIQ.out.below (j8.trans (hb.mono j8.size))).more (nt j8.size hb.size)) h6 zd (Za j6.ok) (by omega)).mono ?_
     rintro e w'' ⟨v, rfl, hv, fV⟩
     rw [aL] at hv
     exact ⟨v, rfl, Jqh hv, fV⟩
    have fW : n9 <= 9223372036854775807 := by omega
    have iD : IntKind.i64.wrap ((i : Int) + 1) = (i : Int) + 1 := IntWalk.i64_in _ (by omega)
    have HTE := lh bM
    have BK := lh bk
    have HBX := lh p9
    have HBY := lh bL
    have HCUT := lh aF
    have HGO := lh (And.intro bG (And.intro aE (And.intro aM (And.intro aO (And.intro bJ cU)))))
    have HOA := lh (And.intro ho bH)
    have HMW := lh (show mm.words = m'.words by rw [aO, j9])
    have k5 : (i : Int) < (n : Int) := by omega
    have iE : m'.seen.length = n2 /\ True := ⟨by rw [<- bI, Yt]; exact aN, trivial⟩
    clear bM bk p9 bL aF bG aE aM aO bJ cU ho bH dB dC eV aL j6 j9 y9 j8 cZ aN bI eT
    go_upto_region 10 with fail
    go_cut [19, 20] (fun v v20 wc => DrC wr.heap.size (.bool ng) (.slice A7 l7 d7) (.slice A8 l8 d8) (.slice A1 n1 c1) m' wr v v20 wc)
    case first =>
     refine Je0 (DrR wr (.bool ng) (.slice A7 l7 d7) (.slice A8 l8 d8) (.slice A1 n1 c1) k row m' (fun j => ([some (.agg #[.bool ng, .slice A7 l7 d7, .slice A8 l8 d8, .slice A1 n1 c1, .slice A2 n2 c2, .slice A3 n3 c3]), some (.slice (some ad) n c), some (.int .i64 (i : Int)), some (.int .i64 ((i : Int) + 1)), some (.slice A9 n9 c9), some (.slice AW k cW), none, some (.slice (some ad) n c), some (.int .i64 (i : Int)), some (.pointer (some (ad.add i))), some (.int .i64 y), some (.pointer (some ⟨g, 4, none⟩)), some (.slice A2 n2 c2), some (.int .i64 (n2 : Int)), some (.int .i64 (cn : Int)), none, none, none, none, none, none, none] : List (Option Value)).getD j none)) (by kernel_rfl) (by kernel_rfl) (by kernel_rfl) ?_ ?_ [some 69, some 70, some 71, some 72, some 73, some 74, some 75, some 76, some 77, some 78, some 79, some 80, some 81, some 82, some 83, some 84, some 68, some 85, some 86, some 19, none, some 20] rfl ?_
     ·constructor <;> first | exact Jt _ | exact Fixed.start _ _ | (intro h; cases h)
     ·refine ⟨⟨⟨⟨⟨⟨⟨⟨⟨⟨⟨⟨⟨⟨⟨⟨⟨⟨⟨⟨⟨⟨trivial, ?_⟩, ?_⟩, ?_⟩, ?_⟩, ?_⟩, ?_⟩, ?_⟩, ?_⟩, ?_⟩, ?_⟩, ?_⟩, ?_⟩, ?_⟩, ?_⟩, ?_⟩, ?_⟩, ?_⟩, ?_⟩, ?_⟩, ?_⟩, ?_⟩, ?_⟩
      case refine_1 =>
       intro d val a' w' hS hF hd hp
       have e8 : a'.tmps[17]?.getD undef = .pointer (some ⟨g, 0, none⟩) := hS.arg 17 (by kernel_rfl)
       have b0' := BK.out.below hF.bel BK.out.lt
       obtain ⟨y0, y1, y2, y3, y4, y5⟩ := b0'.c6
       refine Xa (v := .agg #[.bool ng, .slice A7 l7 d7, .slice A8 l8 d8, .slice A1 n1 c1, .slice A2 n2 c2, .slice A3 n3 c3]) _ rfl rfl ?_ (show DrR _ _ _ _ _ _ _ _ _ _ _ _ from ⟨hF.bel, hF.fx.step (.inr rfl), hF.v6, hF.v15, hF.v16, hF.v17, hF.v18, hF.v19, hF.v20, hF.v21⟩)
       clear hF hS hd hp
       go_simp
      case refine_2 =>
       intro d val a' w' hS hF hd hp
       have e8 : a'.tmps[0]?.getD undef = .slice (some ad) n c := hS.arg 0 (by kernel_rfl)
       refine Xa (v := .slice (some ad) n c) _ rfl rfl ?_ (show DrR _ _ _ _ _ _ _ _ _ _ _ _ from ⟨hF.bel, hF.fx.step (.inr rfl), hF.v6, hF.v15, hF.v16, hF.v17, hF.v18, hF.v19, hF.v20, hF.v21⟩)
       clear hF hS hd hp
       go_simp
      case refine_3 =>
       intro d val a' w' hS hF hd hp
       have e8 : a'.tmps[18]?.getD undef = .int .i64 (i : Int) := hS.arg 18 (by kernel_rfl)
       refine Xa (v := .int .i64 (i : Int)) _ rfl rfl ?_ (show DrR _ _ _ _ _ _ _ _ _ _ _ _ from ⟨hF.bel, hF.fx.step (.inr rfl), hF.v6, hF.v15, hF.v16, hF.v17, hF.v18, hF.v19, hF.v20, hF.v21⟩)
       clear hF hS hd hp
       go_simp
      case refine_4 =>
       intro d val a' w' hS hF hd hp
       have e1 : a'.tmps[71]?.getD undef = .int .i64 (i : Int) := (hS.res 2 71 (hp 2 (by kernel_rfl)) rfl (by kernel_rfl)).trans (hF.fx 2 _ rfl (hp 2 (by kernel_rfl)))
       refine Xa (v := .int .i64 ((i : Int) + 1)) _ rfl rfl ?_ (show DrR _ _ _ _ _ _ _ _ _ _ _ _ from ⟨hF.bel, hF.fx.step (.inr rfl), hF.v6, hF.v15, hF.v16, hF.v17, hF.v18, hF.v19, hF.v20, hF.v21⟩)
       clear hF hS hd hp
       go_simp
      case refine_5 =>
       intro d val a' w' hS hF hd hp
       have e1 : a'.tmps[70]?.getD undef = .slice (some ad) n c := (hS.res 1 70 (hp 1 (by kernel_rfl)) rfl (by kernel_rfl)).trans (hF.fx 1 _ rfl (hp 1 (by kernel_rfl)))
       have e2 : a'.tmps[72]?.getD undef = .int .i64 ((i : Int) + 1) := (hS.res 3 72 (hp 3 (by kernel_rfl)) rfl (by kernel_rfl)).trans (hF.fx 3 _ rfl (hp 3 (by kernel_rfl)))
       refine Xa (v := .slice A9 n9 c9) _ rfl rfl ?_ (show DrR _ _ _ _ _ _ _ _ _ _ _ _ from ⟨hF.bel, hF.fx.step (.inr rfl), hF.v6, hF.v15, hF.v16, hF.v17, hF.v18, hF.v19, hF.v20, hF.v21⟩)
       clear hF hS hd hp
       go_simp
      case refine_6 =>
       intro d val a' w' hS hF hd hp
       have e8 : a'.tmps[15]?.getD undef = .slice AW k cW := hS.arg 15 (by kernel_rfl)
       refine Xa (v := .slice AW k cW) _ rfl rfl ?_ (show DrR _ _ _ _ _ _ _ _ _ _ _ _ from ⟨hF.bel, hF.fx.step (.inr rfl), hF.v6, hF.v15, hF.v16, hF.v17, hF.v18, hF.v19, hF.v20, hF.v21⟩)
       clear hF hS hd hp
       go_simp
      case refine_7 =>
       intro d val a' w' hS hF hd hp
       have e1 : a'.tmps[73]?.getD undef = .slice A9 n9 c9 := (hS.res 4 73 (hp 4 (by kernel_rfl)) rfl (by kernel_rfl)).trans (hF.fx 4 _ rfl (hp 4 (by kernel_rfl)))
       have e2 : a'.tmps[74]?.getD undef = .slice AW k cW := (hS.res 5 74 (hp 5 (by kernel_rfl)) rfl (by kernel_rfl)).trans (hF.fx 5 _ rfl (hp 5 (by kernel_rfl)))
       have p9 := HBX.out.trans (hF.bel.mono HBX.out.size)
       refine Jjm (Ψ := fun v w'' => DrR wr _ _ _ _ _ _ _ _ (upI d 6) (Jf3 val 6 v) w'') _ rfl rfl (args := #[.slice A9 n9 c9, .slice AW k cW]) (w2 := w') (f := 25) ?_ ?_
       ·clear hF hS hd hp
        go_simp
       refine (Jpc A9 n9 c9 (l.drop (i + 1)) AW k cW (Jon cols) w5.heap.size w' (rkindI.below HCUT.out p9) (rkindI.below HRW.out p9) p9.size (by omega) (fun x hx => HL.out x (List.mem_of_mem_drop hx)) (by omega) (fun x hx => by have := Jou hx; omega)).mono ?_
       rintro e w2 ⟨v, rfl, aP, -, q8⟩
       have hG := hF.next q8
       rw [l6] at aP
       obtain ⟨A6, c6, bN, -⟩ := aP.form
       rw [show row.length = k by rw [<- l6, Jkw]; exact HWL.out] at bN
       subst bN
       exact ⟨_, rfl, ⟨hG.bel, hG.fx.step (.inl rfl), fun _ => ⟨A6, c6, rfl, fun _ => NRow.readsI (NRow.of aP)⟩, hG.v15, hG.v16, hG.v17, hG.v18, hG.v19, hG.v20, hG.v21⟩⟩
      case refine_8 =>
       intro d val a' w' hS hF hd hp
       have e8 : a'.tmps[0]?.getD undef = .slice (some ad) n c := hS.arg 0 (by kernel_rfl)
       refine Xa (v := .slice (some ad) n c) _ rfl rfl ?_ (show DrR _ _ _ _ _ _ _ _ _ _ _ _ from ⟨hF.bel, hF.fx.step (.inr rfl), hF.v6, hF.v15, hF.v16, hF.v17, hF.v18, hF.v19, hF.v20, hF.v21⟩)
       clear hF hS hd hp
       go_simp
      case refine_9 =>
       intro d val a' w' hS hF hd hp
       have e8 : a'.tmps[18]?.getD undef = .int .i64 (i : Int) := hS.arg 18 (by kernel_rfl)
       refine Xa (v := .int .i64 (i : Int)) _ rfl rfl ?_ (show DrR _ _ _ _ _ _ _ _ _ _ _ _ from ⟨hF.bel, hF.fx.step (.inr rfl), hF.v6, hF.v15, hF.v16, hF.v17, hF.v18, hF.v19, hF.v20, hF.v21⟩)
       clear hF hS hd hp
       go_simp
      case refine_10 =>
       intro d val a' w' hS hF hd hp
       have e1 : a'.tmps[76]?.getD undef = .slice (some ad) n c := (hS.res 7 76 (hp 7 (by kernel_rfl)) rfl (by kernel_rfl)).trans (hF.fx 7 _ rfl (hp 7 (by kernel_rfl)))
       have e2 : a'.tmps[77]?.getD undef = .int .i64 (i : Int) := (hS.res 8 77 (hp 8 (by kernel_rfl)) rfl (by kernel_rfl)).trans (hF.fx 8 _ rfl (hp 8 (by kernel_rfl)))
       refine Xa (v := .pointer (some (ad.add i))) _ rfl rfl ?_ (show DrR _ _ _ _ _ _ _ _ _ _ _ _ from ⟨hF.bel, hF.fx.step (.inr rfl), hF.v6, hF.v15, hF.v16, hF.v17, hF.v18, hF.v19, hF.v20, hF.v21⟩)
       clear hF hS hd hp
       go_simp
      case refine_11 =>
       intro d val a' w' hS hF hd hp
       have e1 : a'.tmps[78]?.getD undef = .pointer (some (ad.add i)) := (hS.res 9 78 (hp 9 (by kernel_rfl)) rfl (by kernel_rfl)).trans (hF.fx 9 _ rfl (hp 9 (by kernel_rfl)))
       rw [fT] at e1
       have j7 := b5.below (HBY.out.trans (hF.bel.mono HBY.out.size)) (Nat.lt_of_lt_of_le fU HBB.out)
       have aD := j7.1
       refine Xa (v := .int .i64 y) _ rfl rfl ?_ (show DrR _ _ _ _ _ _ _ _ _ _ _ _ from ⟨hF.bel, hF.fx.step (.inr rfl), hF.v6, hF.v15, hF.v16, hF.v17, hF.v18, hF.v19, hF.v20, hF.v21⟩)
       clear hF hS hd hp
       go_simp
      case refine_12 =>
       intro d val a' w' hS hF hd hp
       have e8 : a'.tmps[17]?.getD undef = .pointer (some ⟨g, 0, none⟩) := hS.arg 17 (by kernel_rfl)
       refine Xa (v := .pointer (some ⟨g, 4, none⟩)) _ rfl rfl ?_ (show DrR _ _ _ _ _ _ _ _ _ _ _ _ from ⟨hF.bel, hF.fx.step (.inr rfl), hF.v6, hF.v15, hF.v16, hF.v17, hF.v18, hF.v19, hF.v20, hF.v21⟩)
       clear hF hS hd hp
       go_simp
      case refine_13 =>
       intro d val a' w' hS hF hd hp
       have e1 : a'.tmps[80]?.getD undef = .pointer (some ⟨g, 4, none⟩) := (hS.res 11 80 (hp 11 (by kernel_rfl)) rfl (by kernel_rfl)).trans (hF.fx 11 _ rfl (hp 11 (by kernel_rfl)))
       have b0' := BK.out.below hF.bel BK.out.lt
       obtain ⟨y0, y1, y2, y3, y4, y5⟩ := b0'.c6
       refine Xa (v := .slice A2 n2 c2) _ rfl rfl ?_ (show DrR _ _ _ _ _ _ _ _ _ _ _ _ from ⟨hF.bel, hF.fx.step (.inr rfl), hF.v6, hF.v15, hF.v16, hF.v17, hF.v18, hF.v19, hF.v20, hF.v21⟩)
       clear hF hS hd hp
       go_simp
      case refine_14 =>
       intro d val a' w' hS hF hd hp
       have e1 : a'.tmps[81]?.getD undef = .slice A2 n2 c2 := (hS.res 12 81 (hp 12 (by kernel_rfl)) rfl (by kernel_rfl)).trans (hF.fx 12 _ rfl (hp 12 (by kernel_rfl)))
       refine Xa (v := .int .i64 (n2 : Int)) _ rfl rfl ?_ (show DrR _ _ _ _ _ _ _ _ _ _ _ _ from ⟨hF.bel, hF.fx.step (.inr rfl), hF.v6, hF.v15, hF.v16, hF.v17, hF.v18, hF.v19, hF.v20, hF.v21⟩)
       clear hF hS hd hp
       go_simp
      case refine_15 =>
       intro d val a' w' hS hF hd hp
       have e1 : a'.tmps[79]?.getD undef = .int .i64 y := (hS.res 10 79 (hp 10 (by kernel_rfl)) rfl (by kernel_rfl)).trans (hF.fx 10 _ rfl (hp 10 (by kernel_rfl)))
       have e2 : a'.tmps[82]?.getD undef = .int .i64 (n2 : Int) := (hS.res 13 82 (hp 13 (by kernel_rfl)) rfl (by kernel_rfl)).trans (hF.fx 13 _ rfl (hp 13 (by kernel_rfl)))
       refine Jjm (Ψ := fun v w'' => DrR wr _ _ _ _ _ _ _ _ (upI d 14) (Jf3 val 14 v) w'') _ rfl rfl (args := #[.int .i64 y, .int .i64 (n2 : Int)]) (w2 := w') (f := 13) ?_ ?_
       ·clear hF hS hd hp
        go_simp
       refine (HPK.out n2 dA.1 (by omega) y w' (HL.out y (List.mem_of_getElem? hy)).1 (HL.out y (List.mem_of_getElem? hy)).2).mono ?_
       rintro e w2 ⟨rfl, rfl⟩
       rw [eU]
       exact ⟨_, rfl, ⟨hF.bel, hF.fx.step (.inr rfl), hF.v6, hF.v15, hF.v16, hF.v17, hF.v18, hF.v19, hF.v20, hF.v21⟩⟩
      case refine_16 =>
       intro d val a' w' hS hF hd hp
       have e1 : a'.tmps[69]?.getD undef = .agg #[.bool ng, .slice A7 l7 d7, .slice A8 l8 d8, .slice A1 n1 c1, .slice A2 n2 c2, .slice A3 n3 c3] := (hS.res 0 69 (hp 0 (by kernel_rfl)) rfl (by kernel_rfl)).trans (hF.fx 0 _ rfl (hp 0 (by kernel_rfl)))
       have e3 : a'.tmps[83]?.getD undef = .int .i64 (cn : Int) := (hS.res 14 83 (hp 14 (by kernel_rfl)) rfl (by kernel_rfl)).trans (hF.fx 14 _ rfl (hp 14 (by kernel_rfl)))
       have e2 := hS.res 6 75 (hp 6 (by kernel_rfl)) rfl (by kernel_rfl)
       obtain ⟨A6, c6, e6, h6⟩ := hF.v6 (hp 6 (by kernel_rfl))
       rw [e6] at e2
       have h6 := h6 hd
       refine Jjm (Ψ := fun v w'' => DrR wr _ _ _ _ _ _ _ _ (upI d 15) (Jf3 val 15 v) w'') _ rfl rfl (args := #[.agg #[.bool ng, .slice A7 l7 d7, .slice A8 l8 d8, .slice A1 n1 c1, .slice A2 n2 c2, .slice A3 n3 c3], .slice A6 k c6, .int .i64 (cn : Int)]) (w2 := w') (f := 31) ?_ ?_
       ·clear hF hS hd hp
        go_simp
       refine (HTE.out w' hF.bel A6 c6 h6).mono ?_
       rintro e w2 ⟨v, rfl, ⟨u, rfl, S, C, G', H', rfl, hs, bZ, s9, aQ⟩, q8⟩
       have hG := hF.next q8
       have aR := hF.bel.size
       refine ⟨_, rfl, ⟨hG.bel, hG.fx.step (.inl rfl), fun h => (hG.v6 h).imp fun A h => h.imp fun c h => ⟨h.1, fun h' => Bool.noConfusion (show true = false from h')⟩, fun _ => ⟨_, _, _, _, _, _, rfl, by simp [Value.oneCell', SW.v], S, C, G', H', rfl, hs, bZ, fun x hx => ⟨nt aR (s9 x hx).1, (s9 x hx).2⟩, fun x hx => nt aR (aQ x hx), fun x hx => ?_⟩, fun h => absurd ((hF.v16 h).1) (by rw [hd]; decide), fun h => absurd ((hF.v17 h).1) (by rw [hd]; decide), fun h => absurd ((hF.v18 h).1) (by rw [hd]; decide), hG.v19, hG.v20, hG.v21⟩⟩
       obtain ⟨g', z0, z1, z2, z3, z4, z5, e11, fX, aX, -⟩ := hF.v19 hx.1
       have e12 := Jps (e11.symm.trans hx.2)
       subst e12
       have iF := aX.lt
       exact ⟨fun e => by have := (s9 _ e).1; omega, fun e => by have := aQ _ e; omega⟩
      case refine_17 =>
       intro d val a' w' hS hF hd hp
       have e1 := hS.res 15 84 (hp 15 (by kernel_rfl)) rfl (by kernel_rfl)
       have h6 := hp 15 (by kernel_rfl)
       refine Xa (v := val 15) _ rfl rfl ?_ (show DrR _ _ _ _ _ _ _ _ _ _ _ _ from ⟨hF.bel, hF.fx.step (.inl rfl), hF.v6, hF.v15, fun _ => ⟨h6, rfl⟩, hF.v17, hF.v18, hF.v19, hF.v20, hF.v21⟩)
       clear hF hS hd hp
       go_simp
      case refine_18 =>
       intro d val a' w' hS hF hd hp
       have e1 := hS.res 16 68 (hp 16 (by kernel_rfl)) rfl (by kernel_rfl)
       obtain ⟨h6, h7⟩ := hF.v16 (hp 16 (by kernel_rfl))
       obtain ⟨q0, q1', q2', q3, q4, q5, e6, -⟩ := hF.v15 h6
       rw [h7, e6] at e1
       refine Xa (v := .agg #[q0, q1', q2', q3, q4, q5]) _ rfl rfl ?_ (show DrR _ _ _ _ _ _ _ _ _ _ _ _ from ⟨hF.bel, hF.fx.step (.inl rfl), hF.v6, hF.v15, hF.v16, fun _ => ⟨h6, fun u y (e : val 15 = _) => by rw [e6] at e; injection e with e; exact (Jq6 e).1⟩, hF.v18, fun h => (hF.v19 h).imp fun g h => h.imp fun y0 h => h.imp fun y1 h => h.imp fun y2 h => h.imp fun y3 h => h.imp fun y4 h => h.imp fun y5 h => ⟨h.1, h.2.1, h.2.2.1, fun h' => absurd (h.2.2.2 h').1 (by rw [hd]; decide)⟩, hF.v20, hF.v21⟩)
       clear hF hS hd hp
       go_simp
      case refine_19 =>
       intro d val a' w' hS hF hd hp
       have e1 := hS.res 16 68 (hp 16 (by kernel_rfl)) rfl (by kernel_rfl)
       obtain ⟨h6, h7⟩ := hF.v16 (hp 16 (by kernel_rfl))
       obtain ⟨q0, q1', q2', q3, q4, q5, e6, -⟩ := hF.v15 h6
       rw [h7, e6] at e1
       refine Xa (v := .int .i64 0) _ rfl rfl ?_ (show DrR _ _ _ _ _ _ _ _ _ _ _ _ from ⟨hF.bel, hF.fx.step (.inl rfl), hF.v6, hF.v15, hF.v16, hF.v17, fun _ => ⟨h6, fun u y (e : val 15 = _) => by rw [e6] at e; injection e with e; exact (Jq6 e).2⟩, hF.v19, hF.v20, fun h => absurd ((hF.v21 h).1) (by rw [hd]; decide)⟩)
       clear hF hS hd hp
       go_simp
      case refine_20 =>
       intro d val a' w' hS hF hd hp
       have hG := hF.next (Jb w' (.cells #[.bool false, .slice none 0 0, .slice none 0 0, .slice none 0 0, .slice none 0 0, .slice none 0 0] 31))
       have aR := hF.bel.size
       refine Xa (v := .pointer (some ⟨w'.heap.size, 0, none⟩)) (w2 := w'.alloc (.cells #[.bool false, .slice none 0 0, .slice none 0 0, .slice none 0 0, .slice none 0 0, .slice none 0 0] 31)) _ rfl rfl ?_ (show DrR _ _ _ _ _ _ _ _ _ _ _ _ from ⟨hG.bel, hG.fx.step (.inl rfl), hG.v6, fun h => ?_, hG.v16, hG.v17, hG.v18, fun _ => ⟨_, _, _, _, _, _, _, rfl, aR, Blk.new _ _ _, fun h => absurd (hF.v20 h) (by rw [hd]; decide)⟩, fun _ => rfl, hG.v21⟩)
       ·clear hG hF hS hd hp
        go_simp
       obtain ⟨q0, q1', q2', q3, q4, q5, e6, o0, dD⟩ := hF.v15 h
       exact ⟨q0, q1', q2', q3, q4, q5, e6, o0, dD.next (Jb _ _) fun g hg => .inr (by rw [<- Jps (show Value.pointer (some ⟨w'.heap.size, 0, none⟩) = .pointer (some ⟨g, 0, none⟩) from hg.2)]; exact Nat.le_refl _)⟩
      case refine_21 =>
       intro d val a' w' hS hF hd hp
       obtain ⟨h6, h8⟩ := hF.v17 (hp 17 (by kernel_rfl))
       have aG := hp 19 (by kernel_rfl)
       obtain ⟨g', z0, z1, z2, z3, z4, z5, e11, s9, aX, -⟩ := hF.v19 aG
       obtain ⟨q0, q1', q2', q3, q4, q5, e6, o0, dD⟩ := hF.v15 h6
       have e8 := h8 _ _ e6
       exact Jde _ rfl rfl _ _ _ rfl rfl g' #[q0, q1', q2', q3, q4, q5] _ ((hS.got 19 19 aG rfl (Nat.le_of_ble_eq_true (by kernel_rfl))).trans e11) ((hS.got 17 85 (hp 17 (by kernel_rfl)) rfl (Nat.le_of_ble_eq_true (by kernel_rfl))).trans e8) _ aX (by kernel_rfl) rfl o0 fun w2 q8 eW => show DrR _ _ _ _ _ _ _ _ _ _ _ _ from ⟨hF.bel.trans (eW.below hF.bel.size s9), hF.fx.step (.inl rfl), fun h => (hF.v6 h).imp fun A h => h.imp fun c h => ⟨h.1, fun h' => absurd (show d 15 = false from h') (by rw [h6]; decide)⟩, fun h => ⟨q0, q1', q2', q3, q4, q5, e6, o0, dD.exc eW ⟨aG, e11⟩⟩, hF.v16, hF.v17, hF.v18, fun _ => ⟨g', _, _, _, _, _, _, e11, s9, q8, fun _ => ⟨hp 17 (by kernel_rfl), e8⟩⟩, fun _ => aG, hF.v21⟩
      case refine_22 =>
       intro d val a' w' hS hF hd hp
       have e1 := hS.res 18 86 (hp 18 (by kernel_rfl)) rfl (by kernel_rfl)
       have h9 := hp 18 (by kernel_rfl)
       refine Xa (v := val 18) _ rfl rfl ?_ (show DrR _ _ _ _ _ _ _ _ _ _ _ _ from ⟨hF.bel, hF.fx.step (.inl rfl), hF.v6, hF.v15, hF.v16, hF.v17, hF.v18, hF.v19, hF.v20, fun _ => ⟨h9, rfl⟩⟩)
       clear hF hS hd hp
       go_simp
     intro d val w' hF hd
     simp only [Exit.then, Jd7, Act.put, List.setIfInBounds_toArray, List.set_cons_succ, List.set_cons_zero]
     refine ‹∀ a' w', Met _ a' w' -> _› _ _ ?_
     go_meet
     exact hF.end_ hd
    case rest =>
     obtain ⟨g', S, C, G', H', rfl, rfl, bk', hs, bZ, s9, aQ, hb⟩ := hcut
     rename World => wc
     have bO := BK.out.lt
     have bkc := BK.out.below hb bO
     have hr := Js 3 zv
     have dE := hr.loc HOA.out.1.words hb.size fun x hx => hb.block x (hr.lt HOA.out.1.words hx)
     rw [HMW.out] at dE
     have dF := fun x (hx : F x) => hr.lt HOA.out.1.words hx
     have HX := lh (And.intro (show ∀ x, F x -> x ≠ g from fun x hx e => HOA.out.2.1 (by rw [<- e]; exact hx)) (And.intro (show ∀ x, G' x -> x ≠ g from fun x hx e => by have := (s9 x hx).1; omega) (show ∀ x, H' x -> x ≠ g from fun x hx e => by have := aQ x hx; omega)))
     have eX : OwB 3 22 65 w5.heap.size wc ⟨A1, n1, c1⟩ S C F G' H' m' := ⟨dE, hs, bZ, HOA.out.1.from1, fun x hx => nt HBX.out.size (s9 x hx).1, fun x hx => nt HBX.out.size (aQ x hx), fun x hx e => by have := dF x hx; have := (s9 x e).1; omega, fun x hx e => by have := dF x hx; have := aQ x e; omega, fun x hx => (s9 x hx).2⟩
     have HO' := lh eX
     have HBC := lh (HBX.out.trans (hb.mono HBX.out.size))
     have BKC := lh bkc
     obtain ⟨x0, x1, x2, x3, x4, x5⟩ := bk'.c6
     clear eX dE dF hs bZ s9 aQ hb bkc bk' hr HTE HPK bK
     go_wp2_with (refine Jr rfl _ (.tmp 17) (.tmp 89) rfl g #[.bool ng, .slice A7 l7 d7, .slice A8 l8 d8, .slice A1 n1 c1, .slice S.A S.n S.c, .slice C.A C.n C.c] _ rfl rfl _ BKC.out (by kernel_rfl) rfl (by simp [Value.oneCell']) ?_; intro w8 aA eY; have HX8 := lh eY; have HB8 := lh aA; clear eY aA x0 x1 x2 x3 x4 x5)
     have iG : (i : Int) + (k : Int) + 1 = ((i + k + 1 : Nat) : Int) := by omega
     have bP : DrI (Jon cols) q l M0 w5.heap.size g (.bool ng) (.slice A7 l7 d7) (.slice A8 l8 d8) w5 (i + k + 1) w8 := ⟨f', nT + 1, m', by omega, by omega, HGO.out.2.1.symm.trans HGO.out.1, HGO.out.2.2.1, by have := HGO.out.2.2.2.2.2; omega, HGO.out.2.2.2.1, HGO.out.2.2.2.2.1, ⟨⟨A1, n1, c1⟩, S, C, F, G', H', HB8.out, HO'.out.exc HX8.out (fun e => HX.out.1 g e rfl) (fun e => HX.out.2.1 g e rfl) (fun e => HX.out.2.2 g e rfl), fun e => HX.out.1 g e rfl, fun e => HX.out.2.1 g e rfl, fun e => HX.out.2.2 g e rfl⟩, HBC.out.trans (HX8.out.below HBC.out.size cT)⟩
     have HFIN := lh bP
     clear bP
     go_roundw
     case rel => exact ⟨i + k + 1, by go_num, HFIN.out⟩
     case measure => simp [intOf]; omega
  case rest =>
   obtain ⟨⟨iv, rfl⟩, nT, cU, j6, j9, y9, aI, j7⟩ := hcut
   rename World => wc
   obtain ⟨⟨A1, n1, c1⟩, ⟨A2, n2, c2⟩, ⟨A3, n3, c3⟩, F, G, Hh, bk, ho, bH⟩ := aI
   simp only [SW.v] at bk
   have eZ : n1 = k := by have h1 : M0.words.length = n1 := ho.read.words.len; rw [<- h1, j9]; exact HWL.out
   subst eZ
   have aN : M0.seen.length = n2 := ho.read.seen.len
   have dA : 1 <= n2 /\ n2 <= 3 := by have := j6.classes; omega
   obtain ⟨kk, dG⟩ : ∃ kk : Nat, at_ % (n2 : Int) = (kk : Int) := ⟨(at_ % (n2 : Int)).toNat, by have := Int.emod_nonneg at_ (show (n2 : Int) ≠ 0 by omega); omega⟩
   have fY : kk < n2 := by have := Int.emod_lt_of_pos at_ (show (0 : Int) < n2 by omega); omega
   obtain ⟨aq, fA⟩ : ∃ aq, at_.tdiv 3 = aq := ⟨_, rfl⟩
   have bQ := (Jph HI.out.2.2.2.2.1).1
   rw [fA] at bQ
   have iH := Jfv (x := aq) (by omega) (by omega)
   obtain ⟨cc, fB⟩ : ∃ cc : Nat, aq % (n1 : Int) = (cc : Int) := ⟨(aq % (n1 : Int)).toNat, by have := Int.emod_nonneg aq (show (n1 : Int) ≠ 0 by omega); omega⟩
   have fZ : cc < n1 := by have := Int.emod_lt_of_pos aq (show (0 : Int) < n1 by omega); omega
   obtain ⟨tb, gA⟩ : ∃ tb, by_ % 9 = tb := ⟨_, rfl⟩
   have gB : 0 <= tb /\ tb < 9 := by omega
   obtain ⟨wy, fC⟩ : ∃ wy, way % 14 = wy := ⟨_, rfl⟩
   have fD : 7 <= wy /\ wy < 14 := by omega
   have HP3 : Hid (∀ w', Calls Tryz.prog 13 #[.int .i64 at_, .int .i64 (n2 : Int)] w' fun e w'' => e = .returned (.int .i64 (kk : Int)) /\ w' = w'') := lh fun w' => by
    have h1 := HPK.out n2 (by omega) (by omega) at_ w' HI.out.2.2.2.2.1.1 HI.out.2.2.2.2.1.2
    rw [dG] at h1
    exact h1
   have HP4 : Hid (∀ w', Calls Tryz.prog 13 #[.int .i64 aq, .int .i64 (n1 : Int)] w' fun e w'' => e = .returned (.int .i64 (cc : Int)) /\ w' = w'') := lh fun w' => by
    have h1 := HPK.out n1 (by omega) (by omega) aq w' (by omega) (by omega)
    rw [fB] at h1
    exact h1
   have HP5 : Hid (∀ w', Calls Tryz.prog 13 #[.int .i64 by_, .int .i64 9] w' fun e w'' => e = .returned (.int .i64 tb) /\ w' = w'') := lh fun w' => by
    have h1 := HPK.out 9 (by decide) (by decide) by_ w' HI.out.2.2.2.2.2.1 HI.out.2.2.2.2.2.2
    rw [show by_ % ((9 : Nat) : Int) = tb by omega] at h1
    exact h1
   have HP6 : Hid (∀ w', Calls Tryz.prog 13 #[.int .i64 way, .int .i64 14] w' fun e w'' => e = .returned (.int .i64 wy) /\ w' = w'') := lh fun w' => by
    have h1 := HPK.out 14 (by decide) (by decide) way w' HI.out.2.2.2.1.1 HI.out.2.2.2.1.2
    rw [show way % ((14 : Nat) : Int) = wy by omega] at h1
    exact h1
   obtain ⟨bb, cJ⟩ : ∃ bb, tb - 2 = bb := ⟨_, rfl⟩
   have gD : -2 <= bb /\ bb <= 6 := by omega
   have iI := Jfv (x := bb) (by omega) (by omega)
   have aS : Hid (Jo6 M0 way at_ by_ = M1 /\ (at_ % (M0.seen.length : Int)).toNat = kk /\ ((at_.tdiv 3) % (M0.words.length : Int)).toNat = cc /\ by_ % 9 - 2 = bb /\ way % 14 = wy) := lh ⟨HM.out.2, by rw [aN]; omega, by rw [j9, HWL.out, fA]; omega, by omega, fC⟩
   have BK := lh bk
   have HO := lh (And.intro ho bH)
   have HDR := lh (And.intro j6 (And.intro j9 (And.intro y9 aN)))
   have HB6 := lh j7
   obtain ⟨x0, x1, x2, x3, x4, x5⟩ := bk.c6
   clear dG fB gA fC j6 j9 y9 aN ho bH j7 bk HPK bQ
   go_wp2_with fail
   refine (HP3.out _).mono ?_
   rintro e w1 ⟨rfl, rfl⟩
   go_wp2_with fail
   refine (HP4.out _).mono ?_
   rintro e w1 ⟨rfl, rfl⟩
   go_wp2_with fail
   refine (HP5.out _).mono ?_
   rintro e w1 ⟨rfl, rfl⟩
   go_wp2_with fail
   refine (HP6.out _).mono ?_
   rintro e w1 ⟨rfl, rfl⟩
   go_upto_block 4 with fail
   go_cut [17] (fun v wd => v = .pointer (some ⟨g, 0, none⟩) /\ DrQ g w.heap.size M1 wd /\ Below W.heap.size W wd)
   case first =>
    have aT : Jpi M0 wy kk cc bb = M1 := by rw [<- aS.out.1, Jpo, aS.out.2.1, aS.out.2.2.1, aS.out.2.2.2.1, aS.out.2.2.2.2]
    have HM1 := lh aT
    have fE : Below W.heap.size W wc := HB5.out.trans (HB6.out.mono HB5.out.size)
    have HBV := lh fE
    clear aT fE
    have t7 : ¬ (wy = 0 \/ wy = 1 \/ wy = 2 \/ wy = 3 \/ wy = 4 \/ wy = 5 \/ wy = 6) := by omega
    have e0 := HM1.out
    rw [Jo2 t7] at e0
    have HE := lh e0
    have p0 : (wy == 0) = false := by simp; omega
    have p1 : (wy == 1) = false := by simp; omega
    have p2 : (wy == 2) = false := by simp; omega
    have p3 : (wy == 3) = false := by simp; omega
    have p4 : (wy == 4) = false := by simp; omega
    have p5 : (wy == 5) = false := by simp; omega
    have p6 : (wy == 6) = false := by simp; omega
    have r0 : ¬ wy = 0 := by omega
    have r1 : ¬ wy = 1 := by omega
    have r2 : ¬ wy = 2 := by omega
    have r3 : ¬ wy = 3 := by omega
    have r4 : ¬ wy = 4 := by omega
    have r5 : ¬ wy = 5 := by omega
    have r6 : ¬ wy = 6 := by omega
    clear e0 t7 aS HM1
    go_wp2_with fail
    go_meet
    rw [<- HE.out]
    have b0c := B0.out.below HBV.out B0.out.lt
    have iJ : w.heap.size < w5.heap.size := Nat.lt_of_lt_of_le B0.out.lt HB5.out.size
    exact ⟨rfl, ⟨ng, A7, A8, l7, d7, l8, d8, ⟨A1, n1, c1⟩, ⟨A2, n2, c2⟩, ⟨A3, n3, c3⟩, BK.out, fun w' hx => ⟨by rw [HDR.out.2.2.1]; exact ((HIQ.out.below HB6.out).more HB6.out.size).excB b0c Jq1 hx, (HO.out.1.exc hx (fun e => by have := HO.out.1.from1 _ e; omega) (fun e => by have := HO.out.1.from2 _ e; omega) (fun e => by have := HO.out.1.from3 _ e; omega)).read⟩⟩, HBV.out⟩
   case rest =>
    obtain ⟨rfl, ⟨ng', A7', A8', l7', d7', l8', d8', W', S', C', bk, hq⟩, dH⟩ := hcut
    rename World => wd
    obtain ⟨y0, y1, y2, y3, y4, y5⟩ := bk.c6
    have BR := lh (B0.out.below dH B0.out.lt)
    have HQ := lh hq
    have HBD := lh (HBW.out.trans (dH.mono HBW.out.size))
    clear bk hq dH HP3 HP4 HP5 HP6 x0 x1 x2 x3 x4 x5 HDR HO BK HB6 HRW HIQ HB5 aS HI HL H HWL HN HM
    simp only [SW.v] at y3 y4 y5
    generalize hgR : w.heap.size = gR at BR HQ ⊢
    go_wp2_with (refine Jr rfl _ (.tmp 14) (.tmp 165) rfl gR #[.bool ng', .slice A7' l7' d7', .slice A8' l8' d8', .slice W'.A W'.n W'.c, .slice S'.A S'.n S'.c, .slice C'.A C'.n C'.c] _ rfl rfl _ BR.out (by kernel_rfl) rfl (by simp [Value.oneCell']) ?_; intro w7 q9 aZ; have HX7 := lh aZ; have HB7 := lh q9; clear aZ q9 y0 y1 y2 y3 y4 y5)
    obtain ⟨p0, p1, p2, p3, p4, p5⟩ := HB7.out.c6
    refine bodyPost_ret (v := .agg #[.bool ng', .slice A7' l7' d7', .slice A8' l8' d8', .slice W'.A W'.n W'.c, .slice S'.A S'.n S'.c, .slice C'.A C'.n C'.c]) (by simp [results, Tryz.results12, go_sem, p0, p1, p2, p3, p4, p5]) rfl ?_
    exact ⟨_, rfl, ⟨ng', A7', A8', l7', d7', l8', d8', W', S', C', rfl, (HQ.out w7 HX7.out).1, (HQ.out w7 HX7.out).2⟩, HBD.out.trans (HX7.out.below HBD.out.size (Nat.le_of_eq hgR))⟩
theorem Jqx (A : Option Addr) (n c B m : Nat) (l : List Rat) (w : World) (h : ReadsQ w B A n l) (hB : B <= w.heap.size) (hn : n <= 1000) (hm : m <= 100000000) (hl : ∀ x ∈ l, QS m x) (hT : Tab w) :
  Calls Tryz.prog 28 #[.slice A n c] w (Ret (qV (Jck l)) w) := by
 have bB := h.len
 have aR := QS.sum l hl
 go_enter Tryz.func28, Tryz.ntmps28
 go_wp2_with fail
 have b0 := (Blk.new w 41 #[.bool false, .int .u64 0, .string ⟨#[]⟩, .int .u64 0, .string ⟨#[]⟩]).alloc (.cells #[.bool false, .int .u64 0, .string ⟨#[]⟩, .int .u64 0, .string ⟨#[]⟩] 41)
 have b1 := Blk.new2 w (.cells #[.bool false, .int .u64 0, .string ⟨#[]⟩, .int .u64 0, .string ⟨#[]⟩] 41) 41 #[.bool false, .int .u64 0, .string ⟨#[]⟩, .int .u64 0, .string ⟨#[]⟩]
 have hW := Jo w (.cells #[.bool false, .int .u64 0, .string ⟨#[]⟩, .int .u64 0, .string ⟨#[]⟩] 41) (.cells #[.bool false, .int .u64 0, .string ⟨#[]⟩, .int .u64 0, .string ⟨#[]⟩] 41)
 generalize (w.alloc (.cells #[.bool false, .int .u64 0, .string ⟨#[]⟩, .int .u64 0, .string ⟨#[]⟩] 41)).alloc (.cells #[.bool false, .int .u64 0, .string ⟨#[]⟩, .int .u64 0, .string ⟨#[]⟩] 41) = W at *
 have HS := lh aR
 have HL := lh hl
 have HR := lh h
 have HT := lh hT
 have HLN := lh bB
 clear aR hl h hT bB
 go_loopw [4] (fun p wr => ∃ (k : Nat) (s : Rat), k <= n /\ p = .int .i64 (k : Int) /\ Hid (Jck (l.take k) = s) /\ Blk wr w.heap.size 41 #[.bool false, .int .u64 0, .string ⟨#[]⟩, .int .u64 0, .string ⟨#[]⟩] /\ Blk wr (w.heap.size + 1) 41 #[.bool (decide (s.num < 0)), .int .u64 (lo s.num.natAbs : Int), .string (mo s.num.natAbs), .int .u64 (lo ((qden s)) : Int), .string (mo ((qden s)))] /\ Below w.heap.size w wr) (fun p _ => n - (intOf p).toNat)
 case atStart => exact ⟨0, 0, by omega, rfl, lh rfl, b0, b1, hW⟩
 case round =>
  obtain ⟨k, s, hk, rfl, hs, b0, b1, hb⟩ := hrel
  rename World => wr
  by_cases eM : k < n
  ·have iK : (k : Int) < n := by omega
   obtain ⟨x, hx⟩ : ∃ x, l[k]? = some x := ⟨_, List.getElem?_eq_getElem (by have := HLN.out; omega)⟩
   obtain ⟨ad, g, o, rfl, hP, iL, b2⟩ := ReadsQ.at_ (HR.out.below (hb.mono hB)) hx
   have y8 : QS 137438953472 s := by
    rw [<- hs.out]
    refine (HS.out k).mono ?_
    have := Nat.mul_le_mul (show k <= 1000 by omega) (show m + 1 <= 100000001 by omega)
    omega
   have fF : QS 137438953472 x := (HL.out x (List.mem_of_getElem? hx)).mono (by omega)
   have dI := fun w (hT : Tab w) => Jcx s x w y8 fF hT
   have bR : Jck (l.take (k + 1)) = s + x := by rw [Jd1 l k x hx, hs.out]
   have HS' := lh bR
   unfold qV at dI
   have HAD := lh dI
   clear dI y8 fF bR hs hx
   generalize s + x = s' at *
   have tT := HT.out.next hb
   have ne1 : ¬ g = w.heap.size + 1 := by omega
   have ne2 : ¬ w.heap.size + 1 = g := by omega
   go_upto_region 5 with fail
   have c0 := b0.drew; have fG := c0.lt; obtain ⟨dJ, dK, dL, dM, dN⟩ := b1.c5; have c1 := b1.drew; have fH := c1.lt; obtain ⟨gE, gF, gG, gH, gI⟩ := b2.c5; have c2 := b2.drew; have fI := c2.lt; have hc := Jt wr; go_region_with (first | (go_at_call 41; (with_reducible refine (HAD.out _ (tT.next hc)).mono ?_); rintro e w1 ⟨rfl, aC⟩; have c0 := c0.below aC c0.lt; (try clear fG); have fG := c0.lt; (try clear dO dP dQ dR dS); obtain ⟨c1, dO, dP, dQ, dR, dS⟩ := c1.zc5 aC; (try clear fH); have fH := c1.lt; (try clear dT dU dV dW dX); obtain ⟨c2, dT, dU, dV, dW, dX⟩ := c2.zc5 aC; (try clear fI); have fI := c2.lt; have hc := Ja hc aC; have f0 := c1.frozen 0; have f1 := c1.frozen 1; have f2 := c1.frozen 2; have f3 := c1.frozen 3; have f4 := c1.frozen 4))
   all_goals
    go_wp2
    have e1 := ((((c1.set_ 0 (.bool (decide (s'.num < 0)))).set_ 1 (.int .u64 (lo s'.num.natAbs : Int))).set_ 2 (.string (mo s'.num.natAbs))).set_ 3 (.int .u64 (lo (qden s') : Int))).set_ 4 (.string (mo (qden s')))
    have e0 := ((((c0.far (p := ⟨w.heap.size + 1, 0, none⟩) (by simp) (.bool (decide (s'.num < 0)))).far (p := ⟨w.heap.size + 1, 1, none⟩) (by simp) (.int .u64 (lo s'.num.natAbs : Int))).far (p := ⟨w.heap.size + 1, 2, none⟩) (by simp) (.string (mo s'.num.natAbs))).far (p := ⟨w.heap.size + 1, 3, none⟩) (by simp) (.int .u64 (lo (qden s') : Int))).far (p := ⟨w.heap.size + 1, 4, none⟩) (by simp) (.string (mo (qden s')))
    exact ⟨⟨k + 1, s', by omega, by go_num, HS', e0, by simpa using e1, Uy (hb.trans (hc.mono hb.size)) (by omega) _ _ _ _ _⟩, by simp [intOf]; omega⟩
  obtain rfl : k = n := by omega
  have bR : Jck l = s := by rw [<- hs.out, List.take_of_length_le (by have := HLN.out; omega)]
  have HS2 := lh bR
  clear bR hs
  have dG : ¬ (k : Int) < (k : Int) := by omega
  obtain ⟨gJ, gK, gL, gM, gO, gP, gQ, gT, gU, gV, dY, dZ, eA, eB, eC⟩ := b0.f5
  obtain ⟨dJ, dK, dL, dM, dN⟩ := b1.c5
  go_wp2
  refine bodyPost_ret (v := .agg #[.bool (decide (s.num < 0)), .int .u64 (lo s.num.natAbs : Int), .string (mo s.num.natAbs), .int .u64 (lo ((qden s)) : Int), .string (mo ((qden s)))]) (by simp [results, Tryz.results28, go_sem, dY, dZ, eA, eB, eC]) rfl ?_
  exact ⟨by rw [HS2.out]; rfl, Uy hb (by omega) _ _ _ _ _⟩
theorem Jox (l : List Int) : ∀ (f : Nat) (m : BM) (i : Nat), (∃ n, DrawnB m n /\ n + f <= 1073741824) -> (Jop f m l i).smooth = m.smooth /\ (Jop f m l i).words = m.words
 | 0, m, i, _ => ⟨rfl, rfl⟩
 | f + 1, m, i, ⟨n, h, hn⟩ => by
  unfold Jop
  split
  ·obtain ⟨h1, h2⟩ := h.moved (h.rowOk (l.drop (i + 1))) (h.class_ (l.getD i 0)) (by omega)
   rw [h1, if_pos rfl]
   exact Jox l f _ _ ⟨n + 1, h2, by omega⟩
  exact ⟨rfl, rfl⟩
theorem Jqp (l : List Int) (classes cols smooth : Int) : QS 1000 (Jov l classes cols smooth).smooth := by
 have h := (Jox l 24 (Jo1 classes cols smooth) 0 ⟨0, Joz classes cols smooth, by omega⟩).1
 unfold Jov
 rw [h]
 show QS 1000 (((smooth % 4 + 1 : Int) : Rat) / (((smooth.tdiv 4) % 3 + 1 : Int) : Rat))
 rw [Rat.div_def]
 exact ((QS.cnt (k := 3) (by omega) (by omega) (by omega)).mul ((QS.cnt (k := 3) (by omega) (by omega) (by omega)).inv (by omega))).mono (by omega)
theorem Jpv (l : List Int) (classes cols smooth : Int) : LenB (Jov l classes cols smooth) := Za (Jpe l classes cols smooth).ok
theorem Jpn (m : BM) {way : Int} (a b : Int) (h : 7 <= way % 14) : Jo6 m way a b = m := by rw [Jpo]; exact Jo2 (by omega)
structure SumR (W : World) (m : BM) (n1 n2 : Nat) (row : List Int) (ch : List Rat) (FX : Nat -> Option Value) (d : Nat -> Bool) (val : Nat -> Value) (w : World) : Prop where
 bel : Below W.heap.size W w
 fx : Fixed FX d val
 v1 : d 1 = true -> ∃ (W' S C : SW), val 1 = .agg #[.bool (decide (m.smooth.num < 0)), .int .u64 (lo m.smooth.num.natAbs : Int), .string (mo m.smooth.num.natAbs), .int .u64 (lo ((qden m.smooth)) : Int), .string (mo ((qden m.smooth))), W'.v, S.v, C.v] /\ RdB w w.heap.size W' S C m
 v5 : d 5 = true -> ∃ A c, val 5 = .slice A n1 c /\ ReadsI w w.heap.size A n1 row
 v6 : d 6 = true -> ∃ g, val 6 = .tuple #[.slice (some ⟨g, 0, none⟩) n2 n2, .int .i64 0] /\ OwnQ w (.slice (some ⟨g, 0, none⟩) n2 n2) ch /\ g < w.heap.size
 v7 : d 7 = true -> d 6 = true /\ val 7 = val 6
 v8 : d 8 = true -> d 6 = true /\ ∀ u y, val 6 = .tuple #[u, y] -> val 8 = u
 v9 : d 9 = true -> d 6 = true /\ ∀ u y, val 6 = .tuple #[u, y] -> val 9 = y
 v10 : d 10 = true -> d 8 = true /\ val 10 = val 8
 v11 : d 11 = true -> d 9 = true /\ val 11 = val 9
theorem SumR.next {W w w' : World} {m : BM} {n1 n2 : Nat} {row : List Int} {ch : List Rat} {FX : Nat -> Option Value} {d : Nat -> Bool} {val : Nat -> Value} (h : SumR W m n1 n2 row ch FX d val w) (hb : Below w.heap.size w w') : SumR W m n1 n2 row ch FX d val w' where
 bel := h.bel.trans (hb.mono h.bel.size)
 fx := h.fx
 v1 := fun h1 => by
  obtain ⟨W', S, C, e, hr⟩ := h.v1 h1
  exact ⟨W', S, C, e, (hr.below hb).more hb.size⟩
 v5 := fun h1 => by
  obtain ⟨A, c, e, hr⟩ := h.v5 h1
  exact ⟨A, c, e, rkindI.more (rkindI.below hr hb) hb.size⟩
 v6 := fun h1 => by
  obtain ⟨g, e, hr, hg⟩ := h.v6 h1
  exact ⟨g, e, OwnW.next hr hb, Nat.lt_of_lt_of_le hg hb.size⟩
 v7 := h.v7
 v8 := h.v8
 v9 := h.v9
 v10 := h.v10
 v11 := h.v11
theorem Jq5 {a b u y : Value} (h : #[a, b] = #[u, y]) : a = u /\ b = y := by simpa using h
theorem Jpa (A : Option Addr) (n c : Nat) (l : List Int) (A' : Option Addr) (n' c' : Nat) (r : List Int) (classes cols smooth : Int) (w : World) (h : ReadsI w w.heap.size A n l) (bX : n <= c) (hc : c <= 9223372036854775807) (hl : ∀ x ∈ l, -9223372036854775808 <= x /\ x <= 9223372036854775807)
  (h' : ReadsI w w.heap.size A' n' r) (gW : n' <= 9223372036854775807) (fJ : ∀ x ∈ r, -9223372036854775808 <= x /\ x <= 9223372036854775807) (i1 : -9223372036854775808 <= classes /\ classes <= 9223372036854775807) (i2 : -9223372036854775808 <= cols /\ cols <= 9223372036854775807) (i3 : -9223372036854775808 <= smooth /\ smooth <= 9223372036854775807) (hT : Tab w) :
  Calls Tryz.prog 4 #[.slice A n c, .slice A' n' c', .int .i64 classes, .int .i64 cols, .int .i64 smooth] w (Ret (.bool true) w) := by
 have j6 := Jpt A n c l classes cols smooth 13 0 0 w.heap.size w h zd bX hc hl i1 i2 i3 (by decide) (by decide) (by decide) (by decide)
 rw [Jpn _ _ _ (by decide)] at j6
 have y8 := Jqp l classes cols smooth
 have aV := Jpe l classes cols smooth
 have eD := Jpv l classes cols smooth
 obtain ⟨m, hm⟩ : ∃ m, Jov l classes cols smooth = m := ⟨_, rfl⟩
 rw [hm] at j6 y8 aV eD
 obtain ⟨row, l6⟩ : ∃ row, Jkx r m.words = row := ⟨_, rfl⟩
 have eE := aV.rowOk r
 rw [l6] at eE
 obtain ⟨cA, aJ, aK, cB⟩ := Jpm (row := row) aV.ok eE aV.classes.1
 have cD := Jg7 cA y8
 obtain ⟨CH, eF⟩ : ∃ CH, Qo m row = CH := ⟨_, rfl⟩
 obtain ⟨ch, ce⟩ := CH
 rw [eF] at cA aJ aK cB cD
 simp only at cA aJ aK cB cD
 subst cA
 have HDR := lh j6
 have HQ := lh (And.intro y8 (And.intro aV (And.intro eD (And.intro eF l6))))
 have HC := lh (And.intro aJ (And.intro aK (And.intro cB cD)))
 have H' := lh (And.intro h' fJ)
 have HT := lh hT
 have HKN := lh (fun w hT => Jgy w hT)
 clear j6 y8 aV eD hm eE aJ aK cB cD h hl h' fJ hT i1 i2 i3 eF l6 bX hc
 go_enter Tryz.func4, Tryz.ntmps4
 go_wp2_with fail
 refine HDR.out.mono ?_
 rintro e w1 ⟨v, rfl, ⟨ng, A7, A8, l7, d7, l8, d8, ⟨X1, n1, c1⟩, ⟨X2, n2, c2⟩, ⟨X3, n3, c3⟩, rfl, aU, p8⟩, aH⟩
 simp only [SW.v]
 have aC : m.words.length = n1 := p8.words.len
 have cN : m.seen.length = n2 := p8.seen.len
 have HR := lh (And.intro aU p8)
 have HB1 := lh aH
 have HW := lh (And.intro aC cN)
 clear aU p8 aH aC cN HDR
 go_upto_region 2 with fail
 have b11 := Blk.new w1 31 #[.bool ng, .slice A7 l7 d7, .slice A8 l8 d8, .slice X1 n1 c1, .slice X2 n2 c2, .slice X3 n3 c3]
 have q8 := Jb w1 (.cells #[.bool ng, .slice A7 l7 d7, .slice A8 l8 d8, .slice X1 n1 c1, .slice X2 n2 c2, .slice X3 n3 c3] 31)
 generalize w1.alloc (.cells #[.bool ng, .slice A7 l7 d7, .slice A8 l8 d8, .slice X1 n1 c1, .slice X2 n2 c2, .slice X3 n3 c3] 31) = w2 at *
 have HB2 := lh q8
 have BK := lh b11
 have HBW := lh (Ja HB1.out q8)
 have bO := b11.lt
 have eZ : n1 <= 3 := by have := HQ.out.2.1.cols; have := HW.out.1; omega
 have dA : 1 <= n2 /\ n2 <= 3 := by have := HQ.out.2.1.classes; have := HW.out.2; omega
 clear q8 b11
 go_cut [12, 13] (fun v12 v13 wc => ∃ gq, v12 = .slice (some ⟨gq, 0, none⟩) n2 n2 /\ v13 = .int .i64 0 /\ OwnQ wc (.slice (some ⟨gq, 0, none⟩) n2 n2) ch /\ gq < wc.heap.size /\ Below w2.heap.size w2 wc)
 case first =>
  refine Je0 (SumR w2 m n1 n2 row ch (fun j => ([some (.agg #[.bool ng, .slice A7 l7 d7, .slice A8 l8 d8, .slice X1 n1 c1, .slice X2 n2 c2, .slice X3 n3 c3]), none, some (.slice A' n' c'), some (.pointer (some ⟨w1.heap.size, 3, none⟩)), some (.slice X1 n1 c1), none, none, none, none, none, none, none] : List (Option Value)).getD j none)) (by kernel_rfl) (by kernel_rfl) (by kernel_rfl) ?_ ?_ [some 21, some 22, some 23, some 24, some 25, some 26, some 27, some 20, some 28, some 29, some 12, some 13] rfl ?_
  ·constructor <;> first | exact Jt _ | exact Fixed.start _ _ | (intro h; cases h)
  ·refine ⟨⟨⟨⟨⟨⟨⟨⟨⟨⟨⟨⟨trivial, ?_⟩, ?_⟩, ?_⟩, ?_⟩, ?_⟩, ?_⟩, ?_⟩, ?_⟩, ?_⟩, ?_⟩, ?_⟩, ?_⟩
   case refine_1 =>
    intro d val a' w' hS hF hd hp
    have e8 : a'.tmps[11]?.getD undef = .pointer (some ⟨w1.heap.size, 0, none⟩) := hS.arg 11 (by kernel_rfl)
    have b0' := BK.out.below hF.bel bO
    obtain ⟨y0, y1, y2, y3, y4, y5⟩ := b0'.c6
    refine Xa (v := .agg #[.bool ng, .slice A7 l7 d7, .slice A8 l8 d8, .slice X1 n1 c1, .slice X2 n2 c2, .slice X3 n3 c3]) _ rfl rfl ?_ (show SumR _ _ _ _ _ _ _ _ _ _ from ⟨hF.bel, hF.fx.step (.inr rfl), hF.v1, hF.v5, hF.v6, hF.v7, hF.v8, hF.v9, hF.v10, hF.v11⟩)
    clear hF hS hd hp
    go_simp
   case refine_2 =>
    intro d val a' w' hS hF hd hp
    have e1 : a'.tmps[21]?.getD undef = .agg #[.bool ng, .slice A7 l7 d7, .slice A8 l8 d8, .slice X1 n1 c1, .slice X2 n2 c2, .slice X3 n3 c3] := (hS.res 0 21 (hp 0 (by kernel_rfl)) rfl (by kernel_rfl)).trans (hF.fx 0 _ rfl (hp 0 (by kernel_rfl)))
    have p9 := HB2.out.trans (hF.bel.mono HB2.out.size)
    refine Jjm (Ψ := fun v w'' => SumR w2 _ _ _ _ _ _ (upI d 1) (Jf3 val 1 v) w'') _ rfl rfl (args := #[.agg #[.bool ng, .slice A7 l7 d7, .slice A8 l8 d8, .slice X1 n1 c1, .slice X2 n2 c2, .slice X3 n3 c3]]) (w2 := w') (f := 21) ?_ ?_
    ·clear hF hS hd hp
     go_simp
    refine (Jqw ng A7 A8 l7 d7 l8 d8 X1 X2 X3 n1 c1 n2 c2 n3 c3 w1.heap.size m w' (HR.out.2.below p9) (HR.out.1.below p9) p9.size HQ.out.2.2.1 (HQ.out.1.mono (by omega)) (HT.out.next (HBW.out.trans (hF.bel.mono HBW.out.size)))).mono ?_
    rintro e w3 ⟨v, rfl, ⟨W', S, C, F1, G1, H1, rfl, ho⟩, o9⟩
    have hG := hF.next o9
    exact ⟨_, rfl, ⟨hG.bel, hG.fx.step (.inl rfl), fun _ => ⟨W', S, C, rfl, ho.read⟩, hG.v5, hG.v6, hG.v7, hG.v8, hG.v9, hG.v10, hG.v11⟩⟩
   case refine_3 =>
    intro d val a' w' hS hF hd hp
    have e8 : a'.tmps[1]?.getD undef = .slice A' n' c' := hS.arg 1 (by kernel_rfl)
    refine Xa (v := .slice A' n' c') _ rfl rfl ?_ (show SumR _ _ _ _ _ _ _ _ _ _ from ⟨hF.bel, hF.fx.step (.inr rfl), hF.v1, hF.v5, hF.v6, hF.v7, hF.v8, hF.v9, hF.v10, hF.v11⟩)
    clear hF hS hd hp
    go_simp
   case refine_4 =>
    intro d val a' w' hS hF hd hp
    have e8 : a'.tmps[11]?.getD undef = .pointer (some ⟨w1.heap.size, 0, none⟩) := hS.arg 11 (by kernel_rfl)
    refine Xa (v := .pointer (some ⟨w1.heap.size, 3, none⟩)) _ rfl rfl ?_ (show SumR _ _ _ _ _ _ _ _ _ _ from ⟨hF.bel, hF.fx.step (.inr rfl), hF.v1, hF.v5, hF.v6, hF.v7, hF.v8, hF.v9, hF.v10, hF.v11⟩)
    clear hF hS hd hp
    go_simp
   case refine_5 =>
    intro d val a' w' hS hF hd hp
    have e1 : a'.tmps[24]?.getD undef = .pointer (some ⟨w1.heap.size, 3, none⟩) := (hS.res 3 24 (hp 3 (by kernel_rfl)) rfl (by kernel_rfl)).trans (hF.fx 3 _ rfl (hp 3 (by kernel_rfl)))
    have b0' := BK.out.below hF.bel bO
    obtain ⟨y0, y1, y2, y3, y4, y5⟩ := b0'.c6
    refine Xa (v := .slice X1 n1 c1) _ rfl rfl ?_ (show SumR _ _ _ _ _ _ _ _ _ _ from ⟨hF.bel, hF.fx.step (.inr rfl), hF.v1, hF.v5, hF.v6, hF.v7, hF.v8, hF.v9, hF.v10, hF.v11⟩)
    clear hF hS hd hp
    go_simp
   case refine_6 =>
    intro d val a' w' hS hF hd hp
    have e1 : a'.tmps[23]?.getD undef = .slice A' n' c' := (hS.res 2 23 (hp 2 (by kernel_rfl)) rfl (by kernel_rfl)).trans (hF.fx 2 _ rfl (hp 2 (by kernel_rfl)))
    have e2 : a'.tmps[25]?.getD undef = .slice X1 n1 c1 := (hS.res 4 25 (hp 4 (by kernel_rfl)) rfl (by kernel_rfl)).trans (hF.fx 4 _ rfl (hp 4 (by kernel_rfl)))
    have p9 := HB2.out.trans (hF.bel.mono HB2.out.size)
    have bL := HBW.out.trans (hF.bel.mono HBW.out.size)
    refine Jjm (Ψ := fun v w'' => SumR w2 _ _ _ _ _ _ (upI d 5) (Jf3 val 5 v) w'') _ rfl rfl (args := #[.slice A' n' c', .slice X1 n1 c1]) (w2 := w') (f := 25) ?_ ?_
    ·clear hF hS hd hp
     go_simp
    refine (Jpc A' n' c' r X1 n1 c1 m.words w'.heap.size w' (rkindI.more (rkindI.below H'.out.1 bL) bL.size) (rkindI.more (rkindI.below HR.out.2.words p9) p9.size) zd gW H'.out.2 (by omega) (fun x hx => by have := HQ.out.2.1.words x hx; omega)).mono ?_
    rintro e w3 ⟨v, rfl, aP, -, o9⟩
    have hG := hF.next o9
    rw [HQ.out.2.2.2.2] at aP
    obtain ⟨A6, c6, bN, -⟩ := aP.form
    rw [show row.length = n1 by rw [<- HQ.out.2.2.2.2, Jkw]; exact HW.out.1] at bN
    subst bN
    exact ⟨_, rfl, ⟨hG.bel, hG.fx.step (.inl rfl), hG.v1, fun _ => ⟨A6, c6, rfl, NRow.readsI (NRow.of aP)⟩, hG.v6, hG.v7, hG.v8, hG.v9, hG.v10, hG.v11⟩⟩
   case refine_7 =>
    intro d val a' w' hS hF hd hp
    have e1 := hS.res 1 22 (hp 1 (by kernel_rfl)) rfl (by kernel_rfl)
    have e2 := hS.res 5 26 (hp 5 (by kernel_rfl)) rfl (by kernel_rfl)
    obtain ⟨⟨Y1, m1, t1⟩, ⟨Y2, m2, t2⟩, ⟨Y3, m3, t3⟩, e3, p8⟩ := hF.v1 (hp 1 (by kernel_rfl))
    obtain ⟨A6, c6, e6, gY⟩ := hF.v5 (hp 5 (by kernel_rfl))
    simp only [SW.v] at e3
    rw [e3] at e1
    rw [e6] at e2
    obtain rfl : m2 = n2 := by rw [<- HW.out.2]; exact p8.seen.len.symm
    refine Jjm (Ψ := fun v w'' => SumR w2 _ _ _ _ _ _ (upI d 6) (Jf3 val 6 v) w'') _ rfl rfl (args := #[.agg #[.bool (decide (m.smooth.num < 0)), .int .u64 (lo m.smooth.num.natAbs : Int), .string (mo m.smooth.num.natAbs), .int .u64 (lo ((qden m.smooth)) : Int), .string (mo ((qden m.smooth))), .slice Y1 m1 t1, .slice Y2 m2 t2, .slice Y3 m3 t3], .slice A6 n1 c6]) (w2 := w') (f := 24) ?_ ?_
    ·clear hF hS hd hp
     go_simp
    refine (Vu Y1 Y2 Y3 m1 t1 m2 t2 m3 t3 w'.heap.size m A6 n1 c6 row w' p8 gY zd HQ.out.2.2.1 (by omega) HQ.out.1 (HT.out.next (HBW.out.trans (hF.bel.mono HBW.out.size)))).mono ?_
    rintro e w3 ⟨v, rfl, hv, o9⟩
    have hG := hF.next o9
    rw [HQ.out.2.2.2.1] at hv
    rcases hv with ⟨-, g6, rfl, -, cE⟩ | ⟨h0, -⟩
    ·exact ⟨_, rfl, ⟨hG.bel, hG.fx.step (.inl rfl), hG.v1, hG.v5, fun _ => ⟨g6, rfl, cE, Xw (OwnQ.at_ cE (k := 0) (x := ch[0]'(show 0 < ch.length by have := HC.out.1; have := HW.out.2; omega)) (List.getElem?_eq_getElem _)).c5.1⟩, fun h => absurd ((hG.v7 h).1) (by rw [hd]; decide), fun h => absurd ((hG.v8 h).1) (by rw [hd]; decide), fun h => absurd ((hG.v9 h).1) (by rw [hd]; decide), hG.v10, hG.v11⟩⟩
    exact absurd rfl h0
   case refine_8 =>
    intro d val a' w' hS hF hd hp
    have e1 := hS.res 6 27 (hp 6 (by kernel_rfl)) rfl (by kernel_rfl)
    have h6 := hp 6 (by kernel_rfl)
    refine Xa (v := val 6) _ rfl rfl ?_ (show SumR _ _ _ _ _ _ _ _ _ _ from ⟨hF.bel, hF.fx.step (.inl rfl), hF.v1, hF.v5, hF.v6, fun _ => ⟨h6, rfl⟩, hF.v8, hF.v9, hF.v10, hF.v11⟩)
    clear hF hS hd hp
    go_simp
   case refine_9 =>
    intro d val a' w' hS hF hd hp
    have e1 := hS.res 7 20 (hp 7 (by kernel_rfl)) rfl (by kernel_rfl)
    obtain ⟨h6, h7⟩ := hF.v7 (hp 7 (by kernel_rfl))
    obtain ⟨g6, e6, -⟩ := hF.v6 h6
    rw [h7, e6] at e1
    refine Xa (v := .slice (some ⟨g6, 0, none⟩) n2 n2) _ rfl rfl ?_ (show SumR _ _ _ _ _ _ _ _ _ _ from ⟨hF.bel, hF.fx.step (.inl rfl), hF.v1, hF.v5, hF.v6, hF.v7, fun _ => ⟨h6, fun u y (e : val 6 = _) => by rw [e6] at e; injection e with e; exact (Jq5 e).1⟩, hF.v9, fun h => absurd ((hF.v10 h).1) (by rw [hd]; decide), hF.v11⟩)
    clear hF hS hd hp
    go_simp
   case refine_10 =>
    intro d val a' w' hS hF hd hp
    have e1 := hS.res 7 20 (hp 7 (by kernel_rfl)) rfl (by kernel_rfl)
    obtain ⟨h6, h7⟩ := hF.v7 (hp 7 (by kernel_rfl))
    obtain ⟨g6, e6, -⟩ := hF.v6 h6
    rw [h7, e6] at e1
    refine Xa (v := .int .i64 0) _ rfl rfl ?_ (show SumR _ _ _ _ _ _ _ _ _ _ from ⟨hF.bel, hF.fx.step (.inl rfl), hF.v1, hF.v5, hF.v6, hF.v7, hF.v8, fun _ => ⟨h6, fun u y (e : val 6 = _) => by rw [e6] at e; injection e with e; exact (Jq5 e).2⟩, hF.v10, fun h => absurd ((hF.v11 h).1) (by rw [hd]; decide)⟩)
    clear hF hS hd hp
    go_simp
   case refine_11 =>
    intro d val a' w' hS hF hd hp
    have e1 := hS.res 8 28 (hp 8 (by kernel_rfl)) rfl (by kernel_rfl)
    have h9 := hp 8 (by kernel_rfl)
    refine Xa (v := val 8) _ rfl rfl ?_ (show SumR _ _ _ _ _ _ _ _ _ _ from ⟨hF.bel, hF.fx.step (.inl rfl), hF.v1, hF.v5, hF.v6, hF.v7, hF.v8, hF.v9, fun _ => ⟨h9, rfl⟩, hF.v11⟩)
    clear hF hS hd hp
    go_simp
   case refine_12 =>
    intro d val a' w' hS hF hd hp
    have e1 := hS.res 9 29 (hp 9 (by kernel_rfl)) rfl (by kernel_rfl)
    have h9 := hp 9 (by kernel_rfl)
    refine Xa (v := val 9) _ rfl rfl ?_ (show SumR _ _ _ _ _ _ _ _ _ _ from ⟨hF.bel, hF.fx.step (.inl rfl), hF.v1, hF.v5, hF.v6, hF.v7, hF.v8, hF.v9, hF.v10, fun _ => ⟨h9, rfl⟩⟩)
    clear hF hS hd hp
    go_simp
  intro d val w' hF hd
  simp only [Exit.then, Jd7, Act.put, List.setIfInBounds_toArray, List.set_cons_succ, List.set_cons_zero]
  refine ‹∀ a' w', Met _ a' w' -> _› _ _ ?_
  go_meet
  obtain ⟨g6, e6, cE, cT⟩ := hF.v6 (hd 6 (by decide))
  exact ⟨g6, (hF.v10 (hd 10 (by decide))).2.trans ((hF.v8 (hd 8 (by decide))).2 _ _ e6), (hF.v11 (hd 11 (by decide))).2.trans ((hF.v9 (hd 9 (by decide))).2 _ _ e6), cE, cT, hF.bel⟩
 case rest =>
  obtain ⟨gq, rfl, rfl, fK, fL, o9⟩ := hcut
  rename World => wc
  obtain ⟨y0, y1, y2, y3, y4, y5⟩ := (BK.out.below o9 bO).c6
  have q1 : ((n2 : Int) != (n2 : Int)) = false := by simp
  have q2 : ((n2 : Int) == (n2 : Int)) = true := by simp
  have HOQ := lh (And.intro fK fL)
  have HB3 := lh (HBW.out.trans (o9.mono HBW.out.size))
  clear fK fL o9
  go_wp2_with fail
  go_loopw [14] (fun p wr => ∃ k : Nat, k <= n2 /\ p = .int .i64 (k : Int) /\ Below wc.heap.size wc wr) (fun p _ => n2 - (intOf p).toNat)
  case atStart => exact ⟨0, by omega, rfl, Below.refl _ _⟩
  case round =>
   obtain ⟨k, hk, rfl, bS⟩ := hrel
   rename World => wr
   have HBR := lh bS
   by_cases eM : k < n2
   ·have k1 : (k : Int) < (n2 : Int) := by omega
    obtain ⟨x, hx⟩ : ∃ x, ch[k]? = some x := ⟨_, List.getElem?_eq_getElem (by have := HC.out.1; have := HW.out.2; omega)⟩
    have d0 := OwnQ.at_ (OwnW.next HOQ.out.1 bS) hx
    obtain ⟨z0, z1, z2, z3, z4⟩ := d0.c5
    have bT := HC.out.2.1 x (List.mem_of_getElem? hx)
    have eG := Vn x wr ((HC.out.2.2.2.2.2.2 x (List.mem_of_getElem? hx)).mono (by omega))
    have bE := Joa x
    generalize x.num.sign = sx at *
    have gZ : ¬ sx <= 0 := fun e => Rat.not_le.2 bT (bE.1 e)
    have q3 : decide (sx <= 0) = false := decide_eq_false gZ
    unfold qV at eG
    have HSG := lh eG
    clear eG bE bT hx bS d0 y0 y1 y2 y3 y4 y5
    go_wp2_with fail
    refine HSG.out.mono ?_
    rintro e w5 ⟨rfl, j7⟩
    have HB5 := lh (HBR.out.trans (j7.mono HBR.out.size))
    clear j7 z0 z1 z2 z3 z4
    go_wp2_with fail
    exact ⟨⟨k + 1, by omega, by go_num, HB5.out⟩, by simp [intOf]; omega⟩
   obtain rfl : k = n2 := by omega
   have k1 : ¬ (k : Int) < (k : Int) := by omega
   have HB5 := lh (HB3.out.trans (bS.mono HB3.out.size))
   clear bS y0 y1 y2 y3 y4 y5
   go_wp2_with fail
   refine (HKN.out _ (HT.out.next HB5.out)).mono ?_
   rintro e w6 ⟨rfl, aD⟩
   have HB6 := lh (HB5.out.trans (aD.mono HB5.out.size))
   have fM := OwnQ.reads_ (OwnW.next (OwnW.next HOQ.out.1 HBR.out) aD)
   have t8 := Jqx (some ⟨gq, 0, none⟩) k k w6.heap.size 1100000 ch w6 fM zd (by omega) (by omega) HC.out.2.2.2.2.2.2 (HT.out.next HB6.out)
   rw [show Jck ch = 1 from HC.out.2.2.1] at t8
   have o0 : (1 : Rat) = Rat.divInt 1 1 := by decide +kernel
   have cF := fun w' => Ji4 1 1 1 w' (by decide) (by decide) (by decide) (by decide) (by decide) o0 ((QS.cnt (k := 1) (n := 1) (by decide) (by decide) (by decide)).mono (by decide))
   obtain ⟨q1', aB⟩ : ∃ q1' : Rat, (1 : Rat) = q1' := ⟨_, rfl⟩
   rw [aB] at t8
   rw [aB] at cF
   unfold qV at t8 cF
   have HSM := lh t8
   have HIS := lh cF
   clear t8 cF o0 aB fM aD
   go_wp2_with fail
   refine HSM.out.mono ?_
   rintro e w7 ⟨rfl, q9⟩
   have HB7 := lh (HB6.out.trans (q9.mono HB6.out.size))
   clear q9
   go_wp2_with fail
   refine (HIS.out _).mono ?_
   rintro e w8 ⟨rfl, aA⟩
   have HB8 := lh (HB7.out.trans (aA.mono HB7.out.size))
   clear aA
   go_wp2
   go_ret
   exact ⟨rfl, HB8.out⟩
