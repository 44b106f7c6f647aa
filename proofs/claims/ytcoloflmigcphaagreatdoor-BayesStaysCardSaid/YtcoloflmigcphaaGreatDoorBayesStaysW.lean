import Derived.Test.YtcoloflmigcphaaGreatDoorBayesC
import Derived.Test.YtcoloflmigcphaaGreatDoorHandRows
import Derived.Test.YtcoloflmigcphaaGreatDoorBayesY
namespace Go.Proofs.YtcoloflmigcphaaGreatDoor
set_option maxRecDepth 100000
set_option maxHeartbeats 8000000
open Go.RowKit
set_option linter.all false
theorem Jlf : LenB kn0 := Za Jj0
theorem Jle : LenB kn1 := Za Jjz
theorem Jaj (w : World) (x : Int) : ReadsI (w.alloc (.cells #[.int .i64 x] 3)) (w.alloc (.cells #[.int .i64 x] 3)).heap.size (some ⟨w.heap.size, 0, none⟩) 1 [x] := rkindI.more (Reads.one w (zv x) _) (by show w.heap.size + 1 <= (w.heap.push _).size; rw [Array.size_push]; exact Nat.le_refl _)
theorem Jnm : ∃ (m0 m1 : BM) (a b : Rat), Jdk 2 [2] 1 = (m0, 0) /\ Xg m0 [0] 0 = (m1, 0) /\ Qo m1 [0] = ([a, b], 0) /\ LenB m0 /\ LenB m1 /\ QS 1000 m0.smooth /\ QS 1000 m1.smooth /\ QS 1000 a /\ QS 1000 b /\ a = Rat.divInt 8 11 /\ b = Rat.divInt 3 11 :=
 ⟨kn0, kn1, _, _, Jnl, Jld, Jh6, Jlf, Jle, ⟨Nat.le_of_ble_eq_true (by kernel_rfl), Nat.le_of_ble_eq_true (by kernel_rfl)⟩, ⟨Nat.le_of_ble_eq_true (by kernel_rfl), Nat.le_of_ble_eq_true (by kernel_rfl)⟩, ⟨Nat.le_of_ble_eq_true (by kernel_rfl), Nat.le_of_ble_eq_true (by kernel_rfl)⟩, ⟨Nat.le_of_ble_eq_true (by kernel_rfl), Nat.le_of_ble_eq_true (by kernel_rfl)⟩, by decide +kernel, by decide +kernel⟩
theorem Jgy (w : World) (hT : Tab w) : Calls Tryz.prog 19 #[] w (Ret (.bool true) w) := by
 obtain ⟨m0, m1, a, b, h1, h2, h3, h4, h5, h6, h7, h8, h9, aG, eS⟩ := Jnm
 have dF := fun w => Vo 1 w (by decide) (by decide)
 obtain ⟨q1, dG⟩ : ∃ q1 : Rat, ((1 : Int) : Rat) = q1 := ⟨_, rfl⟩
 have bZ : (1 : Rat) = q1 := dG
 rw [bZ] at h1
 rw [dG] at dF
 have bS : QS 1099511627776 q1 := by rw [<- dG]; exact (QS.cnt (k := 1) (by decide) (by decide) (by decide)).mono (by decide)
 unfold qV at dF
 have HOF := lh dF
 have HNW : Hid (∀ (w : World) (X : Addr), ReadsI w w.heap.size (some X) 1 [2] -> Calls Tryz.prog 15 #[.int .i64 2, .slice (some X) 1 1, .agg #[.bool (decide (q1.num < 0)), .int .u64 (lo q1.num.natAbs : Int), .string (mo q1.num.natAbs), .int .u64 (lo ((qden q1)) : Int), .string (mo ((qden q1)))]] w fun e w' => ∃ u, e = .returned (.tuple #[u, .int .i64 0]) /\ ModB w.heap.size 1 2 2 m0 u w' /\ Below w.heap.size w w') := lh fun w X h => by
  refine (Vp 2 (some X) 1 1 w.heap.size [2] q1 w h zd (by omega) bS).mono ?_
  rintro e w' ⟨v, rfl, hv, hb⟩
  rw [h1] at hv
  rcases hv with ⟨-, u, rfl, hm⟩ | ⟨h0, -⟩
  ·exact ⟨u, rfl, hm, hb⟩
  exact absurd rfl h0
 have HTE : Hid (∀ (w : World) (AW : Option Addr) (cW gS gC : Nat) (X : Addr), RdB w w.heap.size ⟨AW, 1, cW⟩ ⟨some ⟨gS, 0, none⟩, 2, 2⟩ ⟨some ⟨gC, 0, none⟩, 2, 2⟩ m0 -> ReadsI w w.heap.size (some X) 1 [0] -> Calls Tryz.prog 29 #[.agg #[.bool (decide (m0.smooth.num < 0)), .int .u64 (lo m0.smooth.num.natAbs : Int), .string (mo m0.smooth.num.natAbs), .int .u64 (lo ((qden m0.smooth)) : Int), .string (mo ((qden m0.smooth))), .slice AW 1 cW, .slice (some ⟨gS, 0, none⟩) 2 2, .slice (some ⟨gC, 0, none⟩) 2 2], .slice (some X) 1 1, .int .i64 0] w fun e w' => ∃ u, e = .returned (.tuple #[u, .int .i64 0]) /\ ModB w.heap.size 1 2 2 m1 u w' /\ Below w.heap.size w w') := lh fun w AW cW gS gC X h h' => by
  refine (Jb3 AW (some ⟨gS, 0, none⟩) (some ⟨gC, 0, none⟩) 1 cW 2 2 2 2 w.heap.size m0 (some X) 1 1 [0] 0 w h h' zd h4 (by omega) (h6.mono (by omega))).mono ?_
  rintro e w' ⟨v, rfl, hv, hb⟩
  rw [h2] at hv
  rcases hv with ⟨-, u, rfl, hm⟩ | ⟨h0, -⟩
  ·exact ⟨u, rfl, hm, hb⟩
  exact absurd rfl h0
 have HCH : Hid (∀ (w : World) (AW : Option Addr) (cW gS gC : Nat) (X : Addr), RdB w w.heap.size ⟨AW, 1, cW⟩ ⟨some ⟨gS, 0, none⟩, 2, 2⟩ ⟨some ⟨gC, 0, none⟩, 2, 2⟩ m1 -> ReadsI w w.heap.size (some X) 1 [0] -> Tab w -> Calls Tryz.prog 24 #[.agg #[.bool (decide (m1.smooth.num < 0)), .int .u64 (lo m1.smooth.num.natAbs : Int), .string (mo m1.smooth.num.natAbs), .int .u64 (lo ((qden m1.smooth)) : Int), .string (mo ((qden m1.smooth))), .slice AW 1 cW, .slice (some ⟨gS, 0, none⟩) 2 2, .slice (some ⟨gC, 0, none⟩) 2 2], .slice (some X) 1 1] w fun e w' => ∃ g, e = .returned (.tuple #[.slice (some ⟨g, 0, none⟩) 2 2, .int .i64 0]) /\ AtQ w' g 0 a /\ AtQ w' g 5 b /\ g < w'.heap.size /\ Below w.heap.size w w') := lh fun w AW cW gS gC X h h' hT => by
  refine (Vu AW (some ⟨gS, 0, none⟩) (some ⟨gC, 0, none⟩) 1 cW 2 2 2 2 w.heap.size m1 (some X) 1 1 [0] w h h' zd h5 (by omega) h7 hT).mono ?_
  rintro e w' ⟨v, rfl, hv, hb⟩
  rw [h3] at hv
  rcases hv with ⟨-, g, rfl, hg, ho⟩ | ⟨h0, -⟩
  ·have e0 := OwnQ.at_ ho (k := 0) rfl
   have e1 := OwnQ.at_ ho (k := 1) rfl
   exact ⟨g, rfl, e0, e1, Xw e0.c5.1, hb⟩
  exact absurd rfl h0
 have dO := fun w => Ji4 a 8 11 w (by omega) (by omega) (by omega) (by omega) (by omega) aG (h8.mono (by omega))
 have dP := fun w => Ji4 b 3 11 w (by omega) (by omega) (by omega) (by omega) (by omega) eS (h9.mono (by omega))
 unfold qV at dO dP
 have HI1 := lh dO
 have HI2 := lh dP
 have HT := lh hT
 clear dO dP hT dF h1 h2 h3 h4 h5 h6 h7 h8 h9 aG eS dG bZ bS
 go_enter Tryz.func19, Tryz.ntmps19
 go_wp2_with fail
 refine (HOF.out _).mono ?_
 rintro e w1 ⟨rfl, aA⟩
 have hr := rkindI.below (Jaj w 2) aA
 have HR := lh (rkindI.more hr aA.size)
 have HB1 := lh (Ja (Jb w (.cells #[.int .i64 2] 3)) aA)
 clear aA hr
 go_wp2_with fail
 refine (HNW.out w1 _ HR.out).mono ?_
 rintro e w2 ⟨u, rfl, ⟨AW, cW, gS, gC, F, G, H, rfl, ho⟩, j0⟩
 have HB2 := lh (Ja HB1.out j0)
 have HO := lh ho
 clear j0 ho HR HB1 HNW HOF
 go_upto_region 2 with fail
 have b0 := Blk.new w2 43 #[.bool (decide (m0.smooth.num < 0)), .int .u64 (lo m0.smooth.num.natAbs : Int), .string (mo m0.smooth.num.natAbs), .int .u64 (lo ((qden m0.smooth)) : Int), .string (mo ((qden m0.smooth))), .slice AW 1 cW, .slice (some ⟨gS, 0, none⟩) 2 2, .slice (some ⟨gC, 0, none⟩) 2 2]
 have j9 := Jb w2 (.cells #[.bool (decide (m0.smooth.num < 0)), .int .u64 (lo m0.smooth.num.natAbs : Int), .string (mo m0.smooth.num.natAbs), .int .u64 (lo ((qden m0.smooth)) : Int), .string (mo ((qden m0.smooth))), .slice AW 1 cW, .slice (some ⟨gS, 0, none⟩) 2 2, .slice (some ⟨gC, 0, none⟩) 2 2] 43)
 generalize w2.alloc (.cells #[.bool (decide (m0.smooth.num < 0)), .int .u64 (lo m0.smooth.num.natAbs : Int), .string (mo m0.smooth.num.natAbs), .int .u64 (lo ((qden m0.smooth)) : Int), .string (mo ((qden m0.smooth))), .slice AW 1 cW, .slice (some ⟨gS, 0, none⟩) 2 2, .slice (some ⟨gC, 0, none⟩) 2 2] 43) = w3 at *
 have aU : w.heap.size <= w2.heap.size := HB2.out.size
 have eT := HO.out.next j9
 have HB3 := lh (Ja HB2.out j9)
 generalize w2.heap.size = g at *
 have hr := Jaj w3 0
 have aR := Jb w3 (.cells #[.int .i64 0] 3)
 have aJ := (eT.next aR).read
 have b4 := b0.below aR b0.lt
 have HTE2 := lh (HTE.out _ AW cW gS gC _ aJ hr)
 have HB4 := lh (Ja HB3.out aR)
 have dH := b4.lt
 obtain ⟨x0, x1, x2, x3, x4, x5, x6, x7⟩ := b0.c8
 have B4 := lh (And.intro b4 dH)
 clear eT j9 hr aR aJ HTE HO HB2 HB3 b4 dH b0
 go_wp2_with fail
 refine HTE2.out.mono ?_
 rintro e w5 ⟨u, rfl, ⟨AW5, cW5, gS5, gC5, F5, G5, H5, rfl, j6⟩, aB⟩
 have HB5 := lh (Ja HB4.out aB)
 have B5 := lh (B4.out.1.below aB B4.out.2)
 have HN5 := lh (show ¬ F5 g /\ ¬ G5 g /\ ¬ H5 g from ⟨fun e => by have := j6.from1 _ e; have := B4.out.2; omega, fun e => by have := j6.from2 _ e; have := B4.out.2; omega, fun e => by have := j6.from3 _ e; have := B4.out.2; omega⟩)
 have HO5 := lh j6
 clear aB j6 HTE2 HB4 B4 x0 x1 x2 x3 x4 x5 x6 x7
 go_wp2_with (refine Jr rfl _ (.tmp 1) (.tmp 16) rfl g #[.bool (decide (m1.smooth.num < 0)), .int .u64 (lo m1.smooth.num.natAbs : Int), .string (mo m1.smooth.num.natAbs), .int .u64 (lo ((qden m1.smooth)) : Int), .string (mo ((qden m1.smooth))), .slice AW5 1 cW5, .slice (some ⟨gS5, 0, none⟩) 2 2, .slice (some ⟨gC5, 0, none⟩) 2 2] _ rfl rfl _ B5.out (by kernel_rfl) rfl (by simp [Value.oneCell']) ?_; intro w7 aH cA; have HX7 := lh cA; have B7 := lh aH; obtain ⟨x0, x1, x2, x3, x4, x5, x6, x7⟩ := aH.c8; clear aH cA)
 have cB := HO5.out.exc HX7.out HN5.out.1 HN5.out.2.1 HN5.out.2.2
 have HB7 := lh (HB5.out.trans (HX7.out.below HB5.out.size aU))
 have hr := Jaj w7 0
 have bT := Jb w7 (.cells #[.int .i64 0] 3)
 have aJ := (cB.next bT).read
 have HB8 := lh (Ja HB7.out bT)
 have HCH2 := lh (HCH.out _ AW5 cW5 gS5 gC5 _ aJ hr (HT.out.next HB8.out))
 clear cB hr bT aJ HCH HB7 HB5 HN5 HX7 B5 B7 HO5
 refine HCH2.out.mono ?_
 rintro e w9 ⟨g9, rfl, d0, d1, dH, eU⟩
 have HB9 := lh (Ja HB8.out eU)
 clear HCH2 eU HB8 x0 x1 x2 x3 x4 x5 x6 x7
 obtain ⟨x0, x1, x2, x3, x4⟩ := d0.c5
 obtain ⟨y0, y1, y2, y3, y4⟩ := d1.c5
 go_wp2_with fail
 refine (HI1.out _).mono ?_
 rintro e wa ⟨rfl, dQ⟩
 have d1 := d1.below dQ dH
 have HBA := lh (Ja HB9.out dQ)
 clear dQ x0 x1 x2 x3 x4 y0 y1 y2 y3 y4 HI1 HB9 d0
 obtain ⟨y0, y1, y2, y3, y4⟩ := d1.c5
 go_wp2_with fail
 refine (HI2.out _).mono ?_
 rintro e wb ⟨rfl, dR⟩
 have HBB := lh (Ja HBA.out dR)
 clear dR y0 y1 y2 y3 y4 HI2 HBA d1
 go_wp2
 go_ret
 exact ⟨rfl, HBB.out⟩
theorem Jq8 (A A' : Option Addr) (n c c' : Nat) (l : List Int) (B B' : Nat) (w : World) (h : ReadsI w B A n l) (h' : ReadsI w B' A' n l) (hn : n <= 9223372036854775807) :
  Calls Tryz.prog 106 #[.slice A n c, .slice A' n c'] w fun e w' => e = .returned (.bool true) /\ ∃ k, w' = w.drewN k := by
 have q1 : ((n : Int) != (n : Int)) = false := by simp
 have q2 : ((n : Int) == (n : Int)) = true := by simp
 go_enter Tryz.func106, Tryz.ntmps106
 go_wp2
 go_loopw [5] (fun i wr => ∃ k : Nat, k <= n /\ i = .int .i64 k /\ ∃ d, wr = w.drewN d) (fun i _ => n - (intOf i).toNat)
 case atStart => exact ⟨0, Nat.zero_le _, rfl, 0, rfl⟩
 case round =>
  obtain ⟨k, hk, rfl, d, rfl⟩ := hrel
  by_cases bF : k < n
  ·obtain ⟨ad, x, hA, hb, hx, hc⟩ := h.at_ bF
   obtain ⟨ad', x', iN, gI, iM, eE⟩ := h'.at_ bF
   have iO : x = x' := Option.some.inj (hx.symm.trans iM)
   subst iO
   clear hx iM
   subst hA iN
   have iP : (k : Int) < (n : Int) := by omega
   have q3 : (x != x) = false := by simp
   have q4 : (x == x) = true := by simp
   go_wp2
   go_quiet (fail)
   go_wp2
   exact ⟨⟨k + 1, by omega, by go_num, _, rfl⟩, by simp [intOf]; omega⟩
  go_wp2
  go_ret
  exact ⟨rfl, d, rfl⟩
def DocQ (m : BM) (v : Value) (w : World) : Prop := ∃ (ng : Bool) (A7 A8 : Option Addr) (l7 d7 l8 d8 : Nat) (W S C : SW), v = .agg #[.bool ng, .slice A7 l7 d7, .slice A8 l8 d8, W.v, S.v, C.v] /\ IsQ w w.heap.size (.agg #[.bool ng, .slice A7 l7 d7, .slice A8 l8 d8]) m.smooth /\ RdB w w.heap.size W S C m
def Joq (cols : Int) (k : Nat) : List Int := (List.range k).map fun (c : Nat) => (cols.tdiv 3 + (c : Int)) % 3 + 1
theorem Jpg (cols : Int) (k : Nat) : Joq cols (k + 1) = Joq cols k ++ [(cols.tdiv 3 + (k : Int)) % 3 + 1] := by
 unfold Joq
 rw [List.range_succ, List.map_append]
 rfl
theorem Jow (cols : Int) (k : Nat) : (Joq cols k).length = k := by simp [Joq]
theorem Jph {x : Int} (h : -9223372036854775808 <= x /\ x <= 9223372036854775807) : (-4611686018427387904 <= x.tdiv 3 /\ x.tdiv 3 <= 4611686018427387904) /\ -4611686018427387904 <= x.tdiv 4 /\ x.tdiv 4 <= 4611686018427387904 := by
 rcases Int.le_total 0 x with h0 | h0
 ·rw [Int.tdiv_eq_ediv_of_nonneg h0, Int.tdiv_eq_ediv_of_nonneg h0]
  omega
 have e : x.tdiv 4 = -((-x).tdiv 4) := by rw [Int.neg_tdiv]; omega
 have e' : x.tdiv 3 = -((-x).tdiv 3) := by rw [Int.neg_tdiv]; omega
 rw [e, e', Int.tdiv_eq_ediv_of_nonneg (by omega), Int.tdiv_eq_ediv_of_nonneg (by omega)]
 omega
theorem Jpk {f : Nat} {m : BM} {l : List Int} {i : Nat} (h : ¬ (i + m.words.length < l.length /\ i < 24)) : Jop f m l i = m := by
 cases f with
 | zero => rfl
 | succ f => unfold Jop; rw [if_neg h]
theorem Jpl {f n : Nat} {m : BM} {l : List Int} {i : Nat} (hd : DrawnB m n) (hn : n < 1073741824) (h : i + m.words.length < l.length /\ i < 24) (hf : 24 <= f + i) :
  ∃ (f' : Nat), f = f' + 1 /\ Xg m (Jkx (l.drop (i + 1)) m.words) (l.getD i 0 % (m.seen.length : Int)) = (Jn m (Jkx (l.drop (i + 1)) m.words) (l.getD i 0 % (m.seen.length : Int)).toNat 1, 0) /\ DrawnB (Jn m (Jkx (l.drop (i + 1)) m.words) (l.getD i 0 % (m.seen.length : Int)).toNat 1) (n + 1) /\ Jop f m l i = Jop f' (Jn m (Jkx (l.drop (i + 1)) m.words) (l.getD i 0 % (m.seen.length : Int)).toNat 1) l (i + m.words.length + 1) := by
 obtain ⟨h1, h2⟩ := hd.moved (hd.rowOk (l.drop (i + 1))) (hd.class_ (l.getD i 0)) hn
 obtain ⟨f', rfl⟩ : ∃ f', f = f' + 1 := ⟨f - 1, by omega⟩
 refine ⟨f', rfl, h1, h2, ?_⟩
 rw [Jop, if_pos h, h1, if_pos rfl]
def DrS (L : Nat) (g : Nat) (x0 x1 x2 : Value) (m : BM) (w : World) : Prop := ∃ (W S C : SW) (F G H : Nat -> Prop), Blk w g 31 #[x0, x1, x2, W.v, S.v, C.v] /\ OwB 3 22 65 L w W S C F G H m /\ (¬ F g /\ ¬ G g /\ ¬ H g)
def DrI (ws : List Int) (q : Rat) (l : List Int) (M0 : BM) (L g : Nat) (x0 x1 x2 : Value) (w5 : World) (i : Nat) (w : World) : Prop := ∃ (f nT : Nat) (mm : BM), i <= 40 /\ 24 <= f + i /\ Jop f mm l i = M0 /\ DrawnB mm nT /\ nT <= i /\ mm.words = ws /\ mm.smooth = q /\ DrS L g x0 x1 x2 mm w /\ Below L w5 w
def Jpi (m : BM) (y : Int) (k c : Nat) (b : Int) : BM :=
 if y = 0 then { m with seen := m.seen.set k b }
 else if y = 1 then { m with counts := m.counts.set k ((m.counts.getD k []).set c (((m.counts.getD k []).getD c []).set 0 b)) }
 else if y = 2 then { m with smooth := (b : Rat) }
 else if y = 3 then { m with words := m.words.set c b }
 else if y = 4 then { m with counts := m.counts.set k ((m.counts.getD k []).drop 1) }
 else if y = 5 then { m with seen := m.seen.drop 1 }
 else if y = 6 then { m with seen := m.seen.set k 1073741824 }
 else m
theorem Jpo (m : BM) (way at_ by_ : Int) : Jo6 m way at_ by_ = Jpi m (way % 14) (at_ % (m.seen.length : Int)).toNat ((at_.tdiv 3) % (m.words.length : Int)).toNat (by_ % 9 - 2) := rfl
theorem Jo2 {m : BM} {y : Int} {k c : Nat} {b : Int} (h : ¬ (y = 0 \/ y = 1 \/ y = 2 \/ y = 3 \/ y = 4 \/ y = 5 \/ y = 6)) : Jpi m y k c b = m := by
 unfold Jpi
 rw [if_neg (by omega), if_neg (by omega), if_neg (by omega), if_neg (by omega), if_neg (by omega), if_neg (by omega), if_neg (by omega)]
def DrQ (g g' : Nat) (m : BM) (w : World) : Prop := ∃ (ng : Bool) (A7 A8 : Option Addr) (l7 d7 l8 d8 : Nat) (W S C : SW), Blk w g 31 #[.bool ng, .slice A7 l7 d7, .slice A8 l8 d8, W.v, S.v, C.v] /\ ∀ w', Exc g' w w' -> IsQ w' w'.heap.size (.agg #[.bool ng, .slice A7 l7 d7, .slice A8 l8 d8]) m.smooth /\ RdB w' w'.heap.size W S C m
theorem Jq1 {a : Bool} {A1 A2 A3 A4 A5 : Option Addr} {l1 c1 l2 c2 l3 c3 l4 c4 l5 c5 : Nat} : ∀ i x : Nat, (#[Value.bool a, .slice A1 l1 c1, .slice A2 l2 c2, .slice A3 l3 c3, .slice A4 l4 c4, .slice A5 l5 c5])[i]? ≠ some (Ju x) := by
 intro i x h
 match i with
 | 0 => simp [Ju] at h
 | 1 => simp [Ju] at h
 | 2 => simp [Ju] at h
 | 3 => simp [Ju] at h
 | 4 => simp [Ju] at h
 | 5 => simp [Ju] at h
 | n + 6 => simp at h
def DrF (ws : List Int) (q : Rat) (M0 : BM) (L g : Nat) (x0 x1 x2 : Value) (w5 : World) (w : World) : Prop := ∃ nT : Nat, nT <= 40 /\ DrawnB M0 nT /\ M0.words = ws /\ M0.smooth = q /\ DrS L g x0 x1 x2 M0 w /\ Below L w5 w
def DrM (L : Nat) (x0 x1 x2 xw : Value) (m : BM) (u : Value) (w : World) (X : Nat -> Prop) : Prop := ∃ (S C : SW) (G H : Nat -> Prop), u = .agg #[x0, x1, x2, xw, S.v, C.v] /\ NRow 3 zv w G S.v m.seen /\ Nest 65 (Nest 22 (NRow 3 zv)) w H C.v m.counts /\ (∀ k, G k -> L <= k /\ ¬ H k) /\ (∀ k, H k -> L <= k) /\ ∀ g, X g -> ¬ G g /\ ¬ H g
theorem DrM.next {L : Nat} {x0 x1 x2 xw u : Value} {m : BM} {w w' : World} {X Y : Nat -> Prop} (h : DrM L x0 x1 x2 xw m u w X) (hb : Below w.heap.size w w') (hY : ∀ g, Y g -> X g \/ w.heap.size <= g) : DrM L x0 x1 x2 xw m u w' Y := by
 obtain ⟨S, C, G, H, e, hs, hc, h1, h2, h3⟩ := h
 have hr := Js 3 zv
 refine ⟨S, C, G, H, e, hr.loc hs hb.size fun k hk => hb.block k (hr.lt hs hk), hc.next (Xt hr _) hb, h1, h2, fun g hg => ?_⟩
 rcases hY g hg with h | h
 ·exact h3 g h
 exact ⟨fun e => by have := hr.lt hs e; omega, fun e => by have := hc.lt (Xt hr _) e; omega⟩
theorem DrM.exc {L g : Nat} {x0 x1 x2 xw u : Value} {m : BM} {w w' : World} {X : Nat -> Prop} (h : DrM L x0 x1 x2 xw m u w X) (hx : Exc g w w') (hg : X g) : DrM L x0 x1 x2 xw m u w' X := by
 obtain ⟨S, C, G, H, e, hs, hc, h1, h2, h3⟩ := h
 have hr := Js 3 zv
 exact ⟨S, C, G, H, e, hr.loc hs hx.size fun k hk => hx.block k (hr.lt hs hk) fun e => (h3 g hg).1 (by rw [<- e]; exact hk), hc.loc (Xt hr _) hx.size fun k hk => hx.block k (hc.lt (Xt hr _) hk) fun e => (h3 g hg).2 (by rw [<- e]; exact hk), h1, h2, h3⟩
structure DrR (W : World) (x0 x1 x2 xw : Value) (n1 : Nat) (row : List Int) (m : BM) (FX : Nat -> Option Value) (d : Nat -> Bool) (val : Nat -> Value) (w : World) : Prop where
 bel : Below W.heap.size W w
 fx : Fixed FX d val
 v6 : d 6 = true -> ∃ A c, val 6 = .slice A n1 c /\ (d 15 = false -> ReadsI w w.heap.size A n1 row)
 v15 : d 15 = true -> ∃ c0 c1 c2 c3 c4 c5, val 15 = .tuple #[.agg #[c0, c1, c2, c3, c4, c5], .int .i64 0] /\ (#[c0, c1, c2, c3, c4, c5].all (·.oneCell') = true) /\ DrM W.heap.size x0 x1 x2 xw m (.agg #[c0, c1, c2, c3, c4, c5]) w fun g => d 19 = true /\ val 19 = .pointer (some ⟨g, 0, none⟩)
 v16 : d 16 = true -> d 15 = true /\ val 16 = val 15
 v17 : d 17 = true -> d 15 = true /\ ∀ u y, val 15 = .tuple #[u, y] -> val 17 = u
 v18 : d 18 = true -> d 15 = true /\ ∀ u y, val 15 = .tuple #[u, y] -> val 18 = y
 v19 : d 19 = true -> ∃ g y0 y1 y2 y3 y4 y5, val 19 = .pointer (some ⟨g, 0, none⟩) /\ W.heap.size <= g /\ Blk w g 31 #[y0, y1, y2, y3, y4, y5] /\ (d 20 = true -> d 17 = true /\ val 17 = .agg #[y0, y1, y2, y3, y4, y5])
 v20 : d 20 = true -> d 19 = true
 v21 : d 21 = true -> d 18 = true /\ val 21 = val 18
theorem DrR.next {W w w' : World} {x0 x1 x2 xw : Value} {n1 : Nat} {row : List Int} {m : BM} {FX : Nat -> Option Value} {d : Nat -> Bool} {val : Nat -> Value} (h : DrR W x0 x1 x2 xw n1 row m FX d val w) (hb : Below w.heap.size w w') : DrR W x0 x1 x2 xw n1 row m FX d val w' where
 bel := h.bel.trans (hb.mono h.bel.size)
 fx := h.fx
 v6 := fun h1 => (h.v6 h1).imp fun A h2 => h2.imp fun c h3 => ⟨h3.1, fun h4 => rkindI.more (rkindI.below (h3.2 h4) hb) hb.size⟩
 v15 := fun h1 => by
  obtain ⟨c0, c1, c2, c3, c4, c5, e, ho, hm⟩ := h.v15 h1
  exact ⟨c0, c1, c2, c3, c4, c5, e, ho, hm.next hb fun g hg => .inl hg⟩
 v16 := h.v16
 v17 := h.v17
 v18 := h.v18
 v19 := fun h1 => by
  obtain ⟨g, y0, y1, y2, y3, y4, y5, e, hg, hk, h2⟩ := h.v19 h1
  exact ⟨g, y0, y1, y2, y3, y4, y5, e, hg, hk.below hb hk.lt, h2⟩
 v20 := h.v20
 v21 := h.v21
theorem Jq6 {a b u y : Value} (h : #[a, b] = #[u, y]) : a = u /\ b = y := by simpa using h
theorem Jps {g g' : Nat} (h : Value.pointer (some ⟨g, 0, none⟩) = .pointer (some ⟨g', 0, none⟩)) : g = g' := by
 injection h with h
 injection h with h
 injection h with h
def DrC (L : Nat) (x0 x1 x2 xw : Value) (m : BM) (W : World) (v v20 : Value) (w : World) : Prop := ∃ (g : Nat) (S C : SW) (G H : Nat -> Prop), v = .pointer (some ⟨g, 0, none⟩) /\ v20 = .int .i64 0 /\ Blk w g 31 #[x0, x1, x2, xw, S.v, C.v] /\ NRow 3 zv w G S.v m.seen /\ Nest 65 (Nest 22 (NRow 3 zv)) w H C.v m.counts /\ (∀ k, G k -> L <= k /\ ¬ H k) /\ (∀ k, H k -> L <= k) /\ Below W.heap.size W w
theorem DrR.end_ {W w : World} {x0 x1 x2 xw : Value} {n1 : Nat} {row : List Int} {m : BM} {FX : Nat -> Option Value} {d : Nat -> Bool} {val : Nat -> Value} (hF : DrR W x0 x1 x2 xw n1 row m FX d val w) (hd : ∀ i, i < 22 -> d i = true) : DrC W.heap.size x0 x1 x2 xw m W (val 19) (val 21) w := by
 obtain ⟨c0, c1, c2, c3, c4, c5, e15, -, S, C, G, H, e0, hs, hc, h1, h2, -⟩ := hF.v15 (hd 15 (by decide))
 obtain ⟨g, y0, y1, y2, y3, y4, y5, e19, hg, hk, fY⟩ := hF.v19 (hd 19 (by decide))
 have e8 := ((fY (hd 20 (by decide))).2.symm.trans ((hF.v17 (hd 17 (by decide))).2 _ _ e15)).trans e0
 injection e8 with e8
 rw [e8] at hk
 exact ⟨g, S, C, G, H, e19, (hF.v21 (hd 21 (by decide))).2.trans ((hF.v18 (hd 18 (by decide))).2 _ _ e15), hk, hs, hc, h1, h2, hF.bel⟩
theorem Jqh {L : Nat} {x0 x1 x2 xw : Value} {m : BM} {v : Value} {w : World} (h : Jq7 L x0 x1 x2 xw (m, 0) v w) : ∃ u, v = .tuple #[u, .int .i64 0] /\ Jq3 L x0 x1 x2 xw m u w := by
 rcases h with ⟨-, u, rfl, hm⟩ | ⟨h0, -⟩
 ·exact ⟨u, rfl, hm⟩
 exact absurd rfl h0
theorem Jpt (A : Option Addr) (n c : Nat) (l : List Int) (classes cols smooth way at_ by_ : Int) (B : Nat) (w : World) (h : ReadsI w B A n l) (hB : B <= w.heap.size) (dI : n <= c) (hc : c <= 9223372036854775807) (hl : ∀ x ∈ l, -9223372036854775808 <= x /\ x <= 9223372036854775807)
  (i1 : -9223372036854775808 <= classes /\ classes <= 9223372036854775807) (i2 : -9223372036854775808 <= cols /\ cols <= 9223372036854775807) (i3 : -9223372036854775808 <= smooth /\ smooth <= 9223372036854775807) (i4 : -9223372036854775808 <= way /\ way <= 9223372036854775807) (i5 : -9223372036854775808 <= at_ /\ at_ <= 9223372036854775807) (i6 : -9223372036854775808 <= by_ /\ by_ <= 9223372036854775807) (i7 : 7 <= way % 14) :
  Calls Tryz.prog 12 #[.slice A n c, .int .i64 classes, .int .i64 cols, .int .i64 smooth, .int .i64 way, .int .i64 at_, .int .i64 by_] w fun e w' => ∃ v, e = .returned v /\ DocQ (Jo6 (Jov l classes cols smooth) way at_ by_) v w' /\ Below w.heap.size w w' := by
 have eV : l.length = n := h.len
 have bI : ∀ (M : Nat), 1 <= M -> M <= 1000 -> ∀ (y : Int) (w' : World), -9223372036854775808 <= y -> y <= 9223372036854775807 -> Calls Tryz.prog 13 #[.int .i64 y, .int .i64 (M : Int)] w' fun e w'' => e = .returned (.int .i64 (y % (M : Int))) /\ w' = w'' := fun M h1 h2 y w' h3 h4 => Jpd y M w' h3 h4 h1 (by omega)
 have HPK := lh bI
 obtain ⟨N, hN⟩ : ∃ N : Nat, cols % 3 + 1 = (N : Int) := ⟨(cols % 3 + 1).toNat, by omega⟩
 have hJ : 1 <= N /\ N <= 3 := by omega
 obtain ⟨NC, eW⟩ : ∃ NC : Nat, classes % 3 + 1 = (NC : Int) := ⟨(classes % 3 + 1).toNat, by omega⟩
 have fZ : 1 <= NC /\ NC <= 3 := by omega
 have eX : Joq cols N = Jon cols := by unfold Joq Jon; rw [show (cols % 3).toNat + 1 = N by omega]
 obtain ⟨M0, dS⟩ : ∃ M0, Jov l classes cols smooth = M0 := ⟨_, rfl⟩
 rw [dS]
 obtain ⟨M1, bU⟩ : ∃ M1, Jo6 M0 way at_ by_ = M1 := ⟨_, rfl⟩
 rw [bU]
 have HM := lh (And.intro dS bU)
 have HN := lh (And.intro hN (And.intro eW eX))
 have H := lh h
 have HL := lh hl
 have HI := lh (And.intro i1 (And.intro i2 (And.intro i3 (And.intro i4 (And.intro i5 i6)))))
 have HBB := lh hB
 have HLN := lh eV
 have HP1 : Hid (∀ w', Calls Tryz.prog 13 #[.int .i64 cols, .int .i64 3] w' fun e w'' => e = .returned (.int .i64 ((N : Int) - 1)) /\ w' = w'') := lh fun w' => by
  have h1 := bI 3 (by decide) (by decide) cols w' i2.1 i2.2
  rw [show cols % ((3 : Nat) : Int) = (N : Int) - 1 by omega] at h1
  exact h1
 clear h hl i1 i2 i3 i4 i5 i6 hB eV dS bU hN eW bI eX
 obtain ⟨b0, hB, hZ⟩ := bx1 w 31 #[.bool false, .slice none 0 0, .slice none 0 0, .slice none 0 0, .slice none 0 0, .slice none 0 0]
 go_enter Tryz.func12, Tryz.ntmps12
 go_upto_region 1 with fail
 generalize (w.alloc (.cells #[.bool false, .slice none 0 0, .slice none 0 0, .slice none 0 0, .slice none 0 0, .slice none 0 0] 31)) = W at *
 have HBW := lh hB
 have HZ := lh hZ.out
 have B0 := lh b0
 clear hB hZ b0
 go_wp2_with fail
 go_loopw [15, 16] (fun v p wr => ∃ k : Nat, k <= N /\ p = .int .i64 (k : Int) /\ Own wr 3 zv v (Joq cols k) /\ (∀ b, v.ownBlock = some b -> W.heap.size <= b) /\ Below W.heap.size W wr) (fun _ p _ => N - (intOf p).toNat)
 case atStart => exact ⟨0, by omega, rfl, Own.nil_ _ _ _, (fun b h => by cases h), Below.refl _ _⟩
 case round =>
  obtain ⟨k, hk, rfl, ho, dJ, l6⟩ := hrel
  rename World => wr
  have q1 : (N : Int) - 1 + 1 = N := by omega
  by_cases eY : k < N
  ·as_aux_lemma =>
   have k1 : (k : Int) < (N : Int) := by omega
   have gA := (Jph HI.out.2.1).1
   obtain ⟨cq, gB⟩ : ∃ cq, cols.tdiv 3 = cq := ⟨_, rfl⟩
   have cD := Jpg cols k
   rw [gB] at gA cD
   have cE := Jfv (x := cq) (by omega) (by omega)
   obtain ⟨y, hy⟩ : ∃ y, cq + (k : Int) = y := ⟨_, rfl⟩
   have cF := Jfv (x := y) (by omega) (by omega)
   rw [hy] at cD
   obtain ⟨t, ht⟩ : ∃ t, y % 3 = t := ⟨_, rfl⟩
   have HP2 : Hid (Calls Tryz.prog 13 #[.int .i64 y, .int .i64 3] wr fun e w'' => e = .returned (.int .i64 t) /\ wr = w'') := lh (by
    have h1 := HPK.out 3 (by decide) (by decide) y wr (by omega) (by omega)
    rw [show y % ((3 : Nat) : Int) = t by omega] at h1
    exact h1)
   rw [ht] at cD
   have iA : 0 <= t /\ t < 3 := by omega
   have HO := lh ho
   have HFR := lh (And.intro dJ l6)
   have HSN := lh cD
   clear ho dJ l6 cD ht HPK
   go_wp2_with fail
   refine (HP1.out _).mono ?_
   rintro e w1 ⟨rfl, rfl⟩
   go_wp2_with fail
   refine HP2.out.mono ?_
   rintro e w1 ⟨rfl, rfl⟩
   go_wp2_with (at_builtin; refine Joi (f := zv) Tryz.eltZ1 rfl (.tmp 30) (.tmp 37) rfl wr _ (Joq cols k) (t + 1) (.int .i64 (t + 1)) rfl rfl HO.out (by simp [Act.eval]) rfl (by rw [Jow]; unfold maxLen; omega) (by rw [Jow]; omega) ?_; intro v' w2 eZ fA)
   have cG := HFR.out.2.trans (fA.below HFR.out.2.size HFR.out.1)
   have dT := fA.fresh HFR.out.2.size HFR.out.1
   rw [<- HSN.out] at eZ
   exact ⟨⟨k + 1, by omega, by go_num, eZ, dT, cG⟩, by simp [intOf]; omega⟩
  as_aux_lemma =>
  obtain rfl : k = N := by omega
  have k1 : ¬ (k : Int) < (k : Int) := by omega
  rw [HN.out.2.2] at ho
  have cH : (Jon cols).length = k := by rw [<- HN.out.2.2, Jow]
  have HWL := lh cH
  obtain ⟨AW, cW, hv, -⟩ := ho.form
  rw [cH] at hv
  subst hv
  clear cH
  have HO := lh ho
  have HFR := lh (And.intro dJ l6)
  clear ho dJ l6
  obtain ⟨t4, fB⟩ : ∃ t4, smooth % 4 = t4 := ⟨_, rfl⟩
  obtain ⟨sq, fC⟩ : ∃ sq, smooth.tdiv 4 = sq := ⟨_, rfl⟩
  have fD := (Jph HI.out.2.2.1).2
  rw [fC] at fD
  obtain ⟨t5, fE⟩ : ∃ t5, sq % 3 = t5 := ⟨_, rfl⟩
  have iB := Jfv (x := sq) (by omega) (by omega)
  have iC : (0 <= t4 /\ t4 < 4) /\ 0 <= t5 /\ t5 < 3 := by omega
  obtain ⟨q, hq⟩ : ∃ q, Rat.divInt (t4 + 1) (t5 + 1) = q := ⟨_, rfl⟩
  have y9 : Jo1 classes cols smooth = Uw NC (Jon cols) q := by
   unfold Jo1
   rw [show (classes % 3).toNat + 1 = NC by have := HN.out.2.1; omega, fC, fB, fE, <- Rat.divInt_eq_div, hq]
  have fF : Jp6 (NC : Int) (Jon cols) q = Uw NC (Jon cols) q := Jp5 (by
   have h1 := (Joz classes cols smooth).ok
   rw [y9, Kv, Yf] at h1
   have h2 := h1.1.1
   simpa [Uw] using h2)
  have HPC : Hid (∀ w', Calls Tryz.prog 13 #[.int .i64 classes, .int .i64 3] w' fun e w'' => e = .returned (.int .i64 ((NC : Int) - 1)) /\ w' = w'') := lh fun w' => by
   have h1 := HPK.out 3 (by decide) (by decide) classes w' HI.out.1.1 HI.out.1.2
   rw [show classes % ((3 : Nat) : Int) = (NC : Int) - 1 by have := HN.out.2.1; omega] at h1
   exact h1
  have HPS : Hid (∀ w', Calls Tryz.prog 13 #[.int .i64 smooth, .int .i64 4] w' fun e w'' => e = .returned (.int .i64 t4) /\ w' = w'') := lh fun w' => by
   have h1 := HPK.out 4 (by decide) (by decide) smooth w' HI.out.2.2.1.1 HI.out.2.2.1.2
   rw [show smooth % ((4 : Nat) : Int) = t4 by omega] at h1
   exact h1
  have HPT : Hid (∀ w', Calls Tryz.prog 13 #[.int .i64 sq, .int .i64 3] w' fun e w'' => e = .returned (.int .i64 t5) /\ w' = w'') := lh fun w' => by
   have h1 := HPK.out 3 (by decide) (by decide) sq w' (by omega) (by omega)
   rw [show sq % ((3 : Nat) : Int) = t5 by omega] at h1
   exact h1
  have HOV : Hid (∀ w', Calls Tryz.prog 47 #[.int .i64 (t4 + 1), .int .i64 (t5 + 1)] w' (Jmv q w')) := lh fun w' => by
   have h1 := Jk0 (t4 + 1) (t5 + 1) w' (by omega) (by omega) (by omega) (by omega) (by omega)
   rw [hq] at h1
   exact h1
  have q2 : (NC : Int) - 1 + 1 = NC := by omega
  have HST := lh (And.intro y9 fF)
  clear fB fE hq y9 fF fD
  go_wp2_with fail
  refine (HP1.out _).mono ?_
  rintro e w1 ⟨rfl, rfl⟩
  go_upto_region 6 with fail
  go_wp2_with fail
  refine (HPC.out _).mono ?_
  rintro e w1 ⟨rfl, rfl⟩
  go_wp2_with fail
  refine (HPS.out _).mono ?_
  rintro e w1 ⟨rfl, rfl⟩
  go_wp2_with fail
  refine (HPT.out _).mono ?_
  rintro e w1 ⟨rfl, rfl⟩
  go_wp2_with fail
  refine (HOV.out _).mono ?_
  rintro e w5 ⟨V, rfl, bV, aB⟩
  obtain ⟨ng, A7, l7, d7, A8, l8, d8, rfl⟩ := bV.shape
  have dU : ReadsI w5 w5.heap.size AW k (Jon cols) := rkindI.more (rkindI.below (NRow.readsI (NRow.of HO.out)) aB) aB.size
  have HNW := lh (Jqu (NC : Int) AW k cW (Jon cols) ng A7 A8 l7 d7 l8 d8 w5.heap.size q w5 dU zd (by omega) (fun x hx => by have := Jou hx; omega))
  have HB5 := lh (HFR.out.2.trans (aB.mono HFR.out.2.size))
  have HIQ := lh bV
  have HRW := lh dU
  clear aB bV dU HPC HPS HPT HOV HP1
  rw [HST.out.2] at HNW
  go_wp2_with fail
  refine HNW.out.mono ?_
  rintro e w6 ⟨v, rfl, ⟨⟨A1, n1, c1⟩, ⟨A2, n2, c2⟩, ⟨A3, n3, c3⟩, F, G, Hh, rfl, ho⟩, bJ⟩
  simp only [SW.v] at *
  go_upto_region 7 with fail
  have b17 := Blk.new w6 31 #[.bool ng, .slice A7 l7 d7, .slice A8 l8 d8, .slice A1 n1 c1, .slice A2 n2 c2, .slice A3 n3 c3]
  have aH := Ja bJ (Jb w6 (.cells #[.bool ng, .slice A7 l7 d7, .slice A8 l8 d8, .slice A1 n1 c1, .slice A2 n2 c2, .slice A3 n3 c3] 31))
  have cB := ho.next (Jb w6 (.cells #[.bool ng, .slice A7 l7 d7, .slice A8 l8 d8, .slice A1 n1 c1, .slice A2 n2 c2, .slice A3 n3 c3] 31))
  generalize w6.alloc (.cells #[.bool ng, .slice A7 l7 d7, .slice A8 l8 d8, .slice A1 n1 c1, .slice A2 n2 c2, .slice A3 n3 c3] 31) = w7 at *
  obtain ⟨o1, o2, o3⟩ := ho.old
  have gD : w5.heap.size <= w6.heap.size := bJ.size
  generalize w6.heap.size = g at *
  have cI : DrS w5.heap.size g (.bool ng) (.slice A7 l7 d7) (.slice A8 l8 d8) (Uw NC (Jon cols) q) w7 := ⟨⟨A1, n1, c1⟩, ⟨A2, n2, c2⟩, ⟨A3, n3, c3⟩, F, G, Hh, b17, cB, fun e => by have := o1 _ e; omega, fun e => by have := o2 _ e; omega, fun e => by have := o3 _ e; omega⟩
  have HDI : Hid (DrI (Jon cols) q l M0 w5.heap.size g (.bool ng) (.slice A7 l7 d7) (.slice A8 l8 d8) w5 0 w7) := lh ⟨24, 0, _, by omega, by omega, by rw [<- HM.out.1]; unfold Jov; rw [HST.out.1], by rw [<- HST.out.1]; exact Joz classes cols smooth, by omega, rfl, rfl, cI, aH⟩
  clear aH bJ ho cB b17 cI o1 o2 o3 HNW HST HO HFR
  go_upto_block 2 with fail
  go_cut [18] (fun v wc => (∃ i : Int, v = .int .i64 i) /\ DrF (Jon cols) q M0 w5.heap.size g (.bool ng) (.slice A7 l7 d7) (.slice A8 l8 d8) w5 wc)
  case first =>
   go_wp2_with fail
   go_loopw [18] (fun p wr => ∃ i : Nat, p = .int .i64 (i : Int) /\ DrI (Jon cols) q l M0 w5.heap.size g (.bool ng) (.slice A7 l7 d7) (.slice A8 l8 d8) w5 i wr) (fun p _ => 1000 - (intOf p).toNat)
   case atStart => exact ⟨0, rfl, HDI.out⟩
   case round =>
    obtain ⟨i, rfl, f, nT, mm, gE, gF, cJ, p8, dV, s9, aS, bK, l6⟩ := hrel
    clear HDI
    rename World => wr
    have o0 := @Jpk f mm l i
    rw [s9, HWL.out, HLN.out, cJ] at o0
    by_cases bB : i + k < n
    case neg =>
     have k2 : ¬ (i : Int) + (k : Int) < (n : Int) := by omega
     have e0 := o0 fun h => bB h.1
     subst e0
     have HDF : Hid (DrF (Jon cols) q M0 w5.heap.size g (.bool ng) (.slice A7 l7 d7) (.slice A8 l8 d8) w5 wr) := lh ⟨nT, by omega, p8, s9, aS, bK, l6⟩
     clear o0 cJ p8 s9 aS bK l6
     go_wp2_with fail
     go_meet
     exact ⟨⟨_, rfl⟩, HDF.out⟩
    have k2 : (i : Int) + (k : Int) < (n : Int) := by omega
    by_cases bW : i < 24
    case neg =>
     have k3 : ¬ (i : Int) < 24 := by omega
     have e0 := o0 fun h => bW h.2
     subst e0
     have HDF : Hid (DrF (Jon cols) q M0 w5.heap.size g (.bool ng) (.slice A7 l7 d7) (.slice A8 l8 d8) w5 wr) := lh ⟨nT, by omega, p8, s9, aS, bK, l6⟩
     clear o0 cJ p8 s9 aS bK l6
     go_wp2_with fail
     go_meet
     exact ⟨⟨_, rfl⟩, HDF.out⟩
    have k3 : (i : Int) < 24 := by omega
    clear o0
    obtain ⟨f', rfl, aK, aL, bC⟩ := Jpl (l := l) p8 (by omega) (by rw [s9, HWL.out, HLN.out]; exact ⟨bB, bW⟩) gF
    rw [s9] at aK aL bC
    rw [HWL.out] at bC
    obtain ⟨row, t7⟩ : ∃ row, Jkx (l.drop (i + 1)) (Jon cols) = row := ⟨_, rfl⟩
    obtain ⟨⟨A1, n1, c1⟩, ⟨A2, n2, c2⟩, ⟨A3, n3, c3⟩, F, G, Hh, bk, ho, cK⟩ := bK
    simp only [SW.v] at bk
    obtain ⟨ad, g5, o5, y, rfl, gG, gH, hy, b5⟩ := H.out.spot (k := i) (by omega)
    have fG : l.getD i 0 = y := by rw [List.getD_eq_getElem?_getD, hy]; rfl
    have dW := (ho.read).seen.len
    have bL : mm.seen.length = n2 := ho.read.seen.len
    rw [fG, bL, t7] at aK aL bC
    have dX : 1 <= n2 /\ n2 <= 3 := by have := p8.classes; omega
    obtain ⟨cn, bD⟩ : ∃ cn : Nat, y % (n2 : Int) = (cn : Int) := ⟨(y % (n2 : Int)).toNat, by have := Int.emod_nonneg y (show (n2 : Int) ≠ 0 by omega); omega⟩
    rw [bD] at aK aL bC
    rw [Int.toNat_natCast] at aK aL bC
    obtain ⟨m', aT⟩ : ∃ m', Jn mm row cn 1 = m' := ⟨_, rfl⟩
    have bM : m'.words = Jon cols := by rw [<- aT]; exact s9
    have cL : m'.smooth = q := by rw [<- aT]; exact aS
    rw [aT] at aK aL bC
    obtain ⟨A9, dY⟩ : ∃ A9, Jg4 (some ad) c (i + 1) 1 = A9 := ⟨_, rfl⟩
    obtain ⟨n9, dZ⟩ : ∃ n9, n - (i + 1) = n9 := ⟨_, rfl⟩
    obtain ⟨c9, fH⟩ : ∃ c9, c - (i + 1) = c9 := ⟨_, rfl⟩
    have cN : ∀ w' : World, (Instr.slice 22 (.slice (some ad) n c) (some (.int .i64 ((i : Int) + 1))) none none).run Tryz.prog w' = .ok (.slice A9 n9 c9) w' := fun w' => by
     have := Ji0 (P := Tryz.prog) (Tryz.eltZ1).under (Tryz.eltZ1).info (some ad) n c .i64 ((i : Int) + 1) (by omega) (by omega) w'
     rw [show ((i : Int) + 1).toNat = i + 1 by omega, dY, dZ, fH] at this
     exact this
    have aC : Below w5.heap.size w5 wr := l6
    have cO : Below w.heap.size w wr := HBW.out.trans ((HB5.out.trans (l6.mono HB5.out.size)).mono HBW.out.size)
    have bE : ReadsI w5 w5.heap.size A9 n9 (l.drop (i + 1)) := by
     have h1 : Reads w B 1 (Jg4 (some ad) c (i + 1) 1) (n - (i + 1)) ((l.map zv).drop ((i + 1) * 1)) := Reads.cut H.out (show i + 1 <= n by omega) dI
     rw [dY, dZ, Nat.mul_one] at h1
     have h2 := rkindI.below (show ReadsI w B A9 n9 (l.drop (i + 1)) by unfold ReadsI; rw [List.map_drop]; exact h1) ((HBW.out.trans (HB5.out.mono HBW.out.size)).mono HBB.out)
     exact rkindI.more h2 (nt HBB.out (HBW.out.trans (HB5.out.mono HBW.out.size)).size)
    have cP : ∀ w', Below wr.heap.size wr w' -> ∀ A6 c6, ReadsI w' w'.heap.size A6 k row -> Calls Tryz.prog 31 #[.agg #[.bool ng, .slice A7 l7 d7, .slice A8 l8 d8, .slice A1 n1 c1, .slice A2 n2 c2, .slice A3 n3 c3], .slice A6 k c6, .int .i64 (cn : Int)] w' fun e w'' => ∃ v, e = .returned v /\ (∃ u, v = .tuple #[u, .int .i64 0] /\ Jq3 w'.heap.size (.bool ng) (.slice A7 l7 d7) (.slice A8 l8 d8) (.slice A1 n1 c1) m' u w'') /\ Below w'.heap.size w' w'' := fun w' hb A6 c6 h6 => by
     refine (Jp3 ng A7 A8 l7 d7 l8 d8 A1 A2 A3 n1 c1 n2 c2 n3 c3 w'.heap.size mm A6 k c6 row cn w' (ho.next hb).read (by rw [aS]; exact (HIQ.out.below (l6.trans (hb.mono l6.size))).more (nt l6.size hb.size)) h6 zd (Za p8.ok) (by omega)).mono ?_
     rintro e w'' ⟨v, rfl, hv, gI⟩
     rw [aK] at hv
     exact ⟨v, rfl, Jqh hv, gI⟩
    have gJ : n9 <= 9223372036854775807 := by omega
    have iD : IntKind.i64.wrap ((i : Int) + 1) = (i : Int) + 1 := IntWalk.i64_in _ (by omega)
    have HTE := lh cP
    have BK := lh bk
    have HBX := lh aC
    have HBY := lh cO
    have HCUT := lh bE
    have HGO := lh (And.intro cJ (And.intro bC (And.intro aL (And.intro bM (And.intro cL dV)))))
    have HOA := lh (And.intro ho cK)
    have HMW := lh (show mm.words = m'.words by rw [bM, s9])
    have k5 : (i : Int) < (n : Int) := by omega
    have eA : m'.seen.length = n2 /\ True := ⟨by rw [<- aT, Yt]; exact bL, trivial⟩
    clear cP bk aC cO bE cJ bC aL bM cL dV ho cK dY dZ fH aK p8 s9 aS l6 dW bL aT fG
    go_upto_region 10 with fail
    go_cut [19, 20] (fun v v20 wc => DrC wr.heap.size (.bool ng) (.slice A7 l7 d7) (.slice A8 l8 d8) (.slice A1 n1 c1) m' wr v v20 wc)
    case first =>
     refine Je0 (DrR wr (.bool ng) (.slice A7 l7 d7) (.slice A8 l8 d8) (.slice A1 n1 c1) k row m' (fun j => ([some (.agg #[.bool ng, .slice A7 l7 d7, .slice A8 l8 d8, .slice A1 n1 c1, .slice A2 n2 c2, .slice A3 n3 c3]), some (.slice (some ad) n c), some (.int .i64 (i : Int)), some (.int .i64 ((i : Int) + 1)), some (.slice A9 n9 c9), some (.slice AW k cW), none, some (.slice (some ad) n c), some (.int .i64 (i : Int)), some (.pointer (some (ad.add i))), some (.int .i64 y), some (.pointer (some ⟨g, 4, none⟩)), some (.slice A2 n2 c2), some (.int .i64 (n2 : Int)), some (.int .i64 (cn : Int)), none, none, none, none, none, none, none] : List (Option Value)).getD j none)) (by kernel_rfl) (by kernel_rfl) (by kernel_rfl) ?_ ?_ [some 69, some 70, some 71, some 72, some 73, some 74, some 75, some 76, some 77, some 78, some 79, some 80, some 81, some 82, some 83, some 84, some 68, some 85, some 86, some 19, none, some 20] rfl ?_
     ·constructor <;> first | exact Jt _ | exact Fixed.start _ _ | (intro h; cases h)
     ·refine ⟨⟨⟨⟨⟨⟨⟨⟨⟨⟨⟨⟨⟨⟨⟨⟨⟨⟨⟨⟨⟨⟨trivial, ?_⟩, ?_⟩, ?_⟩, ?_⟩, ?_⟩, ?_⟩, ?_⟩, ?_⟩, ?_⟩, ?_⟩, ?_⟩, ?_⟩, ?_⟩, ?_⟩, ?_⟩, ?_⟩, ?_⟩, ?_⟩, ?_⟩, ?_⟩, ?_⟩, ?_⟩
      case refine_1 =>
       intro d val a' w' hS hF hd hp
       have e8 : a'.tmps[17]?.getD undef = .pointer (some ⟨g, 0, none⟩) := hS.arg 17 (by kernel_rfl)
       have b0' := BK.out.below hF.bel BK.out.lt
       obtain ⟨y0, y1, y2, y3, y4, y5⟩ := b0'.c6
       refine Xa (v := .agg #[.bool ng, .slice A7 l7 d7, .slice A8 l8 d8, .slice A1 n1 c1, .slice A2 n2 c2, .slice A3 n3 c3]) _ rfl rfl ?_ (show DrR _ _ _ _ _ _ _ _ _ _ _ _ from ⟨hF.bel, hF.fx.step (.inr rfl), hF.v6, hF.v15, hF.v16, hF.v17, hF.v18, hF.v19, hF.v20, hF.v21⟩)
       clear hF hS hd hp
       go_simp
      case refine_2 =>
       intro d val a' w' hS hF hd hp
       have e8 : a'.tmps[0]?.getD undef = .slice (some ad) n c := hS.arg 0 (by kernel_rfl)
       refine Xa (v := .slice (some ad) n c) _ rfl rfl ?_ (show DrR _ _ _ _ _ _ _ _ _ _ _ _ from ⟨hF.bel, hF.fx.step (.inr rfl), hF.v6, hF.v15, hF.v16, hF.v17, hF.v18, hF.v19, hF.v20, hF.v21⟩)
       clear hF hS hd hp
       go_simp
      case refine_3 =>
       intro d val a' w' hS hF hd hp
       have e8 : a'.tmps[18]?.getD undef = .int .i64 (i : Int) := hS.arg 18 (by kernel_rfl)
       refine Xa (v := .int .i64 (i : Int)) _ rfl rfl ?_ (show DrR _ _ _ _ _ _ _ _ _ _ _ _ from ⟨hF.bel, hF.fx.step (.inr rfl), hF.v6, hF.v15, hF.v16, hF.v17, hF.v18, hF.v19, hF.v20, hF.v21⟩)
       clear hF hS hd hp
       go_simp
      case refine_4 =>
       intro d val a' w' hS hF hd hp
       have e1 : a'.tmps[71]?.getD undef = .int .i64 (i : Int) := (hS.res 2 71 (hp 2 (by kernel_rfl)) rfl (by kernel_rfl)).trans (hF.fx 2 _ rfl (hp 2 (by kernel_rfl)))
       refine Xa (v := .int .i64 ((i : Int) + 1)) _ rfl rfl ?_ (show DrR _ _ _ _ _ _ _ _ _ _ _ _ from ⟨hF.bel, hF.fx.step (.inr rfl), hF.v6, hF.v15, hF.v16, hF.v17, hF.v18, hF.v19, hF.v20, hF.v21⟩)
       clear hF hS hd hp
       go_simp
      case refine_5 =>
       intro d val a' w' hS hF hd hp
       have e1 : a'.tmps[70]?.getD undef = .slice (some ad) n c := (hS.res 1 70 (hp 1 (by kernel_rfl)) rfl (by kernel_rfl)).trans (hF.fx 1 _ rfl (hp 1 (by kernel_rfl)))
       have e2 : a'.tmps[72]?.getD undef = .int .i64 ((i : Int) + 1) := (hS.res 3 72 (hp 3 (by kernel_rfl)) rfl (by kernel_rfl)).trans (hF.fx 3 _ rfl (hp 3 (by kernel_rfl)))
       refine Xa (v := .slice A9 n9 c9) _ rfl rfl ?_ (show DrR _ _ _ _ _ _ _ _ _ _ _ _ from ⟨hF.bel, hF.fx.step (.inr rfl), hF.v6, hF.v15, hF.v16, hF.v17, hF.v18, hF.v19, hF.v20, hF.v21⟩)
       clear hF hS hd hp
       go_simp
      case refine_6 =>
       intro d val a' w' hS hF hd hp
       have e8 : a'.tmps[15]?.getD undef = .slice AW k cW := hS.arg 15 (by kernel_rfl)
       refine Xa (v := .slice AW k cW) _ rfl rfl ?_ (show DrR _ _ _ _ _ _ _ _ _ _ _ _ from ⟨hF.bel, hF.fx.step (.inr rfl), hF.v6, hF.v15, hF.v16, hF.v17, hF.v18, hF.v19, hF.v20, hF.v21⟩)
       clear hF hS hd hp
       go_simp
      case refine_7 =>
       intro d val a' w' hS hF hd hp
       have e1 : a'.tmps[73]?.getD undef = .slice A9 n9 c9 := (hS.res 4 73 (hp 4 (by kernel_rfl)) rfl (by kernel_rfl)).trans (hF.fx 4 _ rfl (hp 4 (by kernel_rfl)))
       have e2 : a'.tmps[74]?.getD undef = .slice AW k cW := (hS.res 5 74 (hp 5 (by kernel_rfl)) rfl (by kernel_rfl)).trans (hF.fx 5 _ rfl (hp 5 (by kernel_rfl)))
       have aC := HBX.out.trans (hF.bel.mono HBX.out.size)
       refine Jjm (Ψ := fun v w'' => DrR wr _ _ _ _ _ _ _ _ (upI d 6) (Jf3 val 6 v) w'') _ rfl rfl (args := #[.slice A9 n9 c9, .slice AW k cW]) (w2 := w') (f := 25) ?_ ?_
       ·clear hF hS hd hp
        go_simp
       refine (Jpc A9 n9 c9 (l.drop (i + 1)) AW k cW (Jon cols) w5.heap.size w' (rkindI.below HCUT.out aC) (rkindI.below HRW.out aC) aC.size (by omega) (fun x hx => HL.out x (List.mem_of_mem_drop hx)) (by omega) (fun x hx => by have := Jou hx; omega)).mono ?_
       rintro e w2 ⟨v, rfl, bN, -, j0⟩
       have hG := hF.next j0
       rw [t7] at bN
       obtain ⟨A6, c6, cQ, -⟩ := bN.form
       rw [show row.length = k by rw [<- t7, Jkw]; exact HWL.out] at cQ
       subst cQ
       exact ⟨_, rfl, ⟨hG.bel, hG.fx.step (.inl rfl), fun _ => ⟨A6, c6, rfl, fun _ => NRow.readsI (NRow.of bN)⟩, hG.v15, hG.v16, hG.v17, hG.v18, hG.v19, hG.v20, hG.v21⟩⟩
      case refine_8 =>
       intro d val a' w' hS hF hd hp
       have e8 : a'.tmps[0]?.getD undef = .slice (some ad) n c := hS.arg 0 (by kernel_rfl)
       refine Xa (v := .slice (some ad) n c) _ rfl rfl ?_ (show DrR _ _ _ _ _ _ _ _ _ _ _ _ from ⟨hF.bel, hF.fx.step (.inr rfl), hF.v6, hF.v15, hF.v16, hF.v17, hF.v18, hF.v19, hF.v20, hF.v21⟩)
       clear hF hS hd hp
       go_simp
      case refine_9 =>
       intro d val a' w' hS hF hd hp
       have e8 : a'.tmps[18]?.getD undef = .int .i64 (i : Int) := hS.arg 18 (by kernel_rfl)
       refine Xa (v := .int .i64 (i : Int)) _ rfl rfl ?_ (show DrR _ _ _ _ _ _ _ _ _ _ _ _ from ⟨hF.bel, hF.fx.step (.inr rfl), hF.v6, hF.v15, hF.v16, hF.v17, hF.v18, hF.v19, hF.v20, hF.v21⟩)
       clear hF hS hd hp
       go_simp
      case refine_10 =>
       intro d val a' w' hS hF hd hp
       have e1 : a'.tmps[76]?.getD undef = .slice (some ad) n c := (hS.res 7 76 (hp 7 (by kernel_rfl)) rfl (by kernel_rfl)).trans (hF.fx 7 _ rfl (hp 7 (by kernel_rfl)))
       have e2 : a'.tmps[77]?.getD undef = .int .i64 (i : Int) := (hS.res 8 77 (hp 8 (by kernel_rfl)) rfl (by kernel_rfl)).trans (hF.fx 8 _ rfl (hp 8 (by kernel_rfl)))
       refine Xa (v := .pointer (some (ad.add i))) _ rfl rfl ?_ (show DrR _ _ _ _ _ _ _ _ _ _ _ _ from ⟨hF.bel, hF.fx.step (.inr rfl), hF.v6, hF.v15, hF.v16, hF.v17, hF.v18, hF.v19, hF.v20, hF.v21⟩)
       clear hF hS hd hp
       go_simp
      case refine_11 =>
       intro d val a' w' hS hF hd hp
       have e1 : a'.tmps[78]?.getD undef = .pointer (some (ad.add i)) := (hS.res 9 78 (hp 9 (by kernel_rfl)) rfl (by kernel_rfl)).trans (hF.fx 9 _ rfl (hp 9 (by kernel_rfl)))
       rw [gG] at e1
       have aB := b5.below (HBY.out.trans (hF.bel.mono HBY.out.size)) (Nat.lt_of_lt_of_le gH HBB.out)
       have bJ := aB.1
       refine Xa (v := .int .i64 y) _ rfl rfl ?_ (show DrR _ _ _ _ _ _ _ _ _ _ _ _ from ⟨hF.bel, hF.fx.step (.inr rfl), hF.v6, hF.v15, hF.v16, hF.v17, hF.v18, hF.v19, hF.v20, hF.v21⟩)
       clear hF hS hd hp
       go_simp
      case refine_12 =>
       intro d val a' w' hS hF hd hp
       have e8 : a'.tmps[17]?.getD undef = .pointer (some ⟨g, 0, none⟩) := hS.arg 17 (by kernel_rfl)
       refine Xa (v := .pointer (some ⟨g, 4, none⟩)) _ rfl rfl ?_ (show DrR _ _ _ _ _ _ _ _ _ _ _ _ from ⟨hF.bel, hF.fx.step (.inr rfl), hF.v6, hF.v15, hF.v16, hF.v17, hF.v18, hF.v19, hF.v20, hF.v21⟩)
       clear hF hS hd hp
       go_simp
      case refine_13 =>
       intro d val a' w' hS hF hd hp
       have e1 : a'.tmps[80]?.getD undef = .pointer (some ⟨g, 4, none⟩) := (hS.res 11 80 (hp 11 (by kernel_rfl)) rfl (by kernel_rfl)).trans (hF.fx 11 _ rfl (hp 11 (by kernel_rfl)))
       have b0' := BK.out.below hF.bel BK.out.lt
       obtain ⟨y0, y1, y2, y3, y4, y5⟩ := b0'.c6
       refine Xa (v := .slice A2 n2 c2) _ rfl rfl ?_ (show DrR _ _ _ _ _ _ _ _ _ _ _ _ from ⟨hF.bel, hF.fx.step (.inr rfl), hF.v6, hF.v15, hF.v16, hF.v17, hF.v18, hF.v19, hF.v20, hF.v21⟩)
       clear hF hS hd hp
       go_simp
      case refine_14 =>
       intro d val a' w' hS hF hd hp
       have e1 : a'.tmps[81]?.getD undef = .slice A2 n2 c2 := (hS.res 12 81 (hp 12 (by kernel_rfl)) rfl (by kernel_rfl)).trans (hF.fx 12 _ rfl (hp 12 (by kernel_rfl)))
       refine Xa (v := .int .i64 (n2 : Int)) _ rfl rfl ?_ (show DrR _ _ _ _ _ _ _ _ _ _ _ _ from ⟨hF.bel, hF.fx.step (.inr rfl), hF.v6, hF.v15, hF.v16, hF.v17, hF.v18, hF.v19, hF.v20, hF.v21⟩)
       clear hF hS hd hp
       go_simp
      case refine_15 =>
       intro d val a' w' hS hF hd hp
       have e1 : a'.tmps[79]?.getD undef = .int .i64 y := (hS.res 10 79 (hp 10 (by kernel_rfl)) rfl (by kernel_rfl)).trans (hF.fx 10 _ rfl (hp 10 (by kernel_rfl)))
       have e2 : a'.tmps[82]?.getD undef = .int .i64 (n2 : Int) := (hS.res 13 82 (hp 13 (by kernel_rfl)) rfl (by kernel_rfl)).trans (hF.fx 13 _ rfl (hp 13 (by kernel_rfl)))
       refine Jjm (Ψ := fun v w'' => DrR wr _ _ _ _ _ _ _ _ (upI d 14) (Jf3 val 14 v) w'') _ rfl rfl (args := #[.int .i64 y, .int .i64 (n2 : Int)]) (w2 := w') (f := 13) ?_ ?_
       ·clear hF hS hd hp
        go_simp
       refine (HPK.out n2 dX.1 (by omega) y w' (HL.out y (List.mem_of_getElem? hy)).1 (HL.out y (List.mem_of_getElem? hy)).2).mono ?_
       rintro e w2 ⟨rfl, rfl⟩
       rw [bD]
       exact ⟨_, rfl, ⟨hF.bel, hF.fx.step (.inr rfl), hF.v6, hF.v15, hF.v16, hF.v17, hF.v18, hF.v19, hF.v20, hF.v21⟩⟩
      case refine_16 =>
       intro d val a' w' hS hF hd hp
       have e1 : a'.tmps[69]?.getD undef = .agg #[.bool ng, .slice A7 l7 d7, .slice A8 l8 d8, .slice A1 n1 c1, .slice A2 n2 c2, .slice A3 n3 c3] := (hS.res 0 69 (hp 0 (by kernel_rfl)) rfl (by kernel_rfl)).trans (hF.fx 0 _ rfl (hp 0 (by kernel_rfl)))
       have e3 : a'.tmps[83]?.getD undef = .int .i64 (cn : Int) := (hS.res 14 83 (hp 14 (by kernel_rfl)) rfl (by kernel_rfl)).trans (hF.fx 14 _ rfl (hp 14 (by kernel_rfl)))
       have e2 := hS.res 6 75 (hp 6 (by kernel_rfl)) rfl (by kernel_rfl)
       obtain ⟨A6, c6, e6, h6⟩ := hF.v6 (hp 6 (by kernel_rfl))
       rw [e6] at e2
       have h6 := h6 hd
       refine Jjm (Ψ := fun v w'' => DrR wr _ _ _ _ _ _ _ _ (upI d 15) (Jf3 val 15 v) w'') _ rfl rfl (args := #[.agg #[.bool ng, .slice A7 l7 d7, .slice A8 l8 d8, .slice A1 n1 c1, .slice A2 n2 c2, .slice A3 n3 c3], .slice A6 k c6, .int .i64 (cn : Int)]) (w2 := w') (f := 31) ?_ ?_
       ·clear hF hS hd hp
        go_simp
       refine (HTE.out w' hF.bel A6 c6 h6).mono ?_
       rintro e w2 ⟨v, rfl, ⟨u, rfl, S, C, G', H', rfl, hs, dK, t8, bO⟩, j0⟩
       have hG := hF.next j0
       have aV := hF.bel.size
       refine ⟨_, rfl, ⟨hG.bel, hG.fx.step (.inl rfl), fun h => (hG.v6 h).imp fun A h => h.imp fun c h => ⟨h.1, fun h' => Bool.noConfusion (show true = false from h')⟩, fun _ => ⟨_, _, _, _, _, _, rfl, by simp [Value.oneCell', SW.v], S, C, G', H', rfl, hs, dK, fun x hx => ⟨nt aV (t8 x hx).1, (t8 x hx).2⟩, fun x hx => nt aV (bO x hx), fun x hx => ?_⟩, fun h => absurd ((hF.v16 h).1) (by rw [hd]; decide), fun h => absurd ((hF.v17 h).1) (by rw [hd]; decide), fun h => absurd ((hF.v18 h).1) (by rw [hd]; decide), hG.v19, hG.v20, hG.v21⟩⟩
       obtain ⟨g', z0, z1, z2, z3, z4, z5, e11, eB, aU, -⟩ := hF.v19 hx.1
       have e12 := Jps (e11.symm.trans hx.2)
       subst e12
       have bF := aU.lt
       exact ⟨fun e => by have := (t8 _ e).1; omega, fun e => by have := bO _ e; omega⟩
      case refine_17 =>
       intro d val a' w' hS hF hd hp
       have e1 := hS.res 15 84 (hp 15 (by kernel_rfl)) rfl (by kernel_rfl)
       have h6 := hp 15 (by kernel_rfl)
       refine Xa (v := val 15) _ rfl rfl ?_ (show DrR _ _ _ _ _ _ _ _ _ _ _ _ from ⟨hF.bel, hF.fx.step (.inl rfl), hF.v6, hF.v15, fun _ => ⟨h6, rfl⟩, hF.v17, hF.v18, hF.v19, hF.v20, hF.v21⟩)
       clear hF hS hd hp
       go_simp
      case refine_18 =>
       intro d val a' w' hS hF hd hp
       have e1 := hS.res 16 68 (hp 16 (by kernel_rfl)) rfl (by kernel_rfl)
       obtain ⟨h6, h7⟩ := hF.v16 (hp 16 (by kernel_rfl))
       obtain ⟨q0, q1', q2', q3, q4, q5, e6, -⟩ := hF.v15 h6
       rw [h7, e6] at e1
       refine Xa (v := .agg #[q0, q1', q2', q3, q4, q5]) _ rfl rfl ?_ (show DrR _ _ _ _ _ _ _ _ _ _ _ _ from ⟨hF.bel, hF.fx.step (.inl rfl), hF.v6, hF.v15, hF.v16, fun _ => ⟨h6, fun u y (e : val 15 = _) => by rw [e6] at e; injection e with e; exact (Jq6 e).1⟩, hF.v18, fun h => (hF.v19 h).imp fun g h => h.imp fun y0 h => h.imp fun y1 h => h.imp fun y2 h => h.imp fun y3 h => h.imp fun y4 h => h.imp fun y5 h => ⟨h.1, h.2.1, h.2.2.1, fun h' => absurd (h.2.2.2 h').1 (by rw [hd]; decide)⟩, hF.v20, hF.v21⟩)
       clear hF hS hd hp
       go_simp
      case refine_19 =>
       intro d val a' w' hS hF hd hp
       have e1 := hS.res 16 68 (hp 16 (by kernel_rfl)) rfl (by kernel_rfl)
       obtain ⟨h6, h7⟩ := hF.v16 (hp 16 (by kernel_rfl))
       obtain ⟨q0, q1', q2', q3, q4, q5, e6, -⟩ := hF.v15 h6
       rw [h7, e6] at e1
       refine Xa (v := .int .i64 0) _ rfl rfl ?_ (show DrR _ _ _ _ _ _ _ _ _ _ _ _ from ⟨hF.bel, hF.fx.step (.inl rfl), hF.v6, hF.v15, hF.v16, hF.v17, fun _ => ⟨h6, fun u y (e : val 15 = _) => by rw [e6] at e; injection e with e; exact (Jq6 e).2⟩, hF.v19, hF.v20, fun h => absurd ((hF.v21 h).1) (by rw [hd]; decide)⟩)
       clear hF hS hd hp
       go_simp
      case refine_20 =>
       intro d val a' w' hS hF hd hp
       have hG := hF.next (Jb w' (.cells #[.bool false, .slice none 0 0, .slice none 0 0, .slice none 0 0, .slice none 0 0, .slice none 0 0] 31))
       have aV := hF.bel.size
       refine Xa (v := .pointer (some ⟨w'.heap.size, 0, none⟩)) (w2 := w'.alloc (.cells #[.bool false, .slice none 0 0, .slice none 0 0, .slice none 0 0, .slice none 0 0, .slice none 0 0] 31)) _ rfl rfl ?_ (show DrR _ _ _ _ _ _ _ _ _ _ _ _ from ⟨hG.bel, hG.fx.step (.inl rfl), hG.v6, fun h => ?_, hG.v16, hG.v17, hG.v18, fun _ => ⟨_, _, _, _, _, _, _, rfl, aV, Blk.new _ _ _, fun h => absurd (hF.v20 h) (by rw [hd]; decide)⟩, fun _ => rfl, hG.v21⟩)
       ·clear hG hF hS hd hp
        go_simp
       obtain ⟨q0, q1', q2', q3, q4, q5, e6, o9, bP⟩ := hF.v15 h
       exact ⟨q0, q1', q2', q3, q4, q5, e6, o9, bP.next (Jb _ _) fun g hg => .inr (by rw [<- Jps (show Value.pointer (some ⟨w'.heap.size, 0, none⟩) = .pointer (some ⟨g, 0, none⟩) from hg.2)]; exact Nat.le_refl _)⟩
      case refine_21 =>
       intro d val a' w' hS hF hd hp
       obtain ⟨h6, h8⟩ := hF.v17 (hp 17 (by kernel_rfl))
       have aG := hp 19 (by kernel_rfl)
       obtain ⟨g', z0, z1, z2, z3, z4, z5, e11, t8, aU, -⟩ := hF.v19 aG
       obtain ⟨q0, q1', q2', q3, q4, q5, e6, o9, bP⟩ := hF.v15 h6
       have e8 := h8 _ _ e6
       exact Jde _ rfl rfl _ _ _ rfl rfl g' #[q0, q1', q2', q3, q4, q5] _ ((hS.got 19 19 aG rfl (Nat.le_of_ble_eq_true (by kernel_rfl))).trans e11) ((hS.got 17 85 (hp 17 (by kernel_rfl)) rfl (Nat.le_of_ble_eq_true (by kernel_rfl))).trans e8) _ aU (by kernel_rfl) rfl o9 fun w2 j0 cR => show DrR _ _ _ _ _ _ _ _ _ _ _ _ from ⟨hF.bel.trans (cR.below hF.bel.size t8), hF.fx.step (.inl rfl), fun h => (hF.v6 h).imp fun A h => h.imp fun c h => ⟨h.1, fun h' => absurd (show d 15 = false from h') (by rw [h6]; decide)⟩, fun h => ⟨q0, q1', q2', q3, q4, q5, e6, o9, bP.exc cR ⟨aG, e11⟩⟩, hF.v16, hF.v17, hF.v18, fun _ => ⟨g', _, _, _, _, _, _, e11, t8, j0, fun _ => ⟨hp 17 (by kernel_rfl), e8⟩⟩, fun _ => aG, hF.v21⟩
      case refine_22 =>
       intro d val a' w' hS hF hd hp
       have e1 := hS.res 18 86 (hp 18 (by kernel_rfl)) rfl (by kernel_rfl)
       have h9 := hp 18 (by kernel_rfl)
       refine Xa (v := val 18) _ rfl rfl ?_ (show DrR _ _ _ _ _ _ _ _ _ _ _ _ from ⟨hF.bel, hF.fx.step (.inl rfl), hF.v6, hF.v15, hF.v16, hF.v17, hF.v18, hF.v19, hF.v20, fun _ => ⟨h9, rfl⟩⟩)
       clear hF hS hd hp
       go_simp
     intro d val w' hF hd
     simp only [Exit.then, Jd7, Act.put, List.setIfInBounds_toArray, List.set_cons_succ, List.set_cons_zero]
     refine ‹∀ a' w', Met _ a' w' -> _› _ _ ?_
     go_meet
     exact hF.end_ hd
    case rest =>
     obtain ⟨g', S, C, G', H', rfl, rfl, bk', hs, dK, t8, bO, hb⟩ := hcut
     rename World => wc
     have dL := BK.out.lt
     have bkc := BK.out.below hb dL
     have hr := Js 3 zv
     have eC := hr.loc HOA.out.1.words hb.size fun x hx => hb.block x (hr.lt HOA.out.1.words hx)
     rw [HMW.out] at eC
     have eD := fun x (hx : F x) => hr.lt HOA.out.1.words hx
     have HX := lh (And.intro (show ∀ x, F x -> x ≠ g from fun x hx e => HOA.out.2.1 (by rw [<- e]; exact hx)) (And.intro (show ∀ x, G' x -> x ≠ g from fun x hx e => by have := (t8 x hx).1; omega) (show ∀ x, H' x -> x ≠ g from fun x hx e => by have := bO x hx; omega)))
     have fI : OwB 3 22 65 w5.heap.size wc ⟨A1, n1, c1⟩ S C F G' H' m' := ⟨eC, hs, dK, HOA.out.1.from1, fun x hx => nt HBX.out.size (t8 x hx).1, fun x hx => nt HBX.out.size (bO x hx), fun x hx e => by have := eD x hx; have := (t8 x e).1; omega, fun x hx e => by have := eD x hx; have := bO x e; omega, fun x hx => (t8 x hx).2⟩
     have HO' := lh fI
     have HBC := lh (HBX.out.trans (hb.mono HBX.out.size))
     have BKC := lh bkc
     obtain ⟨x0, x1, x2, x3, x4, x5⟩ := bk'.c6
     clear fI eC eD hs dK t8 bO hb bkc bk' hr HTE HPK cN
     go_wp2_with (refine Jr rfl _ (.tmp 17) (.tmp 89) rfl g #[.bool ng, .slice A7 l7 d7, .slice A8 l8 d8, .slice A1 n1 c1, .slice S.A S.n S.c, .slice C.A C.n C.c] _ rfl rfl _ BKC.out (by kernel_rfl) rfl (by simp [Value.oneCell']) ?_; intro w8 bT fJ; have HX8 := lh fJ; have HB8 := lh bT; clear fJ bT x0 x1 x2 x3 x4 x5)
     have iE : (i : Int) + (k : Int) + 1 = ((i + k + 1 : Nat) : Int) := by omega
     have cT : DrI (Jon cols) q l M0 w5.heap.size g (.bool ng) (.slice A7 l7 d7) (.slice A8 l8 d8) w5 (i + k + 1) w8 := ⟨f', nT + 1, m', by omega, by omega, HGO.out.2.1.symm.trans HGO.out.1, HGO.out.2.2.1, by have := HGO.out.2.2.2.2.2; omega, HGO.out.2.2.2.1, HGO.out.2.2.2.2.1, ⟨⟨A1, n1, c1⟩, S, C, F, G', H', HB8.out, HO'.out.exc HX8.out (fun e => HX.out.1 g e rfl) (fun e => HX.out.2.1 g e rfl) (fun e => HX.out.2.2 g e rfl), fun e => HX.out.1 g e rfl, fun e => HX.out.2.1 g e rfl, fun e => HX.out.2.2 g e rfl⟩, HBC.out.trans (HX8.out.below HBC.out.size gD)⟩
     have HFIN := lh cT
     clear cT
     go_roundw
     case rel => exact ⟨i + k + 1, by go_num, HFIN.out⟩
     case measure => simp [intOf]; omega
  case rest =>
   obtain ⟨⟨iv, rfl⟩, nT, dV, p8, s9, aS, bK, aB⟩ := hcut
   rename World => wc
   obtain ⟨⟨A1, n1, c1⟩, ⟨A2, n2, c2⟩, ⟨A3, n3, c3⟩, F, G, Hh, bk, ho, cK⟩ := bK
   simp only [SW.v] at bk
   have fK : n1 = k := by have h1 : M0.words.length = n1 := ho.read.words.len; rw [<- h1, s9]; exact HWL.out
   subst fK
   have bL : M0.seen.length = n2 := ho.read.seen.len
   have dX : 1 <= n2 /\ n2 <= 3 := by have := p8.classes; omega
   obtain ⟨kk, fL⟩ : ∃ kk : Nat, at_ % (n2 : Int) = (kk : Int) := ⟨(at_ % (n2 : Int)).toNat, by have := Int.emod_nonneg at_ (show (n2 : Int) ≠ 0 by omega); omega⟩
   have gK : kk < n2 := by have := Int.emod_lt_of_pos at_ (show (0 : Int) < n2 by omega); omega
   obtain ⟨aq, fM⟩ : ∃ aq, at_.tdiv 3 = aq := ⟨_, rfl⟩
   have cU := (Jph HI.out.2.2.2.2.1).1
   rw [fM] at cU
   have iF := Jfv (x := aq) (by omega) (by omega)
   obtain ⟨cc, fN⟩ : ∃ cc : Nat, aq % (n1 : Int) = (cc : Int) := ⟨(aq % (n1 : Int)).toNat, by have := Int.emod_nonneg aq (show (n1 : Int) ≠ 0 by omega); omega⟩
   have gL : cc < n1 := by have := Int.emod_lt_of_pos aq (show (0 : Int) < n1 by omega); omega
   obtain ⟨tb, gM⟩ : ∃ tb, by_ % 9 = tb := ⟨_, rfl⟩
   have gO : 0 <= tb /\ tb < 9 := by omega
   obtain ⟨wy, fO⟩ : ∃ wy, way % 14 = wy := ⟨_, rfl⟩
   have fP : 7 <= wy /\ wy < 14 := by omega
   have HP3 : Hid (∀ w', Calls Tryz.prog 13 #[.int .i64 at_, .int .i64 (n2 : Int)] w' fun e w'' => e = .returned (.int .i64 (kk : Int)) /\ w' = w'') := lh fun w' => by
    have h1 := HPK.out n2 (by omega) (by omega) at_ w' HI.out.2.2.2.2.1.1 HI.out.2.2.2.2.1.2
    rw [fL] at h1
    exact h1
   have HP4 : Hid (∀ w', Calls Tryz.prog 13 #[.int .i64 aq, .int .i64 (n1 : Int)] w' fun e w'' => e = .returned (.int .i64 (cc : Int)) /\ w' = w'') := lh fun w' => by
    have h1 := HPK.out n1 (by omega) (by omega) aq w' (by omega) (by omega)
    rw [fN] at h1
    exact h1
   have HP5 : Hid (∀ w', Calls Tryz.prog 13 #[.int .i64 by_, .int .i64 9] w' fun e w'' => e = .returned (.int .i64 tb) /\ w' = w'') := lh fun w' => by
    have h1 := HPK.out 9 (by decide) (by decide) by_ w' HI.out.2.2.2.2.2.1 HI.out.2.2.2.2.2.2
    rw [show by_ % ((9 : Nat) : Int) = tb by omega] at h1
    exact h1
   have HP6 : Hid (∀ w', Calls Tryz.prog 13 #[.int .i64 way, .int .i64 14] w' fun e w'' => e = .returned (.int .i64 wy) /\ w' = w'') := lh fun w' => by
    have h1 := HPK.out 14 (by decide) (by decide) way w' HI.out.2.2.2.1.1 HI.out.2.2.2.1.2
    rw [show way % ((14 : Nat) : Int) = wy by omega] at h1
    exact h1
   obtain ⟨bb, dR⟩ : ∃ bb, tb - 2 = bb := ⟨_, rfl⟩
   have gP : -2 <= bb /\ bb <= 6 := by omega
   have iG := Jfv (x := bb) (by omega) (by omega)
   have bQ : Hid (Jo6 M0 way at_ by_ = M1 /\ (at_ % (M0.seen.length : Int)).toNat = kk /\ ((at_.tdiv 3) % (M0.words.length : Int)).toNat = cc /\ by_ % 9 - 2 = bb /\ way % 14 = wy) := lh ⟨HM.out.2, by rw [bL]; omega, by rw [s9, HWL.out, fM]; omega, by omega, fO⟩
   have BK := lh bk
   have HO := lh (And.intro ho cK)
   have HDR := lh (And.intro p8 (And.intro s9 (And.intro aS bL)))
   have HB6 := lh aB
   obtain ⟨x0, x1, x2, x3, x4, x5⟩ := bk.c6
   clear fL fN gM fO p8 s9 aS bL ho cK aB bk HPK cU
   go_wp2_with fail
   refine (HP3.out _).mono ?_
   rintro e w1 ⟨rfl, rfl⟩
   go_wp2_with fail
   refine (HP4.out _).mono ?_
   rintro e w1 ⟨rfl, rfl⟩
   go_wp2_with fail
   refine (HP5.out _).mono ?_
   rintro e w1 ⟨rfl, rfl⟩
   go_wp2_with fail
   refine (HP6.out _).mono ?_
   rintro e w1 ⟨rfl, rfl⟩
   go_upto_block 4 with fail
   go_cut [17] (fun v wd => v = .pointer (some ⟨g, 0, none⟩) /\ DrQ g w.heap.size M1 wd /\ Below W.heap.size W wd)
   case first =>
    have bU : Jpi M0 wy kk cc bb = M1 := by rw [<- bQ.out.1, Jpo, bQ.out.2.1, bQ.out.2.2.1, bQ.out.2.2.2.1, bQ.out.2.2.2.2]
    have HM1 := lh bU
    have fQ : Below W.heap.size W wc := HB5.out.trans (HB6.out.mono HB5.out.size)
    have HBV := lh fQ
    clear bU fQ
    have aM : ¬ (wy = 0 \/ wy = 1 \/ wy = 2 \/ wy = 3 \/ wy = 4 \/ wy = 5 \/ wy = 6) := by omega
    have e0 := HM1.out
    rw [Jo2 aM] at e0
    have HE := lh e0
    have p0 : (wy == 0) = false := by simp; omega
    have p1 : (wy == 1) = false := by simp; omega
    have p2 : (wy == 2) = false := by simp; omega
    have p3 : (wy == 3) = false := by simp; omega
    have p4 : (wy == 4) = false := by simp; omega
    have p5 : (wy == 5) = false := by simp; omega
    have p6 : (wy == 6) = false := by simp; omega
    have r0 : ¬ wy = 0 := by omega
    have r1 : ¬ wy = 1 := by omega
    have r2 : ¬ wy = 2 := by omega
    have r3 : ¬ wy = 3 := by omega
    have r4 : ¬ wy = 4 := by omega
    have r5 : ¬ wy = 5 := by omega
    have r6 : ¬ wy = 6 := by omega
    clear e0 aM bQ HM1
    go_wp2_with fail
    go_meet
    rw [<- HE.out]
    have b0c := B0.out.below HBV.out B0.out.lt
    have iH : w.heap.size < w5.heap.size := Nat.lt_of_lt_of_le B0.out.lt HB5.out.size
    exact ⟨rfl, ⟨ng, A7, A8, l7, d7, l8, d8, ⟨A1, n1, c1⟩, ⟨A2, n2, c2⟩, ⟨A3, n3, c3⟩, BK.out, fun w' hx => ⟨by rw [HDR.out.2.2.1]; exact ((HIQ.out.below HB6.out).more HB6.out.size).excB b0c Jq1 hx, (HO.out.1.exc hx (fun e => by have := HO.out.1.from1 _ e; omega) (fun e => by have := HO.out.1.from2 _ e; omega) (fun e => by have := HO.out.1.from3 _ e; omega)).read⟩⟩, HBV.out⟩
   case rest =>
    obtain ⟨rfl, ⟨ng', A7', A8', l7', d7', l8', d8', W', S', C', bk, hq⟩, bX⟩ := hcut
    rename World => wd
    obtain ⟨y0, y1, y2, y3, y4, y5⟩ := bk.c6
    have BR := lh (B0.out.below bX B0.out.lt)
    have HQ := lh hq
    have HBD := lh (HBW.out.trans (bX.mono HBW.out.size))
    clear bk hq bX HP3 HP4 HP5 HP6 x0 x1 x2 x3 x4 x5 HDR HO BK HB6 HRW HIQ HB5 bQ HI HL H HWL HN HM
    simp only [SW.v] at y3 y4 y5
    generalize hgR : w.heap.size = gR at BR HQ ⊢
    go_wp2_with (refine Jr rfl _ (.tmp 14) (.tmp 165) rfl gR #[.bool ng', .slice A7' l7' d7', .slice A8' l8' d8', .slice W'.A W'.n W'.c, .slice S'.A S'.n S'.c, .slice C'.A C'.n C'.c] _ rfl rfl _ BR.out (by kernel_rfl) rfl (by simp [Value.oneCell']) ?_; intro w7 aH cA; have HX7 := lh cA; have HB7 := lh aH; clear cA aH y0 y1 y2 y3 y4 y5)
    obtain ⟨p0, p1, p2, p3, p4, p5⟩ := HB7.out.c6
    refine bodyPost_ret (v := .agg #[.bool ng', .slice A7' l7' d7', .slice A8' l8' d8', .slice W'.A W'.n W'.c, .slice S'.A S'.n S'.c, .slice C'.A C'.n C'.c]) (by simp [results, Tryz.results12, go_sem, p0, p1, p2, p3, p4, p5]) rfl ?_
    exact ⟨_, rfl, ⟨ng', A7', A8', l7', d7', l8', d8', W', S', C', rfl, (HQ.out w7 HX7.out).1, (HQ.out w7 HX7.out).2⟩, HBD.out.trans (HX7.out.below HBD.out.size (Nat.le_of_eq hgR))⟩
theorem Jrt (a : Rat) : Jc2 a a = 0 := by
 unfold Jc2
 rw [if_neg Rat.lt_irrefl, if_neg Rat.lt_irrefl]
def FixR (W : World) (FX : Nat -> Option Value) (d : Nat -> Bool) (val : Nat -> Value) (w : World) : Prop := Below W.heap.size W w /\ Fixed FX d val
theorem FixR.one {W w : World} {FX : Nat -> Option Value} {d : Nat -> Bool} {val : Nat -> Value} {i : Nat} {x : Value} (h : FixR W FX d val w) (hx : FX i = some x) : FixR W FX (upI d i) (Jf3 val i x) w := ⟨h.1, h.2.step (.inr hx)⟩
theorem FixR.call {W w w' : World} {FX : Nat -> Option Value} {d : Nat -> Bool} {val : Nat -> Value} {i : Nat} {x : Value} (h : FixR W FX d val w) (hb : Below w.heap.size w w') (hx : FX i = some x) : FixR W FX (upI d i) (Jf3 val i x) w' := ⟨h.1.trans (hb.mono h.1.size), h.2.step (.inr hx)⟩
theorem Jrr (ng : Bool) (A7 A8 : Option Addr) (l7 d7 l8 d8 : Nat) (A1 A2 A3 : Option Addr) (n1 c1 n2 c2 n3 c3 : Nat) (ng' : Bool) (Y7 Y8 : Option Addr) (l7' d7' l8' d8' : Nat) (Y1 Y2 Y3 : Option Addr) (c1' c2' c3' B : Nat) (m : BM) (w : World) (h : RdB w B ⟨A1, n1, c1⟩ ⟨A2, n2, c2⟩ ⟨A3, n3, c3⟩ m) (hq : IsQ w B (.agg #[.bool ng, .slice A7 l7 d7, .slice A8 l8 d8]) m.smooth)
  (h' : RdB w B ⟨Y1, n1, c1'⟩ ⟨Y2, n2, c2'⟩ ⟨Y3, n3, c3'⟩ m) (bY : IsQ w B (.agg #[.bool ng', .slice Y7 l7' d7', .slice Y8 l8' d8']) m.smooth) (hB : B <= w.heap.size) (hL : LenB m) (hs : QS 68719476736 m.smooth) :
  Calls Tryz.prog 59 #[.agg #[.bool ng, .slice A7 l7 d7, .slice A8 l8 d8, .slice A1 n1 c1, .slice A2 n2 c2, .slice A3 n3 c3], .agg #[.bool ng', .slice Y7 l7' d7', .slice Y8 l8' d8', .slice Y1 n1 c1', .slice Y2 n2 c2', .slice Y3 n3 c3']] w (Ret (.bool true) w) := by
 have cE : m.words.length = n1 := h.words.len
 have cF : m.seen.length = n2 := h.seen.len
 have cZ : m.counts.length = n3 := ReadsS.len h.counts
 have hn : n1 <= 1000 /\ n2 <= 1000 /\ n3 <= 1000 := by have := hL.words; have := hL.seen; have := hL.counts; omega
 obtain ⟨b0, b1, hB, hZ⟩ := bx2 w 31 #[.bool ng, .slice A7 l7 d7, .slice A8 l8 d8, .slice A1 n1 c1, .slice A2 n2 c2, .slice A3 n3 c3] 31 #[.bool ng', .slice Y7 l7' d7', .slice Y8 l8' d8', .slice Y1 n1 c1', .slice Y2 n2 c2', .slice Y3 n3 c3']
 go_enter Tryz.func59, Tryz.ntmps59
 go_upto_region 1 with fail
 generalize ((w.alloc (.cells #[.bool ng, .slice A7 l7 d7, .slice A8 l8 d8, .slice A1 n1 c1, .slice A2 n2 c2, .slice A3 n3 c3] 31)).alloc (.cells #[.bool ng', .slice Y7 l7' d7', .slice Y8 l8' d8', .slice Y1 n1 c1', .slice Y2 n2 c2', .slice Y3 n3 c3'] 31)) = W at *
 rename B <= w.heap.size => hBB
 have HCM : Hid (∀ w', Below w.heap.size w w' -> Calls Tryz.prog 76 #[.agg #[.bool ng, .slice A7 l7 d7, .slice A8 l8 d8], .agg #[.bool ng', .slice Y7 l7' d7', .slice Y8 l8' d8']] w' (Ret (.int .i64 0) w')) := lh fun w' hb => by
  have h1 := Jrx m.smooth m.smooth B _ _ w' (hq.below (hb.mono hBB)) (bY.below (hb.mono hBB)) (nt hBB hb.size) hs hs
  rw [Jrt] at h1
  exact h1
 have HSW : Hid (∀ w', Below w.heap.size w w' -> Calls Tryz.prog 106 #[.slice A1 n1 c1, .slice Y1 n1 c1'] w' (Ret (.bool true) w')) := lh fun w' hb => (Jq8 A1 Y1 n1 c1 c1' m.words B B w' (rkindI.below h.words (hb.mono hBB)) (rkindI.below h'.words (hb.mono hBB)) (by omega)).mono fun e w'' h => ⟨h.1, by obtain ⟨k, hk⟩ := h.2; rw [hk]; exact Jw (Below.refl _ _) k⟩
 have HSS : Hid (∀ w', Below w.heap.size w w' -> Calls Tryz.prog 106 #[.slice A2 n2 c2, .slice Y2 n2 c2'] w' (Ret (.bool true) w')) := lh fun w' hb => (Jq8 A2 Y2 n2 c2 c2' m.seen B B w' (rkindI.below h.seen (hb.mono hBB)) (rkindI.below h'.seen (hb.mono hBB)) (by omega)).mono fun e w'' h => ⟨h.1, by obtain ⟨k, hk⟩ := h.2; rw [hk]; exact Jw (Below.refl _ _) k⟩
 have H := lh h.counts
 have H' := lh h'.counts
 have HW := lh cZ
 have HL := lh hL
 have HBW := lh hB
 have HBB := lh hBB
 have B0 := lh b0
 have B1 := lh b1
 have aN := b0.lt
 have bG := b1.lt
 have aV := hB.size
 have q0 : ((0 : Int) != 0) = false := by simp
 have q1 : ((n3 : Int) != (n3 : Int)) = false := by simp
 have q2 : ((n3 : Int) == (n3 : Int)) = true := by simp
 obtain ⟨x0, x1, x2, x3, x4, x5⟩ := b0.c6
 obtain ⟨y0, y1, y2, y3, y4, y5⟩ := b1.c6
 clear h h' hq bY hL hs cE cF cZ hB hZ hBB b0 b1
 go_wp2_with fail
 refine (HCM.out _ HBW.out).mono ?_
 rintro e w1 ⟨rfl, aA⟩
 have HB1 := lh (HBW.out.trans (aA.mono HBW.out.size))
 have B0' := B0.out.below aA aN
 have B1' := B1.out.below aA bG
 have HS1 := lh aA
 clear aA x0 x1 x2 x3 x4 x5 y0 y1 y2 y3 y4 y5
 obtain ⟨x0, x1, x2, x3, x4, x5⟩ := B0'.c6
 obtain ⟨y0, y1, y2, y3, y4, y5⟩ := B1'.c6
 go_wp2_with fail
 refine (HSW.out _ HB1.out).mono ?_
 rintro e w2 ⟨rfl, j0⟩
 have aO := HS1.out.trans (j0.mono HS1.out.size)
 have B0'' := B0.out.below aO aN
 have B1'' := B1.out.below aO bG
 have HS2 := lh aO
 have HB2 := lh (HBW.out.trans (aO.mono HBW.out.size))
 clear j0 aO x0 x1 x2 x3 x4 x5 y0 y1 y2 y3 y4 y5 B0' B1' HS1 HB1
 obtain ⟨x0, x1, x2, x3, x4, x5⟩ := B0''.c6
 obtain ⟨y0, y1, y2, y3, y4, y5⟩ := B1''.c6
 go_wp2_with fail
 refine (HSS.out _ HB2.out).mono ?_
 rintro e w3 ⟨rfl, j9⟩
 have aW := HS2.out.trans (j9.mono HS2.out.size)
 have B03 := B0.out.below aW aN
 have B13 := B1.out.below aW bG
 have HS3 := lh aW
 clear j9 aW x0 x1 x2 x3 x4 x5 y0 y1 y2 y3 y4 y5 B0'' B1'' HS2 HB2
 obtain ⟨x0, x1, x2, x3, x4, x5⟩ := B03.c6
 obtain ⟨y0, y1, y2, y3, y4, y5⟩ := B13.c6
 clear B03 B13
 go_wp2_with fail
 clear x0 x1 x2 x3 x4 x5 y0 y1 y2 y3 y4 y5
 go_loopw [5] (fun p wr => ∃ k : Nat, k <= n3 /\ p = .int .i64 (k : Int) /\ Below W.heap.size W wr) (fun p _ => n3 - (intOf p).toNat)
 case atStart => exact ⟨0, by omega, rfl, HS3.out⟩
 case round =>
  obtain ⟨k, hk, rfl, p9⟩ := hrel
  rename World => wr
  have HBR := lh p9
  have b0 := B0.out.below p9 aN
  have b1 := B1.out.below p9 bG
  have l6 := HBW.out.trans (p9.mono HBW.out.size)
  obtain ⟨x0, x1, x2, x3, x4, x5⟩ := b0.c6
  obtain ⟨y0, y1, y2, y3, y4, y5⟩ := b1.c6
  by_cases eY : k < n3
  ·as_aux_lemma =>
   have k1 : (k : Int) < (n3 : Int) := by omega
   obtain ⟨t, ht⟩ : ∃ t, m.counts[k]? = some t := ⟨_, List.getElem?_eq_getElem (by have := HW.out; omega)⟩
   obtain ⟨ad, A4, n4, c4, rfl, bF, hc, hr⟩ := H.out.at_ ht
   obtain ⟨ad', Y4, n4', c4', rfl, bR, eE, eF⟩ := H'.out.at_ ht
   have eG : t.length = n4 := ReadsS.len hr
   obtain rfl : n4' = n4 := by rw [<- eG]; exact (ReadsS.len eF).symm
   have iI : n4' <= 1000 := by have := (HL.out.rows t (List.mem_of_getElem? ht)).1; omega
   have aX := (HL.out.rows t (List.mem_of_getElem? ht)).2
   have bB := Qg (l6.mono HBB.out) hc bF
   have bW := Qg (l6.mono HBB.out) eE bR
   have q3 : ((n4' : Int) != (n4' : Int)) = false := by simp
   have q4 : ((n4' : Int) == (n4' : Int)) = true := by simp
   have HR := lh (And.intro hr (And.intro eF (And.intro eG aX)))
   have HCC := lh (And.intro bB bW)
   have gQ := l6.size
   have HK1 := lh (fun w' (hb : Below w.heap.size w w') => Qg (hb.mono HBB.out) hc bF)
   have HK2 := lh (fun w' (hb : Below w.heap.size w w') => Qg (hb.mono HBB.out) eE bR)
   have HB9 := lh l6
   clear hc eE hr eF eG aX ht b0 b1 p9 bF bR
   go_upto_region 6 with fail
   go_cut [57] (fun v wc => v = .bool false /\ Below wr.heap.size wr wc)
   case first =>
    go_quiet (fail)
    go_wp2_with fail
    go_meet
    exact ⟨rfl, Jw (Below.refl _ _) _⟩
   case rest =>
    obtain ⟨rfl, aY⟩ := hcut
    rename World => wc
    clear x0 x1 x2 x3 x4 x5 y0 y1 y2 y3 y4 y5
    have HBC := lh (HBR.out.trans (aY.mono HBR.out.size))
    clear aY
    go_wp2_with fail
    go_loopw [6] (fun p w2 => ∃ c : Nat, c <= n4' /\ p = .int .i64 (c : Int) /\ Below W.heap.size W w2) (fun p _ => n4' - (intOf p).toNat)
    case atStart => exact ⟨0, by omega, rfl, HBC.out⟩
    case round =>
     obtain ⟨c, hc, rfl, j0⟩ := hrel
     rename World => w2
     have HB2 := lh j0
     have j7 := HBW.out.trans (j0.mono HBW.out.size)
     have b0 := B0.out.below j0 aN
     have b1 := B1.out.below j0 bG
     obtain ⟨x0, x1, x2, x3, x4, x5⟩ := b0.c6
     obtain ⟨y0, y1, y2, y3, y4, y5⟩ := b1.c6
     have bB := HK1.out w2 j7
     have bW := HK2.out w2 j7
     by_cases bD : c < n4'
     ·as_aux_lemma =>
      have k2 : (c : Int) < (n4' : Int) := by omega
      obtain ⟨j8, aD⟩ : ∃ j8, t[c]? = some j8 := ⟨_, List.getElem?_eq_getElem (by have := HR.out.2.2.1; omega)⟩
      obtain ⟨ad5, A5, n5, c5, rfl, dA, eH, eI⟩ := HR.out.1.at_ aD
      obtain ⟨ad6, A6, n6, c6, rfl, dB, eJ, eK⟩ := HR.out.2.1.at_ aD
      have fR : j8.length = n5 := ReadsI.len eI
      obtain rfl : n6 = n5 := by rw [<- fR]; exact (ReadsI.len eK).symm
      have aE : n6 <= 1000 := by have := HR.out.2.2.2 j8 (List.mem_of_getElem? aD); omega
      have HC56 := lh (And.intro dA (And.intro eH (And.intro dB eJ)))
      have HSI : Hid (∀ w', Below w2.heap.size w2 w' -> Calls Tryz.prog 106 #[.slice A5 n6 c5, .slice A6 n6 c6] w' (Ret (.bool true) w')) := lh fun w' hb => by
       have aC := j7.trans (hb.mono j7.size)
       exact (Jq8 A5 A6 n6 c5 c6 j8 B B w' (rkindI.below eI (aC.mono HBB.out)) (rkindI.below eK (aC.mono HBB.out)) (by omega)).mono fun e w'' h => ⟨h.1, by obtain ⟨k, hk⟩ := h.2; rw [hk]; exact Jw (Below.refl _ _) k⟩
      have dC := fun w' (hb : Below w2.heap.size w2 w') => Qg ((j7.trans (hb.mono j7.size)).mono HBB.out) eH dA
      have dD := fun w' (hb : Below w2.heap.size w2 w') => Qg ((j7.trans (hb.mono j7.size)).mono HBB.out) eJ dB
      have HK3 := lh (And.intro dC dD)
      have HBW2 := lh j7
      clear eH eJ eI eK aD dC dD j7 j0 b0 b1 fR
      go_upto_region 11 with fail
      go_cut [85] (fun v wd => v = .bool false /\ Below w2.heap.size w2 wd)
      case first =>
       refine Je0 (FixR w2 (fun j => ([some (.pointer (some ⟨w.heap.size, 5, none⟩)), some (.slice (some ad) n3 c3), some (.int .i64 (k : Int)), some (.pointer (some (ad.add k))), some ((.slice (some ad5) n4' c4)), some (.int .i64 (c : Int)), some (.pointer (some (ad5.add c))), some (.slice A5 n6 c5), some (.pointer (some ⟨w.heap.size + 1, 5, none⟩)), some ((.slice (some ad') n3 c3')), some (.int .i64 (k : Int)), some ((.pointer (some (ad'.add k)))), some ((.slice (some ad6) n4' c4')), some (.int .i64 (c : Int)), some (.pointer (some (ad6.add c))), some (.slice A6 n6 c6), some (.bool true), some (.bool false)] : List (Option Value)).getD j none)) (by kernel_rfl) (by kernel_rfl) (by kernel_rfl) ?_ ?_ [some 68, some 69, some 70, some 71, some 72, some 73, some 74, some 75, some 76, some 77, some 78, some 79, some 80, some 81, some 82, some 83, some 84, some 85] rfl ?_
       ·exact ⟨Jt _, Fixed.start _ _⟩
       ·refine ⟨⟨⟨⟨⟨⟨⟨⟨⟨⟨⟨⟨⟨⟨⟨⟨⟨⟨trivial, ?_⟩, ?_⟩, ?_⟩, ?_⟩, ?_⟩, ?_⟩, ?_⟩, ?_⟩, ?_⟩, ?_⟩, ?_⟩, ?_⟩, ?_⟩, ?_⟩, ?_⟩, ?_⟩, ?_⟩, ?_⟩
        case refine_1 =>
         intro d val a' w' hS hF hd hp
         have e8 : a'.tmps[2]?.getD undef = .pointer (some ⟨w.heap.size, 0, none⟩) := hS.arg 2 (by kernel_rfl)
         refine Xa (v := .pointer (some ⟨w.heap.size, 5, none⟩)) _ rfl rfl ?_ (show FixR _ _ _ _ _ from hF.one rfl)
         clear hF hS hd hp
         go_simp
        case refine_2 =>
         intro d val a' w' hS hF hd hp
         have e1 : a'.tmps[68]?.getD undef = .pointer (some ⟨w.heap.size, 5, none⟩) := (hS.res 0 68 (hp 0 (by kernel_rfl)) rfl (by kernel_rfl)).trans (hF.2 0 _ rfl (hp 0 (by kernel_rfl)))
         have aC := HB2.out.trans (hF.1.mono HB2.out.size)
         have b0' := B0.out.below aC aN
         obtain ⟨z0, z1, z2, z3, z4, z5⟩ := b0'.c6
         refine Xa (v := .slice (some ad) n3 c3) _ rfl rfl ?_ (show FixR _ _ _ _ _ from hF.one rfl)
         clear hF hS hd hp
         go_simp
        case refine_3 =>
         intro d val a' w' hS hF hd hp
         have e8 : a'.tmps[5]?.getD undef = .int .i64 (k : Int) := hS.arg 5 (by kernel_rfl)
         refine Xa (v := .int .i64 (k : Int)) _ rfl rfl ?_ (show FixR _ _ _ _ _ from hF.one rfl)
         clear hF hS hd hp
         go_simp
        case refine_4 =>
         intro d val a' w' hS hF hd hp
         have e1 : a'.tmps[69]?.getD undef = .slice (some ad) n3 c3 := (hS.res 1 69 (hp 1 (by kernel_rfl)) rfl (by kernel_rfl)).trans (hF.2 1 _ rfl (hp 1 (by kernel_rfl)))
         have e2 : a'.tmps[70]?.getD undef = .int .i64 (k : Int) := (hS.res 2 70 (hp 2 (by kernel_rfl)) rfl (by kernel_rfl)).trans (hF.2 2 _ rfl (hp 2 (by kernel_rfl)))
         refine Xa (v := .pointer (some (ad.add k))) _ rfl rfl ?_ (show FixR _ _ _ _ _ from hF.one rfl)
         clear hF hS hd hp
         go_simp
        case refine_5 =>
         intro d val a' w' hS hF hd hp
         have e1 : a'.tmps[71]?.getD undef = .pointer (some (ad.add k)) := (hS.res 3 71 (hp 3 (by kernel_rfl)) rfl (by kernel_rfl)).trans (hF.2 3 _ rfl (hp 3 (by kernel_rfl)))
         have aZ := HK1.out w' (HBW2.out.trans (hF.1.mono HBW2.out.size))
         refine Xa (v := (.slice (some ad5) n4' c4)) _ rfl rfl ?_ (show FixR _ _ _ _ _ from hF.one rfl)
         clear hF hS hd hp
         go_simp
        case refine_6 =>
         intro d val a' w' hS hF hd hp
         have e8 : a'.tmps[6]?.getD undef = .int .i64 (c : Int) := hS.arg 6 (by kernel_rfl)
         refine Xa (v := .int .i64 (c : Int)) _ rfl rfl ?_ (show FixR _ _ _ _ _ from hF.one rfl)
         clear hF hS hd hp
         go_simp
        case refine_7 =>
         intro d val a' w' hS hF hd hp
         have e1 : a'.tmps[72]?.getD undef = (.slice (some ad5) n4' c4) := (hS.res 4 72 (hp 4 (by kernel_rfl)) rfl (by kernel_rfl)).trans (hF.2 4 _ rfl (hp 4 (by kernel_rfl)))
         have e2 : a'.tmps[73]?.getD undef = .int .i64 (c : Int) := (hS.res 5 73 (hp 5 (by kernel_rfl)) rfl (by kernel_rfl)).trans (hF.2 5 _ rfl (hp 5 (by kernel_rfl)))
         refine Xa (v := .pointer (some (ad5.add c))) _ rfl rfl ?_ (show FixR _ _ _ _ _ from hF.one rfl)
         clear hF hS hd hp
         go_simp
        case refine_8 =>
         intro d val a' w' hS hF hd hp
         have e1 : a'.tmps[74]?.getD undef = .pointer (some (ad5.add c)) := (hS.res 6 74 (hp 6 (by kernel_rfl)) rfl (by kernel_rfl)).trans (hF.2 6 _ rfl (hp 6 (by kernel_rfl)))
         have aZ := HK3.out.1 w' hF.1
         refine Xa (v := .slice A5 n6 c5) _ rfl rfl ?_ (show FixR _ _ _ _ _ from hF.one rfl)
         clear hF hS hd hp
         go_simp
        case refine_9 =>
         intro d val a' w' hS hF hd hp
         have e8 : a'.tmps[3]?.getD undef = .pointer (some ⟨w.heap.size + 1, 0, none⟩) := hS.arg 3 (by kernel_rfl)
         refine Xa (v := .pointer (some ⟨w.heap.size + 1, 5, none⟩)) _ rfl rfl ?_ (show FixR _ _ _ _ _ from hF.one rfl)
         clear hF hS hd hp
         go_simp
        case refine_10 =>
         intro d val a' w' hS hF hd hp
         have e1 : a'.tmps[76]?.getD undef = .pointer (some ⟨w.heap.size + 1, 5, none⟩) := (hS.res 8 76 (hp 8 (by kernel_rfl)) rfl (by kernel_rfl)).trans (hF.2 8 _ rfl (hp 8 (by kernel_rfl)))
         have aC := HB2.out.trans (hF.1.mono HB2.out.size)
         have b0' := B1.out.below aC bG
         obtain ⟨z0, z1, z2, z3, z4, z5⟩ := b0'.c6
         refine Xa (v := (.slice (some ad') n3 c3')) _ rfl rfl ?_ (show FixR _ _ _ _ _ from hF.one rfl)
         clear hF hS hd hp
         go_simp
        case refine_11 =>
         intro d val a' w' hS hF hd hp
         have e8 : a'.tmps[5]?.getD undef = .int .i64 (k : Int) := hS.arg 5 (by kernel_rfl)
         refine Xa (v := .int .i64 (k : Int)) _ rfl rfl ?_ (show FixR _ _ _ _ _ from hF.one rfl)
         clear hF hS hd hp
         go_simp
        case refine_12 =>
         intro d val a' w' hS hF hd hp
         have e1 : a'.tmps[77]?.getD undef = (.slice (some ad') n3 c3') := (hS.res 9 77 (hp 9 (by kernel_rfl)) rfl (by kernel_rfl)).trans (hF.2 9 _ rfl (hp 9 (by kernel_rfl)))
         have e2 : a'.tmps[78]?.getD undef = .int .i64 (k : Int) := (hS.res 10 78 (hp 10 (by kernel_rfl)) rfl (by kernel_rfl)).trans (hF.2 10 _ rfl (hp 10 (by kernel_rfl)))
         refine Xa (v := (.pointer (some (ad'.add k)))) _ rfl rfl ?_ (show FixR _ _ _ _ _ from hF.one rfl)
         clear hF hS hd hp
         go_simp
        case refine_13 =>
         intro d val a' w' hS hF hd hp
         have e1 : a'.tmps[79]?.getD undef = (.pointer (some (ad'.add k))) := (hS.res 11 79 (hp 11 (by kernel_rfl)) rfl (by kernel_rfl)).trans (hF.2 11 _ rfl (hp 11 (by kernel_rfl)))
         have aZ := HK2.out w' (HBW2.out.trans (hF.1.mono HBW2.out.size))
         refine Xa (v := (.slice (some ad6) n4' c4')) _ rfl rfl ?_ (show FixR _ _ _ _ _ from hF.one rfl)
         clear hF hS hd hp
         go_simp
        case refine_14 =>
         intro d val a' w' hS hF hd hp
         have e8 : a'.tmps[6]?.getD undef = .int .i64 (c : Int) := hS.arg 6 (by kernel_rfl)
         refine Xa (v := .int .i64 (c : Int)) _ rfl rfl ?_ (show FixR _ _ _ _ _ from hF.one rfl)
         clear hF hS hd hp
         go_simp
        case refine_15 =>
         intro d val a' w' hS hF hd hp
         have e1 : a'.tmps[80]?.getD undef = (.slice (some ad6) n4' c4') := (hS.res 12 80 (hp 12 (by kernel_rfl)) rfl (by kernel_rfl)).trans (hF.2 12 _ rfl (hp 12 (by kernel_rfl)))
         have e2 : a'.tmps[81]?.getD undef = .int .i64 (c : Int) := (hS.res 13 81 (hp 13 (by kernel_rfl)) rfl (by kernel_rfl)).trans (hF.2 13 _ rfl (hp 13 (by kernel_rfl)))
         refine Xa (v := .pointer (some (ad6.add c))) _ rfl rfl ?_ (show FixR _ _ _ _ _ from hF.one rfl)
         clear hF hS hd hp
         go_simp
        case refine_16 =>
         intro d val a' w' hS hF hd hp
         have e1 : a'.tmps[82]?.getD undef = .pointer (some (ad6.add c)) := (hS.res 14 82 (hp 14 (by kernel_rfl)) rfl (by kernel_rfl)).trans (hF.2 14 _ rfl (hp 14 (by kernel_rfl)))
         have aZ := HK3.out.2 w' hF.1
         refine Xa (v := .slice A6 n6 c6) _ rfl rfl ?_ (show FixR _ _ _ _ _ from hF.one rfl)
         clear hF hS hd hp
         go_simp
        case refine_17 =>
         intro d val a' w' hS hF hd hp
         have e1 : a'.tmps[75]?.getD undef = .slice A5 n6 c5 := (hS.res 7 75 (hp 7 (by kernel_rfl)) rfl (by kernel_rfl)).trans (hF.2 7 _ rfl (hp 7 (by kernel_rfl)))
         have e2 : a'.tmps[83]?.getD undef = .slice A6 n6 c6 := (hS.res 15 83 (hp 15 (by kernel_rfl)) rfl (by kernel_rfl)).trans (hF.2 15 _ rfl (hp 15 (by kernel_rfl)))
         refine Jjm (Ψ := fun v w'' => FixR w2 _ (upI d 16) (Jf3 val 16 v) w'') _ rfl rfl (args := #[.slice A5 n6 c5, .slice A6 n6 c6]) (w2 := w') (f := 106) ?_ ?_
         ·clear hF hS hd hp
          go_simp
         refine (HSI.out w' hF.1).mono ?_
         rintro e w3 ⟨rfl, j9⟩
         exact ⟨_, rfl, hF.call j9 rfl⟩
        case refine_18 =>
         intro d val a' w' hS hF hd hp
         have e1 : a'.tmps[84]?.getD undef = .bool true := (hS.res 16 84 (hp 16 (by kernel_rfl)) rfl (by kernel_rfl)).trans (hF.2 16 _ rfl (hp 16 (by kernel_rfl)))
         refine Xa (v := .bool false) _ rfl rfl ?_ (show FixR _ _ _ _ _ from hF.one rfl)
         clear hF hS hd hp
         go_simp
       intro d val w' hF hd
       simp only [Exit.then, Jd7, Act.put, List.setIfInBounds_toArray, List.set_cons_succ, List.set_cons_zero]
       refine ‹∀ a' w', Met _ a' w' -> _› _ _ ?_
       go_meet
       exact ⟨hF.2 17 _ rfl (hd 17 (by decide)), hF.1⟩
      case rest =>
       obtain ⟨rfl, bX⟩ := hcut
       rename World => wd
       have HBD := lh (HB2.out.trans (bX.mono HB2.out.size))
       clear bX x0 x1 x2 x3 x4 x5 y0 y1 y2 y3 y4 y5 bB bW
       go_wp2_with fail
       go_roundw
       case rel => exact ⟨c + 1, by omega, by go_num, HBD.out⟩
       case measure => simp [intOf]; omega
     as_aux_lemma =>
     obtain rfl : c = n4' := by omega
     have k2 : ¬ (c : Int) < (c : Int) := by omega
     clear j0 j7 b0 b1
     go_wp2_with fail
     exact ⟨⟨k + 1, by omega, by go_num, HB2.out⟩, by simp [intOf]; omega⟩
  as_aux_lemma =>
  obtain rfl : k = n3 := by omega
  have k1 : ¬ (k : Int) < (k : Int) := by omega
  have HB9 := lh l6
  clear l6 p9 b0 b1
  go_wp2
  go_ret
  exact ⟨rfl, HB9.out⟩
structure SamR (W : World) (q : Rat) (s1 s2 s3 : Value) (FX : Nat -> Option Value) (d : Nat -> Bool) (val : Nat -> Value) (w : World) : Prop where
 bel : Below W.heap.size W w
 fx : Fixed FX d val
 v2 : d 2 = true -> ∃ (a : Bool) (A A' : Option Addr) (l c l' c' : Nat), val 2 = .agg #[.bool a, .slice A l c, .slice A' l' c'] /\ IsQ w w.heap.size (.agg #[.bool a, .slice A l c, .slice A' l' c']) q
 v9 : d 9 = true -> d 2 = true /\ ∀ x y z, val 2 = .agg #[x, y, z] -> val 9 = .agg #[x, y, z, s1, s2, s3]
theorem SamR.next {W w w' : World} {q : Rat} {s1 s2 s3 : Value} {FX : Nat -> Option Value} {d : Nat -> Bool} {val : Nat -> Value} (h : SamR W q s1 s2 s3 FX d val w) (hb : Below w.heap.size w w') : SamR W q s1 s2 s3 FX d val w' where
 bel := h.bel.trans (hb.mono h.bel.size)
 fx := h.fx
 v2 := fun h1 => by
  obtain ⟨a, A, A', l, c, l', c', e, hq⟩ := h.v2 h1
  exact ⟨a, A, A', l, c, l', c', e, (hq.below hb).more hb.size⟩
 v9 := h.v9
theorem arr3 {a b c x y z : Value} (h : #[a, b, c] = #[x, y, z]) : a = x /\ b = y /\ c = z := by simpa using h
theorem Jrn (X1 X2 X3 : Option Addr) (n1 s1 n2 s2 n3 s3 : Nat) (ng' : Bool) (Y7 Y8 : Option Addr) (l7' d7' l8' d8' : Nat) (Y1 Y2 Y3 : Option Addr) (c1' c2' c3' B : Nat) (m : BM) (w : World) (h : RdB w B ⟨X1, n1, s1⟩ ⟨X2, n2, s2⟩ ⟨X3, n3, s3⟩ m)
  (h' : RdB w B ⟨Y1, n1, c1'⟩ ⟨Y2, n2, c2'⟩ ⟨Y3, n3, c3'⟩ m) (bY : IsQ w B (.agg #[.bool ng', .slice Y7 l7' d7', .slice Y8 l8' d8']) m.smooth) (hB : B <= w.heap.size) (hL : LenB m) (hs : QS 68719476736 m.smooth) :
  Calls Tryz.prog 23 #[.agg #[.bool (decide (m.smooth.num < 0)), .int .u64 (lo m.smooth.num.natAbs : Int), .string (mo m.smooth.num.natAbs), .int .u64 (lo ((qden m.smooth)) : Int), .string (mo ((qden m.smooth))), .slice X1 n1 s1, .slice X2 n2 s2, .slice X3 n3 s3], .agg #[.bool ng', .slice Y7 l7' d7', .slice Y8 l8' d8', .slice Y1 n1 c1', .slice Y2 n2 c2', .slice Y3 n3 c3']] w (Ret (.bool true) w) := by
 obtain ⟨q, hq⟩ : ∃ q, m.smooth = q := ⟨_, rfl⟩
 have dM := fun w' => Jlj m.smooth w' (hs.mono (by omega))
 unfold qV at dM
 rw [hq] at dM hs bY ⊢
 obtain ⟨b0, b1, hB, hZ⟩ := bx2 w 43 #[.bool (decide (q.num < 0)), .int .u64 (lo q.num.natAbs : Int), .string (mo q.num.natAbs), .int .u64 (lo (qden q) : Int), .string (mo (qden q)), .slice X1 n1 s1, .slice X2 n2 s2, .slice X3 n3 s3] 31 #[.bool ng', .slice Y7 l7' d7', .slice Y8 l8' d8', .slice Y1 n1 c1', .slice Y2 n2 c2', .slice Y3 n3 c3']
 go_enter Tryz.func23, Tryz.ntmps23
 go_upto_region 1 with fail
 generalize ((w.alloc (.cells #[.bool (decide (q.num < 0)), .int .u64 (lo q.num.natAbs : Int), .string (mo q.num.natAbs), .int .u64 (lo (qden q) : Int), .string (mo (qden q)), .slice X1 n1 s1, .slice X2 n2 s2, .slice X3 n3 s3] 43)).alloc (.cells #[.bool ng', .slice Y7 l7' d7', .slice Y8 l8' d8', .slice Y1 n1 c1', .slice Y2 n2 c2', .slice Y3 n3 c3'] 31)) = W at *
 rename B <= w.heap.size => hBB
 have HSA : Hid (∀ w' a A A' l c l' c', Below w.heap.size w w' -> IsQ w' w'.heap.size (.agg #[.bool a, .slice A l c, .slice A' l' c']) q -> Calls Tryz.prog 59 #[.agg #[.bool a, .slice A l c, .slice A' l' c', .slice X1 n1 s1, .slice X2 n2 s2, .slice X3 n3 s3], .agg #[.bool ng', .slice Y7 l7' d7', .slice Y8 l8' d8', .slice Y1 n1 c1', .slice Y2 n2 c2', .slice Y3 n3 c3']] w' (Ret (.bool true) w')) := lh fun w' a A A' l c l' c' hb hi =>
  Jrr a A A' l c l' c' X1 X2 X3 n1 s1 n2 s2 n3 s3 ng' Y7 Y8 l7' d7' l8' d8' Y1 Y2 Y3 c1' c2' c3' w'.heap.size m w' ((h.below (hb.mono hBB)).more (nt hBB hb.size)) (by rw [hq]; exact hi) ((h'.below (hb.mono hBB)).more (nt hBB hb.size)) (by rw [hq]; exact (bY.below (hb.mono hBB)).more (nt hBB hb.size)) zd hL (by rw [hq]; exact hs)
 have HOU := lh dM
 have HBW := lh hB
 have B0 := lh b0
 have B1 := lh b1
 have aN := b0.lt
 have bG := b1.lt
 clear h h' bY hB hL hs dM hZ b0 b1 hq
 go_cut [4] (fun v wc => v = .bool true /\ Below W.heap.size W wc)
 case first =>
  refine Je0 (SamR W q (.slice X1 n1 s1) (.slice X2 n2 s2) (.slice X3 n3 s3) (fun j => ([some (.pointer (some ⟨w.heap.size, 0, none⟩)), some (.agg #[.bool (decide (q.num < 0)), .int .u64 (lo q.num.natAbs : Int), .string (mo q.num.natAbs), .int .u64 (lo ((qden q)) : Int), .string (mo ((qden q)))]), none, some (.pointer (some ⟨w.heap.size, 5, none⟩)), some (.slice X1 n1 s1), some (.pointer (some ⟨w.heap.size, 6, none⟩)), some (.slice X2 n2 s2), some (.pointer (some ⟨w.heap.size, 7, none⟩)), some (.slice X3 n3 s3), none, some (.agg #[.bool ng', .slice Y7 l7' d7', .slice Y8 l8' d8', .slice Y1 n1 c1', .slice Y2 n2 c2', .slice Y3 n3 c3']), some (.bool true), some (.bool true)] : List (Option Value)).getD j none)) (by kernel_rfl) (by kernel_rfl) (by kernel_rfl) ?_ ?_ [some 5, some 6, some 7, some 8, some 9, some 10, some 11, some 12, some 13, some 14, some 15, some 16, some 4] rfl ?_
  ·constructor <;> first | exact Jt _ | exact Fixed.start _ _ | (intro h; cases h)
  ·refine ⟨⟨⟨⟨⟨⟨⟨⟨⟨⟨⟨⟨⟨trivial, ?_⟩, ?_⟩, ?_⟩, ?_⟩, ?_⟩, ?_⟩, ?_⟩, ?_⟩, ?_⟩, ?_⟩, ?_⟩, ?_⟩, ?_⟩
   case refine_1 =>
    intro d val a' w' hS hF hd hp
    have e8 : a'.tmps[2]?.getD undef = .pointer (some ⟨w.heap.size, 0, none⟩) := hS.arg 2 (by kernel_rfl)
    refine Xa (v := .pointer (some ⟨w.heap.size, 0, none⟩)) _ rfl rfl ?_ (show SamR _ _ _ _ _ _ _ _ _ from ⟨hF.bel, hF.fx.step (.inr rfl), hF.v2, hF.v9⟩)
    clear hF hS hd hp
    go_simp
   case refine_2 =>
    intro d val a' w' hS hF hd hp
    have e1 : a'.tmps[5]?.getD undef = .pointer (some ⟨w.heap.size, 0, none⟩) := (hS.res 0 5 (hp 0 (by kernel_rfl)) rfl (by kernel_rfl)).trans (hF.fx 0 _ rfl (hp 0 (by kernel_rfl)))
    have b0' := B0.out.below hF.bel aN
    obtain ⟨y0, y1, y2, y3, y4, y5, y6, y7⟩ := b0'.c8
    refine Xa (v := .agg #[.bool (decide (q.num < 0)), .int .u64 (lo q.num.natAbs : Int), .string (mo q.num.natAbs), .int .u64 (lo ((qden q)) : Int), .string (mo ((qden q)))]) _ rfl rfl ?_ (show SamR _ _ _ _ _ _ _ _ _ from ⟨hF.bel, hF.fx.step (.inr rfl), hF.v2, hF.v9⟩)
    clear hF hS hd hp
    go_simp
   case refine_3 =>
    intro d val a' w' hS hF hd hp
    have e1 : a'.tmps[6]?.getD undef = .agg #[.bool (decide (q.num < 0)), .int .u64 (lo q.num.natAbs : Int), .string (mo q.num.natAbs), .int .u64 (lo ((qden q)) : Int), .string (mo ((qden q)))] := (hS.res 1 6 (hp 1 (by kernel_rfl)) rfl (by kernel_rfl)).trans (hF.fx 1 _ rfl (hp 1 (by kernel_rfl)))
    refine Jjm (Ψ := fun v w'' => SamR W _ _ _ _ _ (upI d 2) (Jf3 val 2 v) w'') _ rfl rfl (args := #[.agg #[.bool (decide (q.num < 0)), .int .u64 (lo q.num.natAbs : Int), .string (mo q.num.natAbs), .int .u64 (lo ((qden q)) : Int), .string (mo ((qden q)))]]) (w2 := w') (f := 60) ?_ ?_
    ·clear hF hS hd hp
     go_simp
    refine (HOU.out w').mono ?_
    rintro e w3 ⟨V, rfl, hV, j9⟩
    obtain ⟨a, A, l, c, A', l', c', rfl⟩ := hV.shape
    have hG := hF.next j9
    exact ⟨_, rfl, ⟨hG.bel, hG.fx.step (.inl rfl), fun _ => ⟨a, A, A', l, c, l', c', rfl, hV⟩, fun h => absurd (hG.v9 h).1 (by rw [hd]; decide)⟩⟩
   case refine_4 =>
    intro d val a' w' hS hF hd hp
    have e8 : a'.tmps[2]?.getD undef = .pointer (some ⟨w.heap.size, 0, none⟩) := hS.arg 2 (by kernel_rfl)
    refine Xa (v := .pointer (some ⟨w.heap.size, 5, none⟩)) _ rfl rfl ?_ (show SamR _ _ _ _ _ _ _ _ _ from ⟨hF.bel, hF.fx.step (.inr rfl), hF.v2, hF.v9⟩)
    clear hF hS hd hp
    go_simp
   case refine_5 =>
    intro d val a' w' hS hF hd hp
    have e1 : a'.tmps[8]?.getD undef = .pointer (some ⟨w.heap.size, 5, none⟩) := (hS.res 3 8 (hp 3 (by kernel_rfl)) rfl (by kernel_rfl)).trans (hF.fx 3 _ rfl (hp 3 (by kernel_rfl)))
    have b0' := B0.out.below hF.bel aN
    obtain ⟨y0, y1, y2, y3, y4, y5, y6, y7⟩ := b0'.c8
    refine Xa (v := .slice X1 n1 s1) _ rfl rfl ?_ (show SamR _ _ _ _ _ _ _ _ _ from ⟨hF.bel, hF.fx.step (.inr rfl), hF.v2, hF.v9⟩)
    clear hF hS hd hp
    go_simp
   case refine_6 =>
    intro d val a' w' hS hF hd hp
    have e8 : a'.tmps[2]?.getD undef = .pointer (some ⟨w.heap.size, 0, none⟩) := hS.arg 2 (by kernel_rfl)
    refine Xa (v := .pointer (some ⟨w.heap.size, 6, none⟩)) _ rfl rfl ?_ (show SamR _ _ _ _ _ _ _ _ _ from ⟨hF.bel, hF.fx.step (.inr rfl), hF.v2, hF.v9⟩)
    clear hF hS hd hp
    go_simp
   case refine_7 =>
    intro d val a' w' hS hF hd hp
    have e1 : a'.tmps[10]?.getD undef = .pointer (some ⟨w.heap.size, 6, none⟩) := (hS.res 5 10 (hp 5 (by kernel_rfl)) rfl (by kernel_rfl)).trans (hF.fx 5 _ rfl (hp 5 (by kernel_rfl)))
    have b0' := B0.out.below hF.bel aN
    obtain ⟨y0, y1, y2, y3, y4, y5, y6, y7⟩ := b0'.c8
    refine Xa (v := .slice X2 n2 s2) _ rfl rfl ?_ (show SamR _ _ _ _ _ _ _ _ _ from ⟨hF.bel, hF.fx.step (.inr rfl), hF.v2, hF.v9⟩)
    clear hF hS hd hp
    go_simp
   case refine_8 =>
    intro d val a' w' hS hF hd hp
    have e8 : a'.tmps[2]?.getD undef = .pointer (some ⟨w.heap.size, 0, none⟩) := hS.arg 2 (by kernel_rfl)
    refine Xa (v := .pointer (some ⟨w.heap.size, 7, none⟩)) _ rfl rfl ?_ (show SamR _ _ _ _ _ _ _ _ _ from ⟨hF.bel, hF.fx.step (.inr rfl), hF.v2, hF.v9⟩)
    clear hF hS hd hp
    go_simp
   case refine_9 =>
    intro d val a' w' hS hF hd hp
    have e1 : a'.tmps[12]?.getD undef = .pointer (some ⟨w.heap.size, 7, none⟩) := (hS.res 7 12 (hp 7 (by kernel_rfl)) rfl (by kernel_rfl)).trans (hF.fx 7 _ rfl (hp 7 (by kernel_rfl)))
    have b0' := B0.out.below hF.bel aN
    obtain ⟨y0, y1, y2, y3, y4, y5, y6, y7⟩ := b0'.c8
    refine Xa (v := .slice X3 n3 s3) _ rfl rfl ?_ (show SamR _ _ _ _ _ _ _ _ _ from ⟨hF.bel, hF.fx.step (.inr rfl), hF.v2, hF.v9⟩)
    clear hF hS hd hp
    go_simp
   case refine_10 =>
    intro d val a' w' hS hF hd hp
    have e1 := hS.res 2 7 (hp 2 (by kernel_rfl)) rfl (by kernel_rfl)
    have h2 := hp 2 (by kernel_rfl)
    obtain ⟨a, A, A', l, c, l', c', e, -⟩ := hF.v2 h2
    rw [e] at e1
    have e2 : a'.tmps[9]?.getD undef = .slice X1 n1 s1 := (hS.res 4 9 (hp 4 (by kernel_rfl)) rfl (by kernel_rfl)).trans (hF.fx 4 _ rfl (hp 4 (by kernel_rfl)))
    have e3 : a'.tmps[11]?.getD undef = .slice X2 n2 s2 := (hS.res 6 11 (hp 6 (by kernel_rfl)) rfl (by kernel_rfl)).trans (hF.fx 6 _ rfl (hp 6 (by kernel_rfl)))
    have e4 : a'.tmps[13]?.getD undef = .slice X3 n3 s3 := (hS.res 8 13 (hp 8 (by kernel_rfl)) rfl (by kernel_rfl)).trans (hF.fx 8 _ rfl (hp 8 (by kernel_rfl)))
    refine Xa (v := .agg #[.bool a, .slice A l c, .slice A' l' c', .slice X1 n1 s1, .slice X2 n2 s2, .slice X3 n3 s3]) _ rfl rfl ?_ (show SamR _ _ _ _ _ _ _ _ _ from ⟨hF.bel, hF.fx.step (.inl rfl), hF.v2, fun _ => ⟨h2, fun x y z (e' : val 2 = _) => by rw [e] at e'; injection e' with e'; obtain ⟨rfl, rfl, rfl⟩ := arr3 e'; rfl⟩⟩)
    clear hF hS hd hp
    go_simp
   case refine_11 =>
    intro d val a' w' hS hF hd hp
    have e8 : a'.tmps[3]?.getD undef = .pointer (some ⟨w.heap.size + 1, 0, none⟩) := hS.arg 3 (by kernel_rfl)
    have b1' := B1.out.below hF.bel bG
    obtain ⟨y0, y1, y2, y3, y4, y5⟩ := b1'.c6
    refine Xa (v := .agg #[.bool ng', .slice Y7 l7' d7', .slice Y8 l8' d8', .slice Y1 n1 c1', .slice Y2 n2 c2', .slice Y3 n3 c3']) _ rfl rfl ?_ (show SamR _ _ _ _ _ _ _ _ _ from ⟨hF.bel, hF.fx.step (.inr rfl), hF.v2, hF.v9⟩)
    clear hF hS hd hp
    go_simp
   case refine_12 =>
    intro d val a' w' hS hF hd hp
    have e1 := hS.res 9 14 (hp 9 (by kernel_rfl)) rfl (by kernel_rfl)
    obtain ⟨h2, h9⟩ := hF.v9 (hp 9 (by kernel_rfl))
    obtain ⟨a, A, A', l, c, l', c', e, hi⟩ := hF.v2 h2
    rw [h9 _ _ _ e] at e1
    have e2 : a'.tmps[15]?.getD undef = .agg #[.bool ng', .slice Y7 l7' d7', .slice Y8 l8' d8', .slice Y1 n1 c1', .slice Y2 n2 c2', .slice Y3 n3 c3'] := (hS.res 10 15 (hp 10 (by kernel_rfl)) rfl (by kernel_rfl)).trans (hF.fx 10 _ rfl (hp 10 (by kernel_rfl)))
    refine Jjm (Ψ := fun v w'' => SamR W _ _ _ _ _ (upI d 11) (Jf3 val 11 v) w'') _ rfl rfl (args := #[.agg #[.bool a, .slice A l c, .slice A' l' c', .slice X1 n1 s1, .slice X2 n2 s2, .slice X3 n3 s3], .agg #[.bool ng', .slice Y7 l7' d7', .slice Y8 l8' d8', .slice Y1 n1 c1', .slice Y2 n2 c2', .slice Y3 n3 c3']]) (w2 := w') (f := 59) ?_ ?_
    ·clear hF hS hd hp
     go_simp
    refine (HSA.out w' a A A' l c l' c' (HBW.out.trans (hF.bel.mono HBW.out.size)) hi).mono ?_
    rintro e w3 ⟨rfl, j9⟩
    have hG := hF.next j9
    exact ⟨_, rfl, ⟨hG.bel, hG.fx.step (.inr rfl), hG.v2, hG.v9⟩⟩
   case refine_13 =>
    intro d val a' w' hS hF hd hp
    have e1 : a'.tmps[16]?.getD undef = .bool true := (hS.res 11 16 (hp 11 (by kernel_rfl)) rfl (by kernel_rfl)).trans (hF.fx 11 _ rfl (hp 11 (by kernel_rfl)))
    refine Xa (v := .bool true) _ rfl rfl ?_ (show SamR _ _ _ _ _ _ _ _ _ from ⟨hF.bel, hF.fx.step (.inr rfl), hF.v2, hF.v9⟩)
    clear hF hS hd hp
    go_simp
  intro d val w' hF hd
  simp only [Exit.then, Jd7, Act.put, List.setIfInBounds_toArray, List.set_cons_succ, List.set_cons_zero]
  refine ‹∀ a' w', Met _ a' w' -> _› _ _ ?_
  go_meet
  exact ⟨hF.fx 12 _ rfl (hd 12 (by decide)), hF.bel⟩
 case rest =>
  obtain ⟨rfl, aY⟩ := hcut
  have HB9 := lh (HBW.out.trans (aY.mono HBW.out.size))
  clear aY
  go_wp2
  go_ret
  exact ⟨rfl, HB9.out⟩
theorem Jox (l : List Int) : ∀ (f : Nat) (m : BM) (i : Nat), (∃ n, DrawnB m n /\ n + f <= 1073741824) -> (Jop f m l i).smooth = m.smooth /\ (Jop f m l i).words = m.words
 | 0, m, i, _ => ⟨rfl, rfl⟩
 | f + 1, m, i, ⟨n, h, hn⟩ => by
  unfold Jop
  split
  ·obtain ⟨h1, h2⟩ := h.moved (h.rowOk (l.drop (i + 1))) (h.class_ (l.getD i 0)) (by omega)
   rw [h1, if_pos rfl]
   exact Jox l f _ _ ⟨n + 1, h2, by omega⟩
  exact ⟨rfl, rfl⟩
theorem Jqp (l : List Int) (classes cols smooth : Int) : QS 1000 (Jov l classes cols smooth).smooth := by
 have h := (Jox l 24 (Jo1 classes cols smooth) 0 ⟨0, Joz classes cols smooth, by omega⟩).1
 unfold Jov
 rw [h]
 show QS 1000 (((smooth % 4 + 1 : Int) : Rat) / (((smooth.tdiv 4) % 3 + 1 : Int) : Rat))
 rw [Rat.div_def]
 exact ((QS.cnt (k := 3) (by omega) (by omega) (by omega)).mul ((QS.cnt (k := 3) (by omega) (by omega) (by omega)).inv (by omega))).mono (by omega)
theorem Jpv (l : List Int) (classes cols smooth : Int) : LenB (Jov l classes cols smooth) := Za (Jpe l classes cols smooth).ok
theorem Jpn (m : BM) {way : Int} (a b : Int) (h : 7 <= way % 14) : Jo6 m way a b = m := by rw [Jpo]; exact Jo2 (by omega)
theorem Jr0 {a b u y : Value} (h : #[a, b] = #[u, y]) : a = u /\ b = y := by simpa using h
theorem Jrg {g g' : Nat} (h : Value.pointer (some ⟨g, 0, none⟩) = .pointer (some ⟨g', 0, none⟩)) : g = g' := by
 injection h with h
 injection h with h
 injection h with h
def StM (n1 n2 n3 : Nat) (m : BM) (W : World) (u : Value) (w : World) (X : Nat -> Prop) : Prop := ∃ (AW : Option Addr) (cW gS gC : Nat) (F G H : Nat -> Prop), u = .agg #[.bool (decide (m.smooth.num < 0)), .int .u64 (lo m.smooth.num.natAbs : Int), .string (mo m.smooth.num.natAbs), .int .u64 (lo ((qden m.smooth)) : Int), .string (mo ((qden m.smooth))), .slice AW n1 cW, .slice (some ⟨gS, 0, none⟩) n2 n2, .slice (some ⟨gC, 0, none⟩) n3 n3] /\
  OwB 3 22 65 W.heap.size w ⟨AW, n1, cW⟩ ⟨some ⟨gS, 0, none⟩, n2, n2⟩ ⟨some ⟨gC, 0, none⟩, n3, n3⟩ F G H m /\ ∀ g, X g -> ¬ F g /\ ¬ G g /\ ¬ H g
theorem StM.next {n1 n2 n3 : Nat} {m : BM} {W w w' : World} {u : Value} {X Y : Nat -> Prop} (h : StM n1 n2 n3 m W u w X) (hb : Below w.heap.size w w') (hY : ∀ g, Y g -> X g \/ w.heap.size <= g) : StM n1 n2 n3 m W u w' Y := by
 obtain ⟨AW, cW, gS, gC, F, G, H, h1, ho, h2⟩ := h
 obtain ⟨o1, o2, o3⟩ := ho.old
 refine ⟨AW, cW, gS, gC, F, G, H, h1, ho.next hb, fun g hg => ?_⟩
 rcases hY g hg with h3 | h3
 ·exact h2 g h3
 exact ⟨fun e => by have := o1 _ e; omega, fun e => by have := o2 _ e; omega, fun e => by have := o3 _ e; omega⟩
theorem StM.exc {n1 n2 n3 g : Nat} {m : BM} {W w w' : World} {u : Value} {X : Nat -> Prop} (h : StM n1 n2 n3 m W u w X) (hx : Exc g w w') (hg : X g) : StM n1 n2 n3 m W u w' X := by
 obtain ⟨AW, cW, gS, gC, F, G, H, h1, ho, h2⟩ := h
 have h3 := h2 g hg
 exact ⟨AW, cW, gS, gC, F, G, H, h1, ho.exc hx h3.1 h3.2.1 h3.2.2, h2⟩
structure StR (W : World) (n1 n2 n3 : Nat) (row : List Int) (m : BM) (FX : Nat -> Option Value) (d : Nat -> Bool) (val : Nat -> Value) (w : World) : Prop where
 bel : Below W.heap.size W w
 fx : Fixed FX d val
 v4 : d 4 = true -> ∃ A c, val 4 = .slice A n1 c /\ (d 10 = false -> ReadsI w w.heap.size A n1 row)
 v10 : d 10 = true -> ∃ c0 c1 c2 c3 c4 c5 c6 c7, val 10 = .tuple #[.agg #[c0, c1, c2, c3, c4, c5, c6, c7], .int .i64 0] /\ (#[c0, c1, c2, c3, c4, c5, c6, c7].all (·.oneCell') = true) /\ StM n1 n2 n3 m W (.agg #[c0, c1, c2, c3, c4, c5, c6, c7]) w fun g => d 14 = true /\ val 14 = .pointer (some ⟨g, 0, none⟩)
 v11 : d 11 = true -> d 10 = true /\ val 11 = val 10
 v12 : d 12 = true -> d 10 = true /\ ∀ u y, val 10 = .tuple #[u, y] -> val 12 = u
 v13 : d 13 = true -> d 10 = true /\ ∀ u y, val 10 = .tuple #[u, y] -> val 13 = y
 v14 : d 14 = true -> ∃ g y0 y1 y2 y3 y4 y5 y6 y7, val 14 = .pointer (some ⟨g, 0, none⟩) /\ W.heap.size <= g /\ Blk w g 43 #[y0, y1, y2, y3, y4, y5, y6, y7] /\ (d 15 = true -> d 12 = true /\ val 12 = .agg #[y0, y1, y2, y3, y4, y5, y6, y7])
 v15 : d 15 = true -> d 14 = true
 v16 : d 16 = true -> d 13 = true /\ val 16 = val 13
theorem StR.next {W w w' : World} {n1 n2 n3 : Nat} {row : List Int} {m : BM} {FX : Nat -> Option Value} {d : Nat -> Bool} {val : Nat -> Value} (h : StR W n1 n2 n3 row m FX d val w) (hb : Below w.heap.size w w') : StR W n1 n2 n3 row m FX d val w' where
 bel := h.bel.trans (hb.mono h.bel.size)
 fx := h.fx
 v4 := fun h1 => (h.v4 h1).imp fun A h2 => h2.imp fun c h3 => ⟨h3.1, fun h4 => rkindI.more (rkindI.below (h3.2 h4) hb) hb.size⟩
 v10 := fun h1 => by
  obtain ⟨c0, c1, c2, c3, c4, c5, c6, c7, e, ho, hm⟩ := h.v10 h1
  exact ⟨c0, c1, c2, c3, c4, c5, c6, c7, e, ho, hm.next hb fun g hg => .inl hg⟩
 v11 := h.v11
 v12 := h.v12
 v13 := h.v13
 v14 := fun h1 => by
  obtain ⟨g, y0, y1, y2, y3, y4, y5, y6, y7, e, hg, hk, h2⟩ := h.v14 h1
  exact ⟨g, y0, y1, y2, y3, y4, y5, y6, y7, e, hg, hk.below hb hk.lt, h2⟩
 v15 := h.v15
 v16 := h.v16
def StC (L : Nat) (g n1 n2 n3 : Nat) (q : Rat) (w : World) : Prop := ∃ (m : BM) (AW : Option Addr) (cW gS gC : Nat) (F G H : Nat -> Prop), m.smooth = q /\ Blk w g 43 #[.bool (decide (m.smooth.num < 0)), .int .u64 (lo m.smooth.num.natAbs : Int), .string (mo m.smooth.num.natAbs), .int .u64 (lo ((qden m.smooth)) : Int), .string (mo ((qden m.smooth))), .slice AW n1 cW, .slice (some ⟨gS, 0, none⟩) n2 n2, .slice (some ⟨gC, 0, none⟩) n3 n3] /\
 OwB 3 22 65 L w ⟨AW, n1, cW⟩ ⟨some ⟨gS, 0, none⟩, n2, n2⟩ ⟨some ⟨gC, 0, none⟩, n3, n3⟩ F G H m /\ (¬ F g /\ ¬ G g /\ ¬ H g) /\ L <= g /\ (∀ t ∈ m.counts, t.length = n1 /\ ∀ j8 ∈ t, 1 <= j8.length)
theorem StR.end_ {W w : World} {n1 n2 n3 : Nat} {row : List Int} {m : BM} {FX : Nat -> Option Value} {d : Nat -> Bool} {val : Nat -> Value} (hF : StR W n1 n2 n3 row m FX d val w) (hd : ∀ i, i < 17 -> d i = true) (hm : ∀ t ∈ m.counts, t.length = n1 /\ ∀ j8 ∈ t, 1 <= j8.length) : ∃ g, val 14 = .pointer (some ⟨g, 0, none⟩) /\ val 16 = .int .i64 0 /\ StC W.heap.size g n1 n2 n3 m.smooth w /\ Below W.heap.size W w := by
 obtain ⟨c0, c1, c2, c3, c4, c5, c6, c7, e10, -, AW, cW, gS, gC, F, G, H, e0, ho, h2⟩ := hF.v10 (hd 10 (by decide))
 obtain ⟨g, y0, y1, y2, y3, y4, y5, y6, y7, e14, hg, hk, gT⟩ := hF.v14 (hd 14 (by decide))
 have e8 := ((gT (hd 15 (by decide))).2.symm.trans ((hF.v12 (hd 12 (by decide))).2 _ _ e10)).trans e0
 injection e8 with e8
 rw [e8] at hk
 exact ⟨g, e14, (hF.v16 (hd 16 (by decide))).2.trans ((hF.v13 (hd 13 (by decide))).2 _ _ e10), ⟨m, AW, cW, gS, gC, F, G, H, rfl, hk, ho, h2 g ⟨hd 14 (by decide), e14⟩, hg, hm⟩, hF.bel⟩
theorem Jrf {m : BM} (h : Jk m = 0) : ∀ t ∈ m.counts, t.length = m.words.length /\ ∀ j8 ∈ t, 1 <= j8.length := by
 obtain ⟨h1, -, h3⟩ := (Yf m).1 ((Kv m).1 h).1
 simp only [Xk, Bool.and_eq_true, decide_eq_true_iff, List.all_eq_true] at h1
 intro t ht
 obtain ⟨hl, hf⟩ := (Kt _ _).1 (h3 t ht)
 refine ⟨hl, fun j8 hc => ?_⟩
 obtain ⟨i, hi, e⟩ := List.getElem_of_mem hc
 have hx : i < m.words.length := by omega
 have h4 := hf i j8 m.words[i] (by rw [List.getElem?_eq_getElem hi, e]) (List.getElem?_eq_getElem hx)
 have h5 := h1.2 m.words[i] (List.getElem_mem hx)
 omega
theorem OwB.setWords {e T T2 : TypeId} {L : Nat} {w : World} {S C : SW} {F G H : Nat -> Prop} {m : BM} {g n c : Nat} (h : OwB e T T2 L w ⟨some ⟨g, 0, none⟩, n, c⟩ S C F G H m) (k : Nat) (y : Int) : OwB e T T2 L (w.setCell ⟨g, k, none⟩ (zv y)) ⟨some ⟨g, 0, none⟩, n, c⟩ S C F G H { m with words := m.words.set k y } := by
 have hF : F g := (h.words.2 g).2 rfl
 have dN : Exc g w (w.setCell ⟨g, k, none⟩ (zv y)) := (Exc.refl g w).set_ k _
 exact ⟨NRow.store h.words k y, (Js e zv).loc h.seen dN.size fun z hz => dN.block z ((Js e zv).lt h.seen hz) fun e => h.ap12 g hF (by rw [<- e]; exact hz),
  h.counts.loc (Xt (Js _ zv) T) dN.size fun z hz => dN.block z (h.counts.lt (Xt (Js _ zv) T) hz) fun e => h.ap13 g hF (by rw [<- e]; exact hz), h.from1, h.from2, h.from3, h.ap12, h.ap13, h.ap23⟩
theorem OwB.head {e T T2 : TypeId} {L : Nat} {w : World} {W S : SW} {F G H : Nat -> Prop} {m : BM} {g n c i : Nat} {t : List (List Int)} (h : OwB e T T2 L w W S ⟨some ⟨g, 0, none⟩, n, c⟩ F G H m) (ht : m.counts[i]? = some t) : ∃ A k1, w.cell? ⟨g, i, none⟩ = some (.slice A t.length k1) := by
 obtain ⟨A, m', k', F', h1, h2, -⟩ := h.counts.at_ (Xt (Js e zv) T) ht
 obtain ⟨A2, c2, hf⟩ := h2.form
 injection hf with e1 e2 e3
 subst e2
 exact ⟨A, k', h1⟩
theorem StC.seen {L g n1 n2 n3 : Nat} {w : World} {m : BM} {AW : Option Addr} {cW gS gC : Nat} {F G H : Nat -> Prop} (hk : Blk w g 43 #[.bool (decide (m.smooth.num < 0)), .int .u64 (lo m.smooth.num.natAbs : Int), .string (mo m.smooth.num.natAbs), .int .u64 (lo ((qden m.smooth)) : Int), .string (mo ((qden m.smooth))), .slice AW n1 cW, .slice (some ⟨gS, 0, none⟩) n2 n2, .slice (some ⟨gC, 0, none⟩) n3 n3]) (ho : OwB 3 22 65 L w ⟨AW, n1, cW⟩ ⟨some ⟨gS, 0, none⟩, n2, n2⟩ ⟨some ⟨gC, 0, none⟩, n3, n3⟩ F G H m) (hn : ¬ F g /\ ¬ G g /\ ¬ H g) (hL : L <= g) (hm : ∀ t ∈ m.counts, t.length = n1 /\ ∀ j8 ∈ t, 1 <= j8.length) (k : Nat) :
  StC L g n1 n2 n3 m.smooth (w.setCell ⟨gS, k, none⟩ (.int .i64 7)) /\ L <= gS :=
 ⟨⟨{ m with seen := m.seen.set k 7 }, AW, cW, gS, gC, F, G, H, rfl, hk.far (fun e => hn.2.1 (by rw [show g = gS from e]; exact (ho.seen.2 gS).2 rfl)) _, ho.setSeen k 7, hn, hL, hm⟩, ho.from2 gS ((ho.seen.2 gS).2 rfl)⟩
theorem StC.words {L g n1 n2 n3 : Nat} {w : World} {m : BM} {gW cW gS gC : Nat} {F G H : Nat -> Prop} (hk : Blk w g 43 #[.bool (decide (m.smooth.num < 0)), .int .u64 (lo m.smooth.num.natAbs : Int), .string (mo m.smooth.num.natAbs), .int .u64 (lo ((qden m.smooth)) : Int), .string (mo ((qden m.smooth))), .slice (some ⟨gW, 0, none⟩) n1 cW, .slice (some ⟨gS, 0, none⟩) n2 n2, .slice (some ⟨gC, 0, none⟩) n3 n3]) (ho : OwB 3 22 65 L w ⟨some ⟨gW, 0, none⟩, n1, cW⟩ ⟨some ⟨gS, 0, none⟩, n2, n2⟩ ⟨some ⟨gC, 0, none⟩, n3, n3⟩ F G H m) (hn : ¬ F g /\ ¬ G g /\ ¬ H g) (hL : L <= g) (hm : ∀ t ∈ m.counts, t.length = n1 /\ ∀ j8 ∈ t, 1 <= j8.length) (k : Nat) :
  StC L g n1 n2 n3 m.smooth (w.setCell ⟨gW, k, none⟩ (.int .i64 88)) /\ L <= gW :=
 ⟨⟨{ m with words := m.words.set k 88 }, _, cW, gS, gC, F, G, H, rfl, hk.far (fun e => hn.1 (by rw [show g = gW from e]; exact (ho.words.2 gW).2 rfl)) _, ho.setWords k 88, hn, hL, hm⟩, ho.from1 gW ((ho.words.2 gW).2 rfl)⟩
theorem StC.count {L g n1 n2 n3 : Nat} {w : World} {m : BM} {AW : Option Addr} {cW gS gC : Nat} {F G H : Nat -> Prop} (hk : Blk w g 43 #[.bool (decide (m.smooth.num < 0)), .int .u64 (lo m.smooth.num.natAbs : Int), .string (mo m.smooth.num.natAbs), .int .u64 (lo ((qden m.smooth)) : Int), .string (mo ((qden m.smooth))), .slice AW n1 cW, .slice (some ⟨gS, 0, none⟩) n2 n2, .slice (some ⟨gC, 0, none⟩) n3 n3]) (ho : OwB 3 22 65 L w ⟨AW, n1, cW⟩ ⟨some ⟨gS, 0, none⟩, n2, n2⟩ ⟨some ⟨gC, 0, none⟩, n3, n3⟩ F G H m) (hn : ¬ F g /\ ¬ G g /\ ¬ H g) (hL : L <= g) (hm : ∀ t ∈ m.counts, t.length = n1 /\ ∀ j8 ∈ t, 1 <= j8.length) {i l u m1 k1 x m2 k2 : Nat} {t : List (List Int)} {b : List Int} (ht : m.counts[i]? = some t) (hb : t[l]? = some b)
  (bB : w.cell? ⟨gC, i, none⟩ = some (.slice (some ⟨u, 0, none⟩) m1 k1)) (hc : w.cell? ⟨u, l, none⟩ = some (.slice (some ⟨x, 0, none⟩) m2 k2)) : StC L g n1 n2 n3 m.smooth (w.setCell ⟨x, 0, none⟩ (.int .i64 99)) /\ L <= x := by
 obtain ⟨H', h1, h2, h3⟩ := ho.setCount ht hb bB hc 0 99
 refine ⟨⟨{ m with counts := m.counts.set i (t.set l (b.set 0 99)) }, AW, cW, gS, gC, F, G, H', rfl, hk.far (fun e => hn.2.2 (by rw [show g = x from e]; exact h3)) _, h1, ⟨hn.1, hn.2.1, fun e => hn.2.2 (h2 _ e)⟩, hL, ?_⟩, ho.from3 x h3⟩
 intro t' gU
 rcases List.mem_or_eq_of_mem_set gU with h | rfl
 ·exact hm t' h
 have eL := hm t (List.mem_of_getElem? ht)
 refine ⟨by rw [List.length_set]; exact eL.1, fun j8 aD => ?_⟩
 rcases List.mem_or_eq_of_mem_set aD with h | rfl
 ·exact eL.2 j8 h
 rw [List.length_set]
 exact eL.2 b (List.mem_of_getElem? hb)
theorem Jra (A : Option Addr) (n c : Nat) (l : List Int) (A' : Option Addr) (n' c' : Nat) (r : List Int) (classes cols smooth class_ : Int) (w : World) (h : ReadsI w w.heap.size A n l) (dI : n <= c) (hc : c <= 9223372036854775807) (hl : ∀ x ∈ l, -9223372036854775808 <= x /\ x <= 9223372036854775807)
  (h' : ReadsI w w.heap.size A' n' r) (gV : n' <= 9223372036854775807) (fS : ∀ x ∈ r, -9223372036854775808 <= x /\ x <= 9223372036854775807) (i1 : -9223372036854775808 <= classes /\ classes <= 9223372036854775807) (i2 : -9223372036854775808 <= cols /\ cols <= 9223372036854775807) (i3 : -9223372036854775808 <= smooth /\ smooth <= 9223372036854775807) (i4 : -9223372036854775808 <= class_ /\ class_ <= 9223372036854775807) (hT : Tab w) :
  Calls Tryz.prog 5 #[.slice A n c, .slice A' n' c', .int .i64 classes, .int .i64 cols, .int .i64 smooth, .int .i64 class_] w (Ret (.bool true) w) := by
 have p8 := Jpt A n c l classes cols smooth 13 0 0 w.heap.size w h zd dI hc hl i1 i2 i3 (by decide) (by decide) (by decide) (by decide)
 rw [Jpn _ _ _ (by decide)] at p8
 have bS := Jqp l classes cols smooth
 have bA := Jpe l classes cols smooth
 have eM := Jpv l classes cols smooth
 obtain ⟨m, hm⟩ : ∃ m, Jov l classes cols smooth = m := ⟨_, rfl⟩
 rw [hm] at p8 bS bA eM
 obtain ⟨row, t7⟩ : ∃ row, Jkx r m.words = row := ⟨_, rfl⟩
 have eN := bA.rowOk r
 rw [t7] at eN
 obtain ⟨cn, bD⟩ : ∃ cn : Nat, class_ % (m.seen.length : Int) = (cn : Int) := ⟨(class_ % (m.seen.length : Int)).toNat, by have := bA.classes; have := Int.emod_nonneg class_ (show (m.seen.length : Int) ≠ 0 by omega); omega⟩
 have aX := bA.class_ class_
 rw [bD] at aX
 obtain ⟨aK, aL⟩ := bA.moved eN aX (by omega)
 obtain ⟨m', aT⟩ : ∃ m', Jn m row (cn : Int).toNat 1 = m' := ⟨_, rfl⟩
 have eA : m'.smooth = m.smooth := by rw [<- aT]; rfl
 have fT : m'.words = m.words := by rw [<- aT]; rfl
 rw [aT] at aK aL
 have bI := fun w' => Jpd class_ m.seen.length w' i4.1 i4.2 bA.classes.1 (by have := bA.classes; omega)
 rw [bD] at bI
 have HDR := lh p8
 have HQ := lh (And.intro bS (And.intro bA (And.intro eM aL)))
 have HTE := lh aK
 have HROW := lh t7
 have HPK0 := lh bI
 have HSM := lh (And.intro eA fT)
 have H' := lh (And.intro h' fS)
 have HT := lh hT
 have HKN := lh (fun w hT => Jgy w hT)
 clear p8 bS bA eM hm eN h hl h' fS hT i1 i2 i3 i4 t7 dI hc aX aK aL aT eA fT bI bD
 go_enter Tryz.func5, Tryz.ntmps5
 go_wp2_with fail
 refine HDR.out.mono ?_
 rintro e w1 ⟨v, rfl, ⟨ng, A7, A8, l7, d7, l8, d8, ⟨X1, n1, c1'⟩, ⟨X2, n2, c2'⟩, ⟨X3, n3, c3'⟩, rfl, bV, aJ⟩, aA⟩
 simp only [SW.v]
 have cE : m.words.length = n1 := aJ.words.len
 have cF : m.seen.length = n2 := aJ.seen.len
 have cZ : m.counts.length = n3 := ReadsS.len aJ.counts
 have HR := lh (And.intro bV aJ)
 have HB1 := lh aA
 have HW := lh (And.intro cE (And.intro cF cZ))
 clear bV aJ aA cE cF cZ HDR
 go_upto_region 2 with fail
 have b11 := Blk.new w1 31 #[.bool ng, .slice A7 l7 d7, .slice A8 l8 d8, .slice X1 n1 c1', .slice X2 n2 c2', .slice X3 n3 c3']
 have j0 := Jb w1 (.cells #[.bool ng, .slice A7 l7 d7, .slice A8 l8 d8, .slice X1 n1 c1', .slice X2 n2 c2', .slice X3 n3 c3'] 31)
 generalize w1.alloc (.cells #[.bool ng, .slice A7 l7 d7, .slice A8 l8 d8, .slice X1 n1 c1', .slice X2 n2 c2', .slice X3 n3 c3'] 31) = w2 at *
 have fU := Jqw ng A7 A8 l7 d7 l8 d8 X1 X2 X3 n1 c1' n2 c2' n3 c3' w1.heap.size m w2 (HR.out.2.below j0) (HR.out.1.below j0) j0.size HQ.out.2.2.1 (HQ.out.1.mono (by omega)) (HT.out.next (Ja HB1.out j0))
 have HIN := lh fU
 have HB2 := lh (Ja HB1.out j0)
 have H12 := lh j0
 have BK := lh b11
 have dL := b11.lt
 obtain ⟨x0, x1, x2, x3, x4, x5⟩ := b11.c6
 clear fU j0 b11
 go_wp2_with fail
 refine HIN.out.mono ?_
 rintro e w3 ⟨v, rfl, ⟨⟨A1, k1, c1⟩, ⟨A2, k2, c2⟩, ⟨A3, k3, c3⟩, F1, G1, H1, rfl, ho⟩, j9⟩
 obtain rfl : n1 = k1 := by rw [<- HW.out.1]; exact ho.read.words.len
 obtain rfl : n2 = k2 := by rw [<- HW.out.2.1]; exact ho.read.seen.len
 obtain rfl : n3 = k3 := by rw [<- HW.out.2.2]; exact ReadsS.len ho.read.counts
 simp only [SW.v]
 have dE := Nat.lt_of_lt_of_le dL j9.size
 have HB3 := lh (Ja HB2.out j9)
 have H13 := lh (H12.out.trans (j9.mono H12.out.size))
 have BK3 := lh (BK.out.below j9 dL)
 have HO := lh ho
 clear j9 ho x0 x1 x2 x3 x4 x5 HIN BK H12
 go_upto_region 3 with fail
 have b14 := Blk.new w3 43 #[.bool (decide (m.smooth.num < 0)), .int .u64 (lo m.smooth.num.natAbs : Int), .string (mo m.smooth.num.natAbs), .int .u64 (lo ((qden m.smooth)) : Int), .string (mo ((qden m.smooth))), .slice A1 n1 c1, .slice A2 n2 c2, .slice A3 n3 c3]
 have aR := Jb w3 (.cells #[.bool (decide (m.smooth.num < 0)), .int .u64 (lo m.smooth.num.natAbs : Int), .string (mo m.smooth.num.natAbs), .int .u64 (lo ((qden m.smooth)) : Int), .string (mo ((qden m.smooth))), .slice A1 n1 c1, .slice A2 n2 c2, .slice A3 n3 c3] 43)
 generalize w3.alloc (.cells #[.bool (decide (m.smooth.num < 0)), .int .u64 (lo m.smooth.num.natAbs : Int), .string (mo m.smooth.num.natAbs), .int .u64 (lo ((qden m.smooth)) : Int), .string (mo ((qden m.smooth))), .slice A1 n1 c1, .slice A2 n2 c2, .slice A3 n3 c3] 43) = w4 at *
 have aP := b14.lt
 have HO4 := lh (HO.out.next aR)
 have HB4 := lh (HB3.out.trans (aR.mono HB3.out.size))
 have H14 := lh (H13.out.trans (aR.mono H13.out.size))
 have BK34 := lh (BK3.out.below aR dE)
 have eO := BK34.out.lt
 have BK4 := lh b14
 have eP : n2 = n3 := by rw [<- HW.out.2.1, <- HW.out.2.2, ((Yf m).1 ((Kv m).1 HQ.out.2.1.ok).1).2.1]
 have HMC := lh (show ∀ t ∈ m'.counts, t.length = n1 /\ ∀ j8 ∈ t, 1 <= j8.length from by
  have h := Jrf HQ.out.2.2.2.ok
  rw [HSM.out.2, HW.out.1] at h
  exact h)
 have HPK := lh (show ∀ w', Calls Tryz.prog 13 #[.int .i64 class_, .int .i64 (n2 : Int)] w' (fun e w'' => e = .returned (.int .i64 (cn : Int)) /\ w' = w'') from fun w' => by
  have h := HPK0.out w'
  rw [HW.out.2.1] at h
  exact h)
 have fK : 1 <= n1 := by have := HQ.out.2.1.cols; have := HW.out.1; omega
 have iJ : n1 <= 3 := by have := HQ.out.2.1.cols; have := HW.out.1; omega
 have dX : n2 <= 3 := by have := HQ.out.2.1.classes; have := HW.out.2.1; omega
 clear HO HB3 H13 BK3 b14 aR HPK0 dE
 generalize w3.heap.size = g14 at *
 go_cut [15, 16] (fun v u wc => ∃ g, v = .pointer (some ⟨g, 0, none⟩) /\ u = .int .i64 0 /\ StC w4.heap.size g n1 n2 n3 m'.smooth wc /\ Below w4.heap.size w4 wc)
 case first =>
  refine Je0 (StR w4 n1 n2 n3 row m' (fun j => ([some (.agg #[.bool (decide (m.smooth.num < 0)), .int .u64 (lo m.smooth.num.natAbs : Int), .string (mo m.smooth.num.natAbs), .int .u64 (lo ((qden m.smooth)) : Int), .string (mo ((qden m.smooth))), .slice A1 n1 c1, .slice A2 n2 c2, .slice A3 n3 c3]), some ((.slice A' n' c')), some (.pointer (some ⟨g14, 5, none⟩)), some (.slice A1 n1 c1), none, some (.int .i64 class_), some (.pointer (some ⟨g14, 6, none⟩)), some (.slice A2 n2 c2), some (.int .i64 (n2 : Int)), some (.int .i64 (cn : Int)), none, none, none, none, none, none, none] : List (Option Value)).getD j none)) (by kernel_rfl) (by kernel_rfl) (by kernel_rfl) ?_ ?_ [some 27, some 28, some 29, some 30, some 31, some 32, some 33, some 34, some 35, some 36, some 37, some 26, some 38, some 39, some 15, none, some 16] rfl ?_
  ·constructor <;> first | exact Jt _ | exact Fixed.start _ _ | (intro h; cases h)
  ·refine ⟨⟨⟨⟨⟨⟨⟨⟨⟨⟨⟨⟨⟨⟨⟨⟨⟨trivial, ?_⟩, ?_⟩, ?_⟩, ?_⟩, ?_⟩, ?_⟩, ?_⟩, ?_⟩, ?_⟩, ?_⟩, ?_⟩, ?_⟩, ?_⟩, ?_⟩, ?_⟩, ?_⟩, ?_⟩
   case refine_1 =>
    intro d val a' w' hS hF hd hp
    have e8 : a'.tmps[14]?.getD undef = .pointer (some ⟨g14, 0, none⟩) := hS.arg 14 (by kernel_rfl)
    have b0' := BK4.out.below hF.bel aP
    obtain ⟨y0, y1, y2, y3, y4, y5, y6, y7⟩ := b0'.c8
    refine Xa (v := .agg #[.bool (decide (m.smooth.num < 0)), .int .u64 (lo m.smooth.num.natAbs : Int), .string (mo m.smooth.num.natAbs), .int .u64 (lo ((qden m.smooth)) : Int), .string (mo ((qden m.smooth))), .slice A1 n1 c1, .slice A2 n2 c2, .slice A3 n3 c3]) _ rfl rfl ?_ (show StR _ _ _ _ _ _ _ _ _ _ from ⟨hF.bel, hF.fx.step (.inr rfl), hF.v4, hF.v10, hF.v11, hF.v12, hF.v13, hF.v14, hF.v15, hF.v16⟩)
    clear hF hS hd hp
    go_simp
   case refine_2 =>
    intro d val a' w' hS hF hd hp
    have e8 : a'.tmps[1]?.getD undef = (.slice A' n' c') := hS.arg 1 (by kernel_rfl)
    refine Xa (v := (.slice A' n' c')) _ rfl rfl ?_ (show StR _ _ _ _ _ _ _ _ _ _ from ⟨hF.bel, hF.fx.step (.inr rfl), hF.v4, hF.v10, hF.v11, hF.v12, hF.v13, hF.v14, hF.v15, hF.v16⟩)
    clear hF hS hd hp
    go_simp
   case refine_3 =>
    intro d val a' w' hS hF hd hp
    have e8 : a'.tmps[14]?.getD undef = .pointer (some ⟨g14, 0, none⟩) := hS.arg 14 (by kernel_rfl)
    refine Xa (v := .pointer (some ⟨g14, 5, none⟩)) _ rfl rfl ?_ (show StR _ _ _ _ _ _ _ _ _ _ from ⟨hF.bel, hF.fx.step (.inr rfl), hF.v4, hF.v10, hF.v11, hF.v12, hF.v13, hF.v14, hF.v15, hF.v16⟩)
    clear hF hS hd hp
    go_simp
   case refine_4 =>
    intro d val a' w' hS hF hd hp
    have e1 : a'.tmps[29]?.getD undef = .pointer (some ⟨g14, 5, none⟩) := (hS.res 2 29 (hp 2 (by kernel_rfl)) rfl (by kernel_rfl)).trans (hF.fx 2 _ rfl (hp 2 (by kernel_rfl)))
    have b0' := BK4.out.below hF.bel aP
    obtain ⟨y0, y1, y2, y3, y4, y5, y6, y7⟩ := b0'.c8
    refine Xa (v := .slice A1 n1 c1) _ rfl rfl ?_ (show StR _ _ _ _ _ _ _ _ _ _ from ⟨hF.bel, hF.fx.step (.inr rfl), hF.v4, hF.v10, hF.v11, hF.v12, hF.v13, hF.v14, hF.v15, hF.v16⟩)
    clear hF hS hd hp
    go_simp
   case refine_5 =>
    intro d val a' w' hS hF hd hp
    have e1 : a'.tmps[28]?.getD undef = (.slice A' n' c') := (hS.res 1 28 (hp 1 (by kernel_rfl)) rfl (by kernel_rfl)).trans (hF.fx 1 _ rfl (hp 1 (by kernel_rfl)))
    have e2 : a'.tmps[30]?.getD undef = .slice A1 n1 c1 := (hS.res 3 30 (hp 3 (by kernel_rfl)) rfl (by kernel_rfl)).trans (hF.fx 3 _ rfl (hp 3 (by kernel_rfl)))
    have cO := HB4.out.trans (hF.bel.mono HB4.out.size)
    refine Jjm (Ψ := fun v w'' => StR w4 _ _ _ _ _ _ (upI d 4) (Jf3 val 4 v) w'') _ rfl rfl (args := #[(.slice A' n' c'), .slice A1 n1 c1]) (w2 := w') (f := 25) ?_ ?_
    ·clear hF hS hd hp
     go_simp
    refine (Jpc A' n' c' r A1 n1 c1 m.words w'.heap.size w' (rkindI.more (rkindI.below H'.out.1 cO) cO.size) (rkindI.more (rkindI.below HO4.out.words.readsI hF.bel) hF.bel.size) zd gV H'.out.2 (by omega) (fun x hx => by have := HQ.out.2.1.words x hx; omega)).mono ?_
    rintro e w3 ⟨v, rfl, bN, -, j9⟩
    have hG := hF.next j9
    rw [HROW.out] at bN
    obtain ⟨A6, c6, cQ, -⟩ := bN.form
    rw [show row.length = n1 by rw [<- HROW.out, Jkw]; exact HW.out.1] at cQ
    subst cQ
    exact ⟨_, rfl, ⟨hG.bel, hG.fx.step (.inl rfl), fun _ => ⟨A6, c6, rfl, fun _ => NRow.readsI (NRow.of bN)⟩, hG.v10, hG.v11, hG.v12, hG.v13, hG.v14, hG.v15, hG.v16⟩⟩
   case refine_6 =>
    intro d val a' w' hS hF hd hp
    have e8 : a'.tmps[5]?.getD undef = .int .i64 class_ := hS.arg 5 (by kernel_rfl)
    refine Xa (v := .int .i64 class_) _ rfl rfl ?_ (show StR _ _ _ _ _ _ _ _ _ _ from ⟨hF.bel, hF.fx.step (.inr rfl), hF.v4, hF.v10, hF.v11, hF.v12, hF.v13, hF.v14, hF.v15, hF.v16⟩)
    clear hF hS hd hp
    go_simp
   case refine_7 =>
    intro d val a' w' hS hF hd hp
    have e8 : a'.tmps[14]?.getD undef = .pointer (some ⟨g14, 0, none⟩) := hS.arg 14 (by kernel_rfl)
    refine Xa (v := .pointer (some ⟨g14, 6, none⟩)) _ rfl rfl ?_ (show StR _ _ _ _ _ _ _ _ _ _ from ⟨hF.bel, hF.fx.step (.inr rfl), hF.v4, hF.v10, hF.v11, hF.v12, hF.v13, hF.v14, hF.v15, hF.v16⟩)
    clear hF hS hd hp
    go_simp
   case refine_8 =>
    intro d val a' w' hS hF hd hp
    have e1 : a'.tmps[33]?.getD undef = .pointer (some ⟨g14, 6, none⟩) := (hS.res 6 33 (hp 6 (by kernel_rfl)) rfl (by kernel_rfl)).trans (hF.fx 6 _ rfl (hp 6 (by kernel_rfl)))
    have b0' := BK4.out.below hF.bel aP
    obtain ⟨y0, y1, y2, y3, y4, y5, y6, y7⟩ := b0'.c8
    refine Xa (v := .slice A2 n2 c2) _ rfl rfl ?_ (show StR _ _ _ _ _ _ _ _ _ _ from ⟨hF.bel, hF.fx.step (.inr rfl), hF.v4, hF.v10, hF.v11, hF.v12, hF.v13, hF.v14, hF.v15, hF.v16⟩)
    clear hF hS hd hp
    go_simp
   case refine_9 =>
    intro d val a' w' hS hF hd hp
    have e1 : a'.tmps[34]?.getD undef = .slice A2 n2 c2 := (hS.res 7 34 (hp 7 (by kernel_rfl)) rfl (by kernel_rfl)).trans (hF.fx 7 _ rfl (hp 7 (by kernel_rfl)))
    refine Xa (v := .int .i64 (n2 : Int)) _ rfl rfl ?_ (show StR _ _ _ _ _ _ _ _ _ _ from ⟨hF.bel, hF.fx.step (.inr rfl), hF.v4, hF.v10, hF.v11, hF.v12, hF.v13, hF.v14, hF.v15, hF.v16⟩)
    clear hF hS hd hp
    go_simp
   case refine_10 =>
    intro d val a' w' hS hF hd hp
    have e1 : a'.tmps[32]?.getD undef = .int .i64 class_ := (hS.res 5 32 (hp 5 (by kernel_rfl)) rfl (by kernel_rfl)).trans (hF.fx 5 _ rfl (hp 5 (by kernel_rfl)))
    have e2 : a'.tmps[35]?.getD undef = .int .i64 (n2 : Int) := (hS.res 8 35 (hp 8 (by kernel_rfl)) rfl (by kernel_rfl)).trans (hF.fx 8 _ rfl (hp 8 (by kernel_rfl)))
    refine Jjm (Ψ := fun v w'' => StR w4 _ _ _ _ _ _ (upI d 9) (Jf3 val 9 v) w'') _ rfl rfl (args := #[.int .i64 class_, .int .i64 (n2 : Int)]) (w2 := w') (f := 13) ?_ ?_
    ·clear hF hS hd hp
     go_simp
    refine (HPK.out w').mono ?_
    rintro e w3 ⟨rfl, rfl⟩
    exact ⟨_, rfl, ⟨hF.bel, hF.fx.step (.inr rfl), hF.v4, hF.v10, hF.v11, hF.v12, hF.v13, hF.v14, hF.v15, hF.v16⟩⟩
   case refine_11 =>
    intro d val a' w' hS hF hd hp
    have e1 : a'.tmps[27]?.getD undef = .agg #[.bool (decide (m.smooth.num < 0)), .int .u64 (lo m.smooth.num.natAbs : Int), .string (mo m.smooth.num.natAbs), .int .u64 (lo ((qden m.smooth)) : Int), .string (mo ((qden m.smooth))), .slice A1 n1 c1, .slice A2 n2 c2, .slice A3 n3 c3] := (hS.res 0 27 (hp 0 (by kernel_rfl)) rfl (by kernel_rfl)).trans (hF.fx 0 _ rfl (hp 0 (by kernel_rfl)))
    have e3 : a'.tmps[36]?.getD undef = .int .i64 (cn : Int) := (hS.res 9 36 (hp 9 (by kernel_rfl)) rfl (by kernel_rfl)).trans (hF.fx 9 _ rfl (hp 9 (by kernel_rfl)))
    have e2 := hS.res 4 31 (hp 4 (by kernel_rfl)) rfl (by kernel_rfl)
    obtain ⟨A6, c6, e6, h6⟩ := hF.v4 (hp 4 (by kernel_rfl))
    rw [e6] at e2
    have h6 := h6 hd
    refine Jjm (Ψ := fun v w'' => StR w4 _ _ _ _ _ _ (upI d 10) (Jf3 val 10 v) w'') _ rfl rfl (args := #[.agg #[.bool (decide (m.smooth.num < 0)), .int .u64 (lo m.smooth.num.natAbs : Int), .string (mo m.smooth.num.natAbs), .int .u64 (lo ((qden m.smooth)) : Int), .string (mo ((qden m.smooth))), .slice A1 n1 c1, .slice A2 n2 c2, .slice A3 n3 c3], .slice A6 n1 c6, .int .i64 (cn : Int)]) (w2 := w') (f := 29) ?_ ?_
    ·clear hF hS hd hp
     go_simp
    refine (Jb3 A1 A2 A3 n1 c1 n2 c2 n3 c3 w'.heap.size m A6 n1 c6 row cn w' ((HO4.out.next hF.bel).read) h6 zd HQ.out.2.2.1 (by omega) (HQ.out.1.mono (by omega))).mono ?_
    rintro e w3 ⟨v, rfl, hv, j9⟩
    rw [HTE.out] at hv
    have hG := hF.next j9
    have aV := hF.bel.size
    rcases hv with ⟨-, u, rfl, AW, cW, gS, gC, F5, G5, H5, rfl, ho⟩ | ⟨h0, -⟩
    ·refine ⟨_, rfl, ⟨hG.bel, hG.fx.step (.inl rfl), fun h => (hG.v4 h).imp fun A h => h.imp fun c h => ⟨h.1, fun h' => Bool.noConfusion (show true = false from h')⟩, fun _ => ⟨_, _, _, _, _, _, _, _, rfl, by simp [Value.oneCell'], AW, cW, gS, gC, F5, G5, H5, rfl, ho.low aV, fun x hx => ?_⟩, fun h => absurd ((hF.v11 h).1) (by rw [hd]; decide), fun h => absurd ((hF.v12 h).1) (by rw [hd]; decide), fun h => absurd ((hF.v13 h).1) (by rw [hd]; decide), hG.v14, hG.v15, hG.v16⟩⟩
     obtain ⟨g', z0, z1, z2, z3, z4, z5, z6, z7, e11, eB, aU, -⟩ := hF.v14 hx.1
     have e12 := Jrg (e11.symm.trans hx.2)
     subst e12
     have bF := aU.lt
     exact ⟨fun e => by have := ho.from1 _ e; omega, fun e => by have := ho.from2 _ e; omega, fun e => by have := ho.from3 _ e; omega⟩
    exact absurd rfl h0
   case refine_12 =>
    intro d val a' w' hS hF hd hp
    have e1 := hS.res 10 37 (hp 10 (by kernel_rfl)) rfl (by kernel_rfl)
    have h6 := hp 10 (by kernel_rfl)
    refine Xa (v := val 10) _ rfl rfl ?_ (show StR _ _ _ _ _ _ _ _ _ _ from ⟨hF.bel, hF.fx.step (.inl rfl), hF.v4, hF.v10, fun _ => ⟨h6, rfl⟩, hF.v12, hF.v13, hF.v14, hF.v15, hF.v16⟩)
    clear hF hS hd hp
    go_simp
   case refine_13 =>
    intro d val a' w' hS hF hd hp
    have e1 := hS.res 11 26 (hp 11 (by kernel_rfl)) rfl (by kernel_rfl)
    obtain ⟨h6, h7⟩ := hF.v11 (hp 11 (by kernel_rfl))
    obtain ⟨q0, q1, q2, q3, q4, q5, q6, q7, e6, -⟩ := hF.v10 h6
    rw [h7, e6] at e1
    refine Xa (v := .agg #[q0, q1, q2, q3, q4, q5, q6, q7]) _ rfl rfl ?_ (show StR _ _ _ _ _ _ _ _ _ _ from ⟨hF.bel, hF.fx.step (.inl rfl), hF.v4, hF.v10, hF.v11, fun _ => ⟨h6, fun u y (e : val 10 = _) => by rw [e6] at e; injection e with e; exact (Jr0 e).1⟩, hF.v13, fun h => (hF.v14 h).imp fun g h => h.imp fun y0 h => h.imp fun y1 h => h.imp fun y2 h => h.imp fun y3 h => h.imp fun y4 h => h.imp fun y5 h => h.imp fun y6 h => h.imp fun y7 h => ⟨h.1, h.2.1, h.2.2.1, fun h' => absurd (h.2.2.2 h').1 (by rw [hd]; decide)⟩, hF.v15, hF.v16⟩)
    clear hF hS hd hp
    go_simp
   case refine_14 =>
    intro d val a' w' hS hF hd hp
    have e1 := hS.res 11 26 (hp 11 (by kernel_rfl)) rfl (by kernel_rfl)
    obtain ⟨h6, h7⟩ := hF.v11 (hp 11 (by kernel_rfl))
    obtain ⟨q0, q1, q2, q3, q4, q5, q6, q7, e6, -⟩ := hF.v10 h6
    rw [h7, e6] at e1
    refine Xa (v := .int .i64 0) _ rfl rfl ?_ (show StR _ _ _ _ _ _ _ _ _ _ from ⟨hF.bel, hF.fx.step (.inl rfl), hF.v4, hF.v10, hF.v11, hF.v12, fun _ => ⟨h6, fun u y (e : val 10 = _) => by rw [e6] at e; injection e with e; exact (Jr0 e).2⟩, hF.v14, hF.v15, fun h => absurd ((hF.v16 h).1) (by rw [hd]; decide)⟩)
    clear hF hS hd hp
    go_simp
   case refine_15 =>
    intro d val a' w' hS hF hd hp
    have hG := hF.next (Jb w' (.cells #[.bool false, .int .u64 0, .string ⟨#[]⟩, .int .u64 0, .string ⟨#[]⟩, .slice none 0 0, .slice none 0 0, .slice none 0 0] 43))
    have aV := hF.bel.size
    refine Xa (v := .pointer (some ⟨w'.heap.size, 0, none⟩)) (w2 := w'.alloc (.cells #[.bool false, .int .u64 0, .string ⟨#[]⟩, .int .u64 0, .string ⟨#[]⟩, .slice none 0 0, .slice none 0 0, .slice none 0 0] 43)) _ rfl rfl ?_ (show StR _ _ _ _ _ _ _ _ _ _ from ⟨hG.bel, hG.fx.step (.inl rfl), hG.v4, fun h => ?_, hG.v11, hG.v12, hG.v13, fun _ => ⟨_, _, _, _, _, _, _, _, _, rfl, aV, Blk.new _ _ _, fun h => absurd (hF.v15 h) (by rw [hd]; decide)⟩, fun _ => rfl, hG.v16⟩)
    ·clear hG hF hS hd hp
     go_simp
    obtain ⟨q0, q1, q2, q3, q4, q5, q6, q7, e6, o9, bP⟩ := hF.v10 h
    exact ⟨q0, q1, q2, q3, q4, q5, q6, q7, e6, o9, bP.next (Jb _ _) fun g hg => .inr (by rw [<- Jrg (show Value.pointer (some ⟨w'.heap.size, 0, none⟩) = .pointer (some ⟨g, 0, none⟩) from hg.2)]; exact Nat.le_refl _)⟩
   case refine_16 =>
    intro d val a' w' hS hF hd hp
    obtain ⟨h6, h8⟩ := hF.v12 (hp 12 (by kernel_rfl))
    have aG := hp 14 (by kernel_rfl)
    obtain ⟨g', z0, z1, z2, z3, z4, z5, z6, z7, e11, t8, aU, -⟩ := hF.v14 aG
    obtain ⟨q0, q1, q2, q3, q4, q5, q6, q7, e6, o9, bP⟩ := hF.v10 h6
    have e8 := h8 _ _ e6
    exact Jde _ rfl rfl _ _ _ rfl rfl g' #[q0, q1, q2, q3, q4, q5, q6, q7] _ ((hS.got 14 15 aG rfl (Nat.le_of_ble_eq_true (by kernel_rfl))).trans e11) ((hS.got 12 38 (hp 12 (by kernel_rfl)) rfl (Nat.le_of_ble_eq_true (by kernel_rfl))).trans e8) _ aU (by kernel_rfl) rfl o9 fun w2 j0 cR => show StR _ _ _ _ _ _ _ _ _ _ from ⟨hF.bel.trans (cR.below hF.bel.size t8), hF.fx.step (.inl rfl), fun h => (hF.v4 h).imp fun A h => h.imp fun c h => ⟨h.1, fun h' => absurd (show d 10 = false from h') (by rw [h6]; decide)⟩, fun h => ⟨q0, q1, q2, q3, q4, q5, q6, q7, e6, o9, bP.exc cR ⟨aG, e11⟩⟩, hF.v11, hF.v12, hF.v13, fun _ => ⟨g', _, _, _, _, _, _, _, _, e11, t8, j0, fun _ => ⟨hp 12 (by kernel_rfl), e8⟩⟩, fun _ => aG, hF.v16⟩
   case refine_17 =>
    intro d val a' w' hS hF hd hp
    have e1 := hS.res 13 39 (hp 13 (by kernel_rfl)) rfl (by kernel_rfl)
    have h9 := hp 13 (by kernel_rfl)
    refine Xa (v := val 13) _ rfl rfl ?_ (show StR _ _ _ _ _ _ _ _ _ _ from ⟨hF.bel, hF.fx.step (.inl rfl), hF.v4, hF.v10, hF.v11, hF.v12, hF.v13, hF.v14, hF.v15, fun _ => ⟨h9, rfl⟩⟩)
    clear hF hS hd hp
    go_simp
  intro d val w' hF hd
  simp only [Exit.then, Jd7, Act.put, List.setIfInBounds_toArray, List.set_cons_succ, List.set_cons_zero]
  refine ‹∀ a' w', Met _ a' w' -> _› _ _ ?_
  go_meet
  exact hF.end_ hd HMC.out
 case rest =>
  obtain ⟨g, rfl, rfl, y9, aY⟩ := hcut
  rename World => wc
  have HST := lh y9
  have HBC := lh aY
  have bk4 := BK4.out.below aY aP
  obtain ⟨z0, z1, z2, z3, z4, z5, z6, z7⟩ := bk4.c8
  obtain ⟨ma, AW, cW, gS, gC, F5, G5, H5, aQ, q8, j6, aE, aI, aF⟩ := y9
  obtain ⟨y0, y1, y2, y3, y4, y5, y6, y7⟩ := q8.c8
  clear aQ q8 j6 aE aI aF aY bk4
  go_wp2_with fail
  go_loopw [17] (fun p wr => ∃ k : Nat, k <= n3 /\ p = .int .i64 (k : Int) /\ StC w4.heap.size g n1 n2 n3 m'.smooth wr /\ Below w4.heap.size w4 wr) (fun p _ => n3 - (intOf p).toNat)
  case atStart => exact ⟨0, by omega, rfl, HST.out, HBC.out⟩
  case round =>
   clear HST HBC y0 y1 y2 y3 y4 y5 y6 y7 z0 z1 z2 z3 z4 z5 z6 z7
   obtain ⟨k, hk, rfl, y9, p9⟩ := hrel
   rename World => wr
   have HST := lh y9
   have HBR := lh p9
   obtain ⟨ma, AW, cW, gS, gC, F5, G5, H5, aQ, q8, j6, aE, aI, aF⟩ := y9
   obtain ⟨y0, y1, y2, y3, y4, y5, y6, y7⟩ := q8.c8
   by_cases eY : k < n3
   ·as_aux_lemma =>
    have k1 : (k : Int) < (n3 : Int) := by omega
    have k2 : (k : Int) < (n2 : Int) := by omega
    have gY : ma.seen.length = n2 := j6.read.seen.len
    obtain ⟨x, hx⟩ : ∃ x, ma.seen[k]? = some x := ⟨_, List.getElem?_eq_getElem (by omega)⟩
    have aZ := j6.seen.cell hx
    unfold zv at aZ
    have eQ := j6.seen.frozen k
    obtain ⟨y8, fV⟩ := StC.seen q8 j6 aE aI aF k
    rw [aQ] at y8
    have j0 := p9.setCell fV (p := ⟨gS, k, none⟩) (.int .i64 7)
    clear hx gY aQ q8 j6 aE aI aF p9 fV HST HBR
    have HST := lh y8
    have HB2 := lh j0
    clear y8 j0
    go_upto_region 10 with fail
    clear aZ eQ y0 y1 y2 y3 y4 y5 y6 y7
    generalize wr.setCell ⟨gS, k, none⟩ (.int .i64 7) = w5 at *
    have y9 := HST.out
    obtain ⟨ma, AW, cW, gS, gC, F5, G5, H5, aQ, q8, j6, aE, aI, aF⟩ := y9
    obtain ⟨y0, y1, y2, y3, y4, y5, y6, y7⟩ := q8.c8
    clear aQ q8 j6 aE aI aF
    go_wp2_with fail
    go_loopw [18] (fun p w6 => ∃ c : Nat, c <= n1 /\ p = .int .i64 (c : Int) /\ StC w4.heap.size g n1 n2 n3 m'.smooth w6 /\ Below w4.heap.size w4 w6) (fun p _ => n1 - (intOf p).toNat)
    case atStart => exact ⟨0, by omega, rfl, HST.out, HB2.out⟩
    case round =>
     clear HST HB2 y0 y1 y2 y3 y4 y5 y6 y7
     obtain ⟨c, hc, rfl, y9, p9⟩ := hrel
     rename World => w6
     have HST := lh y9
     have HBR := lh p9
     obtain ⟨ma, AW, cW, gS, gC, F5, G5, H5, aQ, q8, j6, aE, aI, aF⟩ := y9
     obtain ⟨y0, y1, y2, y3, y4, y5, y6, y7⟩ := q8.c8
     have aX : ma.counts.length = n3 := ReadsS.len j6.read.counts
     obtain ⟨t, ht⟩ : ∃ t, ma.counts[k]? = some t := ⟨_, List.getElem?_eq_getElem (by omega)⟩
     obtain ⟨bF, eR⟩ := aF t (List.mem_of_getElem? ht)
     by_cases bD : c < n1
     ·as_aux_lemma =>
      have c1' : (c : Int) < (n1 : Int) := by omega
      obtain ⟨b, hb⟩ : ∃ b, t[c]? = some b := ⟨_, List.getElem?_eq_getElem (by omega)⟩
      have gZ := eR b (List.mem_of_getElem? hb)
      obtain ⟨y, hy⟩ : ∃ y, b[0]? = some y := ⟨_, List.getElem?_eq_getElem (by omega)⟩
      obtain ⟨u, q1, x, q2, d1, d2, d3, d4⟩ := j6.deep ht hb hy
      obtain ⟨y8, fW⟩ := StC.count q8 j6 aE aI aF ht hb d1 d2
      rw [aQ] at y8
      have HS2 := lh y8
      have HB2 := lh (p9.setCell fW (p := ⟨x, 0, none⟩) (.int .i64 99))
      rw [bF] at d1
      unfold zv at d3
      have iK : (0 : Int) < (b.length : Int) := by omega
      clear y8 fW aQ q8 j6 aE aI aF aX eR gZ hy hb ht p9 HST HBR
      go_wp2_with fail
      exact ⟨⟨c + 1, by omega, by go_num, HS2.out, HB2.out⟩, by simp [intOf]; omega⟩
     as_aux_lemma =>
     obtain rfl : c = n1 := by omega
     have c2' : ¬ (c : Int) < (c : Int) := by omega
     obtain ⟨A9, c9, d1⟩ := j6.head ht
     rw [bF] at d1
     clear aQ q8 j6 aE aI aF aX eR ht p9
     go_wp2_with fail
     exact ⟨⟨k + 1, by omega, by go_num, HST.out, HBR.out⟩, by simp [intOf]; omega⟩
   as_aux_lemma =>
   obtain rfl : k = n3 := by omega
   obtain rfl : n2 = k := eP
   have k1 : ¬ (n2 : Int) < (n2 : Int) := by omega
   have cH : ma.words.length = n1 := j6.read.words.len
   obtain ⟨x, hx⟩ : ∃ x, ma.words[0]? = some x := ⟨_, List.getElem?_eq_getElem (by omega)⟩
   obtain ⟨gW, rfl⟩ := j6.words.blk (by omega)
   have aZ := j6.words.cell hx
   unfold zv at aZ
   have eQ := j6.words.frozen 0
   obtain ⟨-, fX⟩ := StC.words q8 j6 aE aI aF 0
   have HB5 := lh (p9.setCell fX (p := ⟨gW, 0, none⟩) (.int .i64 88))
   have iL : (0 : Int) < (n1 : Int) := by omega
   clear cH hx aQ q8 j6 aE aI aF p9 fX HST HBR
   go_upto_region 15 with fail
   clear aZ eQ y0 y1 y2 y3 y4 y5 y6 y7
   generalize wr.setCell ⟨gW, 0, none⟩ (.int .i64 88) = w5 at *
   go_wp2_with fail
   refine (HKN.out _ (HT.out.next (HB4.out.trans (HB5.out.mono HB4.out.size)))).mono ?_
   rintro e w6 ⟨rfl, bJ⟩
   have HB6 := lh (HB5.out.trans (bJ.mono HB5.out.size))
   have H16 := lh (H14.out.trans (HB6.out.mono H14.out.size))
   have bk4 := BK4.out.below HB6.out aP
   obtain ⟨z0, z1, z2, z3, z4, z5, z6, z7⟩ := bk4.c8
   have bk34 := BK34.out.below HB6.out eO
   obtain ⟨y0, y1, y2, y3, y4, y5⟩ := bk34.c6
   have bH := Jrn A1 A2 A3 n1 c1 n2 c2 n2 c3 ng A7 A8 l7 d7 l8 d8 X1 X2 X3 c1' c2' c3' w6.heap.size m w6 ((HO4.out.next HB6.out).read) ((HR.out.2.below H16.out).more H16.out.size) ((HR.out.1.below H16.out).more H16.out.size) zd HQ.out.2.2.1 (HQ.out.1.mono (by omega))
   have HSA := lh bH
   clear bJ bk4 bk34 bH
   go_wp2_with fail
   refine HSA.out.mono ?_
   rintro e w7 ⟨rfl, aH⟩
   have HB7 := lh (HB4.out.trans ((HB6.out.trans (aH.mono HB6.out.size)).mono HB4.out.size))
   clear aH HSA y0 y1 y2 y3 y4 y5 z0 z1 z2 z3 z4 z5 z6 z7
   go_wp2
   go_ret
   exact ⟨rfl, HB7.out⟩
