/-
  The walk of abaculuslaw4.OctetBack.
-/
import Derived.Test.YtjmbpnogicdkgaaGreatDoorTab
import Derived.Test.YtjmbpnogicdkgaaGreatDoorLays
import Derived.Test.YtjmbpnogicdkgaaGreatDoorReaderD
import Derived.Test.YtjmbpnogicdkgaaGreatDoorRefInt
import Derived.Test.YtjmbpnogicdkgaaGreatDoorFracCmp
import Derived.Test.YtjmbpnogicdkgaaGreatDoorWholeM
import Derived.Test.YtjmbpnogicdkgaaGreatDoorKnown4
import Derived.WalkKit
import Derived.Deep.DeepCutAuto
import Derived.Deep.CutBlock
namespace Go.Proofs.YtjmbpnogicdkgaaGreatDoor
open Go.RowKit
set_option linter.unusedVariables false
set_option linter.unusedSimpArgs false

theorem Pair.forget {w : World} {B b : Nat} {v u : Value} {l lu : List UInt8} (h : Pair w B b v u l lu) : Pair w B b v (.slice none 0 0) l [] :=
  ⟨h.isw, Own.nil_ _ _ _, h.low, h.lb, h.lv, (fun k hk => by cases hk), (fun e => by cases e), (fun k hk => by cases hk)⟩
theorem allB_drop (l : List StepD) (N k : Nat) (x : StepD) (h : l[k]? = some x) (hk : k < N) : allB ((l.take N).drop k) = stepL x ++ allB ((l.take N).drop (k + 1)) := by
  have hx : (l.take N)[k]? = some x := by rw [List.getElem?_take, if_pos hk]; exact h
  have hlt : k < (l.take N).length := (List.getElem?_eq_some_iff.1 hx).1
  rw [List.drop_eq_getElem_cons hlt]
  have e : (l.take N)[k] = x := (List.getElem?_eq_some_iff.1 hx).2
  rw [e]
  rfl
theorem allB_out (l : List StepD) (N : Nat) : allB ((l.take N).drop N) = [] := by
  rw [List.drop_of_length_le (by rw [List.length_take]; omega)]
  rfl
theorem allB_drop_len (l : List StepD) (N k : Nat) (hN : N ≤ 30) : (allB ((l.take N).drop k)).length ≤ 6300 := by
  have := allB_len ((l.take N).drop k)
  rw [List.length_drop, List.length_take] at this
  omega
/-- so many steps are laid, the caller's bytes forgotten -/
def BackRel (W : World) (B b : Nat) (l : List StepD) (k : Nat) (wr : World) : Prop := ∃ v, Pair wr B b v (.slice none 0 0) (allB (l.take k)) [] ∧ Below B W wr
/-- so many steps are read again -/
def ReadRel (W X : World) (g B' : Nat) (l : List StepD) (N k : Nat) (wr : World) : Prop := IsR wr g B' (allB ((l.take N).drop k), false) ∧ Exc g X wr
/-- the step's own state behind its reading -/
def afterS (x : StepD) (rest : List UInt8) : St := if x.what % 5 = 0 ∧ 4611686018427387904 < x.n then stFail else (rest, false)

/-- what Few leaves of a string's bytes -/
def FewB (l : List UInt8) (w : World) (e : Ending) (w' : World) : Prop := ∃ A K c, e = .returned (.slice A K c) ∧ Bytes w' w'.heap.size A K l ∧ Below w.heap.size w w'
theorem fewB_in (s : ByteArray) (Y : World) (g c : Nat) (h : Bytes Y (g + 1) (some ⟨g, 0, none⟩) s.size s.data.toList) (hB : g + 1 ≤ Y.heap.size) (hs : s.size ≤ 9223372036854775807) (hc : s.size ≤ c) :
    Calls Tryz.prog 15 #[.slice (some ⟨g, 0, none⟩) s.size c, .int .i64 200] Y (FewB (s.data.toList.take 200) Y) :=
  (few_reads _ _ _ _ _ 200 Y h hB hs hc (by omega)).mono fun e w' ⟨A, K, c', h1, _, _, _, h2, h3⟩ => ⟨A, K, c', h1, h2, h3⟩
theorem fewB_now (s : ByteArray) (V : World) (c : Nat) (hs : s.size ≤ 9223372036854775807) (hc : s.size ≤ c) :
    Calls Tryz.prog 15 #[.slice (some ⟨V.heap.size, 0, none⟩) s.size c, .int .i64 200] (Lib.bytesWorld V 5 s) (FewB (s.data.toList.take 200) (Lib.bytesWorld V 5 s)) :=
  fewB_in s _ _ c (bytes_bytesWorld V 5 s) (by rw [Lib.bytesWorld_size]; omega) hs hc
/-- behind a call that changes block g alone -/
theorem fewB_exc (s : ByteArray) (V w' : World) (g c : Nat) (hs : s.size ≤ 9223372036854775807) (hc : s.size ≤ c) (hx : Exc g (Lib.bytesWorld V 5 s) w') (hg : g < V.heap.size) :
    Calls Tryz.prog 15 #[.slice (some ⟨V.heap.size, 0, none⟩) s.size c, .int .i64 200] w' (FewB (s.data.toList.take 200) w') :=
  fewB_in s _ _ c (Reads.exc (bytes_bytesWorld V 5 s) hx (by rw [Lib.bytesWorld_size]; omega) (fun ad h => by obtain rfl := Option.some.inj h; simp; omega)) (by have := hx.size; rw [Lib.bytesWorld_size] at this; omega) hs hc

set_option maxRecDepth 100000 in
set_option maxHeartbeats 16000000 in
theorem octetBack_walk (A : Option Addr) (n c : Nat) (l : List StepD) (w : World) (h : ReadsW w w.heap.size 6 stepC A n l) (hok : ∀ x ∈ l, StepOK w w.heap.size x) (hn : n ≤ c) (hc : c ≤ 9223372036854775807) (hT : Tab w) :
    Calls Tryz.prog 6 #[.slice A n c] w fun e w' => e = .returned (.bool true) ∧ Below w.heap.size w w' := by
  have H := Lib.hid h
  have HOK := Lib.hid hok
  have HT := Lib.hid hT
  have hlen := h.len
  have HLEN := Lib.hid hlen
  clear h hok hT hlen
  go_enter Tryz.func6, Tryz.ntmps6
  go_wp2_with fail
  refine (new_writer w).mono ?_
  rintro e w1 ⟨rfl, rfl⟩
  have h1 := IsW.new w
  have hB1 := balloc1 w (.cells #[.slice none 0 0] 99)
  generalize w.alloc (.cells #[.slice none 0 0] 99) = x1 at *
  go_wp2_with fail
  refine (octet_known x1).mono ?_
  rintro e x2 ⟨rfl, hb2⟩
  have h2 := h1.below hb2
  have hB2 := bthen hB1 hb2
  clear h1 hB1 hb2
  obtain ⟨b, hb⟩ : ∃ b, w.heap.size = b := ⟨_, rfl⟩
  have HP0 : Pair x2 w.heap.size b (.slice none 0 0) (.slice none 0 0) [] [] := by
    rw [← hb]
    exact Pair.start (w' := w) h2 hB2.size (Nat.le_refl _)
  rw [hb]
  have hwb : w.heap.size ≤ b := by omega
  clear hb h2
  go_upto_block 0 with fail
  go_cut [4] (fun _ wc => ∃ N : Nat, N ≤ n ∧ N ≤ 30 ∧ (N = n ∨ N = 30) ∧ BackRel w w.heap.size b l N wc)
  case first =>
    go_wp2_with fail
    go_loopw [4] (fun i wr => ∃ k : Nat, k ≤ n ∧ k ≤ 30 ∧ i = .int .i64 (k : Int) ∧ BackRel w w.heap.size b l k wr) (fun i _ => 30 - (intOf i).toNat)
    case atStart => exact ⟨0, by omega, by omega, rfl, _, HP0, hB2⟩
    case round =>
      obtain ⟨k, hk, hk30, rfl, v, hpr, hbel⟩ := hrel
      clear HP0 hB2
      by_cases hlt : k < n ∧ k < 30
      · obtain ⟨hlt1, hlt2⟩ := hlt
        obtain ⟨ad, g, o, x, rfl, hP, hgB, hx, x0, x1, x2, x3, x4, x5⟩ := ReadsS.cells (H.out.below hbel) hlt1
        have ok := (HOK.out x (List.mem_of_getElem? hx)).below hbel
        have hlen : (allB (l.take k)).length ≤ 6300 := by
          have := allB_len (l.take k)
          rw [List.length_take] at this
          omega
        have hly := law_lay x.what x.n x.A1 x.A2 x.na x.ca x.nb x.cb w.heap.size b x.neg x.s v (.slice none 0 0) (allB (l.take k)) [] _ hpr x.al x.bl ok.ha ok.hb (Nat.le_trans ok.ca ok.ca2) (Nat.le_trans ok.cb ok.cb2) ok.ca ok.cb ok.hs (HT.out.next hbel) ok.w0 ok.w1 ok.n1 (by omega) (by simp)
        have htk := allB_take l k x hx
        unfold stepL at htk
        have HTK := Lib.hid htk
        have HLY := Lib.hid hly
        have HB := Lib.hid hbel
        clear hly htk hx ok hpr hbel hlen
        obtain ⟨xw, xn, xA1, xna, xca, xA2, xnb, xcb, xneg, xs, xal, xbl⟩ := x
        simp only [] at x0 x1 x2 x3 x4 x5 HLY HTK
        have k1 : (k : Int) < (n : Int) := by omega
        have k2 : (k : Int) < 30 := by omega
        go_wp2_with fail
        refine HLY.out.mono ?_
        rintro e w1 ⟨v', u', rfl, hp', hb', _⟩
        have hb9 := HB.out.trans hb'
        rw [← HTK.out] at hp'
        have HF := Lib.hid (And.intro hp'.forget hb9)
        clear hp' hb9 hb' HLY HB HTK x0 x1 x2 x3 x4 x5 hP
        go_wp2
        exact ⟨⟨k + 1, by omega, by omega, by go_num, v', HF.out.1, HF.out.2⟩, by simp [intOf]; omega⟩
      · have hcase : (¬ (k : Int) < (n : Int)) ∨ ((k : Int) < (n : Int) ∧ ¬ (k : Int) < 30) := by omega
        have hN : k = n ∨ k = 30 := by omega
        clear hlt
        rcases hcase with k1 | ⟨k1, k2⟩
        all_goals
          go_wp2
          go_meet
          exact ⟨k, hk, hk30, hN, v, hpr, hbel⟩
  case rest =>
    obtain ⟨N, hNn, hN30, hN, v, hpr, hbel⟩ := hcut
    clear HP0 hB2
    have hLl : (allB (l.take N)).length ≤ 6300 := by
      have := allB_len (l.take N)
      rw [List.length_take] at this
      omega
    have hby := writer_bytes b v (allB (l.take N)) wc hpr.isw (by omega)
    have HBY := Lib.hid hby
    clear hpr hby
    go_wp2_with fail
    refine HBY.out.mono ?_
    rintro e w2 ⟨v2, rfl, ho2, hb2, hf2⟩
    have hB2 := hbel.trans (hb2.mono hbel.size)
    obtain ⟨A2, c2, hv2, hc3, hc4⟩ := ho2.form
    rw [hv2] at ho2 ⊢
    have hrd := Own.reads ho2
    have hnr := new_reader A2 _ c2 _ _ w2 hrd (Nat.le_refl _) (by omega)
    have e0 : allB (l.take N) = allB ((l.take N).drop 0) := by rw [List.drop_zero]
    have hll : (allB (l.take N)).length = (allB (l.take N)).length := rfl
    have HNR := Lib.hid hnr
    clear hv2 hf2 hb2 HBY hrd ho2 hnr hbel hll hc3 hc4
    generalize (allB (l.take N)).length = LL at *
    go_wp2_with fail
    refine HNR.out.mono ?_
    rintro e w3 ⟨g, B', rfl, hR, hb3, hg3⟩
    rw [e0] at hR
    have hB3 := hB2.trans (hb3.mono hB2.size)
    have hgw : w.heap.size ≤ g := Nat.le_trans hB2.size hg3
    have hR0 := Lib.hid hR
    clear HNR hb3 hg3 e0 hR hLl hB2
    go_wp2_with fail
    go_loopw [6] (fun i wr => ∃ k : Nat, k ≤ N ∧ i = .int .i64 (k : Int) ∧ ReadRel w w3 g B' l N k wr) (fun i _ => 30 - (intOf i).toNat)
    case atStart => exact ⟨0, by omega, rfl, hR0.out, Exc.refl _ _⟩
    case round =>
      obtain ⟨k, hk, rfl, hRk, hxk⟩ := hrel
      rename World => wr
      clear hR0
      have hBk : Below w.heap.size w wr := hB3.trans (hxk.below hB3.size hgw)
      by_cases hlt : k < N
      · have hlt1 : k < n := by omega
        obtain ⟨ad, gg, o, x, rfl, hP, hgB, hx, x0, x1, x2, x3, x4, x5⟩ := ReadsS.cells (H.out.below hBk) hlt1
        have ok := (HOK.out x (List.mem_of_getElem? hx)).below hBk
        have hdr := allB_drop l N k x hx hlt
        have hx0 := hx
        have hdl := allB_drop_len l N (k + 1) hN30
        have hk2 : k < 30 := by omega
        rw [hdr] at hRk
        have HOKX := Lib.hid ok
        have HXM0 := Lib.hid (List.mem_of_getElem? hx0)
        obtain ⟨xw, xn, xA1, xna, xca, xA2, xnb, xcb, xneg, xs, xal, xbl⟩ := x
        simp only [] at x0 x1 x2 x3 x4 x5
        have k1 : (k : Int) < (n : Int) := by omega
        have k2 : (k : Int) < 30 := by omega
        have bx := Blk.new wr 24 #[.int .i64 xw, .int .i64 xn, .slice xA1 xna xca, .slice xA2 xnb xcb, .bool xneg, .string xs]
        have hRx := hRk.below (balloc1 wr (.cells #[.int .i64 xw, .int .i64 xn, .slice xA1 xna xca, .slice xA2 xnb xcb, .bool xneg, .string xs] 24))
        have hBx := hBk.trans ((balloc1 wr (.cells #[.int .i64 xw, .int .i64 xn, .slice xA1 xna xca, .slice xA2 xnb xcb, .bool xneg, .string xs] 24)).mono hBk.size)
        have hxx := hxk.trans (Exc.of (balloc1 wr (.cells #[.int .i64 xw, .int .i64 xn, .slice xA1 xna xca, .slice xA2 xnb xcb, .bool xneg, .string xs] 24)))
        have hgl := hRk.lt
        have hpk := fun w => hand_pick xw 5 w HOKX.out.w0 HOKX.out.w1 (by omega) (by omega)
        obtain ⟨r, hr⟩ : ∃ r, xw % ((5 : Nat) : Int) = r := ⟨_, rfl⟩
        have hr2 : xw % 5 = r := hr
        have hr5 : r = 0 ∨ r = 1 ∨ r = 2 ∨ r = 3 ∨ r = 4 := by omega
        rw [hr] at hpk
        have HPK := Lib.hid hpk
        have HR2 := Lib.hid hr2
        clear hpk hr hr2 hRk hxk
        go_wp2_with fail
        have hbz : (wr.alloc (.cells #[.int .i64 xw, .int .i64 xn, .slice xA1 xna xca, .slice xA2 xnb xcb, .bool xneg, .string xs] 24)).heap.size = wr.heap.size + 1 := World.size_alloc _ _
        obtain ⟨gb, hgb⟩ : ∃ gb, wr.heap.size = gb := ⟨_, rfl⟩
        rw [hgb] at bx hbz hgl
        rw [hgb]
        clear x0 x1 x2 x3 x4 x5 hP hgb
        have HBZ := Lib.hid hbz
        clear hbz
        generalize wr.alloc (.cells #[.int .i64 xw, .int .i64 xn, .slice xA1 xna xca, .slice xA2 xnb xcb, .bool xneg, .string xs] 24) = wb at *
        refine (HPK.out wb).mono ?_
        rintro e w4 ⟨rfl, rfl⟩
        go_upto_block 4 with fail
        obtain ⟨R', hR'⟩ : ∃ R', allB ((l.take N).drop (k + 1)) = R' := ⟨_, rfl⟩
        rw [hR'] at hRx hdl
        have HRR := Lib.hid hR'
        have hgbg : gb ≠ g := by omega
        have hgbg2 : g < gb := hgl
        have hxd := hxx.trans (Exc.of (bdrew0 wb))
        have hBd : Below w.heap.size w wb.drew := hB3.trans (hxd.below hB3.size hgw)
        have hTd := HT.out.next hBd
        have hTg : 3 ≠ g := by have := HT.out.lt; omega
        have hRd := hRx.below (bdrew0 wb)
        have hqs := qOf_size xneg xal xbl
        have HQS := Lib.hid hqs
        have HQ : Hid (∀ w', Below w.heap.size w w' → Calls Tryz.prog 13 #[.agg #[.int .i64 xw, .int .i64 xn, .slice xA1 xna xca, .slice xA2 xnb xcb, .bool xneg, .string xs]] w' (RetQ (qOf xneg xal xbl) w')) := Lib.hid fun w' hb => by
          have o9 := HOK.out ⟨xw, xn, xA1, xna, xca, xA2, xnb, xcb, xneg, xs, xal, xbl⟩ HXM0.out
          have o := o9.below hb
          exact law_q xw xn xA1 xA2 xna xca xnb xcb w.heap.size xneg xs xal xbl w' o.ha o.hb hb.size (Nat.le_trans o.ca o.ca2) (Nat.le_trans o.cb o.cb2) o.ca o.cb
        have sL := stepB_len (xw % 5).toNat xn xal xbl xneg xs
        have HRX := Lib.hid hRx
        have HRD := Lib.hid hRd
        have HTD := Lib.hid hTd
        clear hqs hR' hRx hRd hTd hBd
        go_cut [8] from 37 to 120 (fun v wc => v = .bool true ∧ IsR wc g B' (afterS ⟨xw, xn, xA1, xna, xca, xA2, xnb, xcb, xneg, xs, xal, xbl⟩ R') ∧ Exc g w3 wc ∧ Blk wc gb 24 #[.int .i64 xw, .int .i64 xn, .slice xA1 xna xca, .slice xA2 xnb xcb, .bool xneg, .string xs])
        case first =>
          have c0 := bx.drew
          rcases hr5 with rfl | rfl | rfl | rfl | rfl
          · have hst : stepL ⟨xw, xn, xA1, xna, xca, xA2, xnb, xcb, xneg, xs, xal, xbl⟩ ++ R' = countB xn.toNat ++ R' := by unfold stepL; simp only []; rw [HR2.out]; rfl
            have hRW := HRD.out
            rw [hst] at hRW
            have hcl : (countB xn.toNat).length ≤ 10 := countF_len 9 xn.toNat
            have hw0 := reader_count g B' 4611686018427387904 _ wb.drew hRW (by simp only [List.length_append]; omega)
            have q1 : wb.cell? ⟨gb, 1, none⟩ = some (.int .i64 xn) := bx.cell 1
            have hn1 := HOKX.out.n1
            simp only [] at hn1
            by_cases hbig : 4611686018427387904 < xn
            · have haf : afterS ⟨xw, xn, xA1, xna, xca, xA2, xnb, xcb, xneg, xs, xal, xbl⟩ R' = stFail := by unfold afterS; simp only []; rw [HR2.out]; simp [hbig]
              have HAF := Lib.hid haf
              rw [stCount_long _ _ _ (by omega) (by omega)] at hw0
              have HW := Lib.hid hw0
              have m1 : (if (0 : Int) < xn then xn else 0) = xn := by split <;> omega
              have m2 : max (0 : Int) xn = xn := by omega
              have m3 : ((0 : Int) == xn) = false := by simp; omega
              have m4 : decide ((4611686018427387904 : Int) < xn) = true := decide_eq_true hbig
              have hBD : Hid (∀ w', IsR w' g B' stFail → Calls Tryz.prog 19 #[.pointer (some ⟨g, 0, none⟩)] w' fun e w'' => e = .returned (.bool true) ∧ w' = w'') := Lib.hid fun w' hh => reader_bad g B' stFail w' hh
              clear hw0 hst haf hRW hcl hn1
              go_wp2_with fail
              go_region_with (first | (go_at_call 35; (with_reducible refine HW.out.mono ?_); rintro e w5 ⟨rfl, hR5, hx5⟩; have c0 := c0.exc hx5 hgbg; have p1 : w5.cell? ⟨gb, 1, none⟩ = some (.int .i64 xn) := c0.cell 1; have hx5 := hxd.trans hx5) | (go_at_call 19; (with_reducible refine (hBD.out _ hR5).mono ?_); rintro e w6 ⟨rfl, rfl⟩))
              all_goals
                go_wp2
                go_meet
                exact ⟨rfl, by rw [HAF.out]; exact hR5, hx5, c0⟩
            · have haf : afterS ⟨xw, xn, xA1, xna, xca, xA2, xnb, xcb, xneg, xs, xal, xbl⟩ R' = (R', false) := by unfold afterS; simp only []; rw [HR2.out]; simp [hbig]
              have HAF := Lib.hid haf
              rw [stCount_back _ _ _ (by omega) (by omega)] at hw0
              have hmm : (0 ≤ xn ∧ max (0 : Int) xn = xn ∧ (xn.toNat : Int) = xn) ∨ (max (0 : Int) xn = 0 ∧ (xn.toNat : Int) = 0) := by omega
              rcases hmm with ⟨m1, m2, m3⟩ | ⟨m2, m3⟩
              all_goals
                rw [m3] at hw0
                have HW := Lib.hid hw0
                clear hw0 hst haf hRW hcl hn1 m3
                go_wp2_with fail
                have hund : undef = Value.tuple #[] := rfl
                first | (go_region_with (go_at_call 35; (with_reducible refine HW.out.mono ?_); rintro e w5 ⟨rfl, hR5, hx5⟩; have c0 := c0.exc hx5 hgbg; have p1 : w5.cell? ⟨gb, 1, none⟩ = some (.int .i64 xn) := c0.cell 1; have hx5 := hxd.trans hx5)) | fail
                all_goals
                  go_wp2
                  go_meet
                  exact ⟨rfl, by rw [HAF.out]; exact hR5, hx5, c0⟩
          · have hst : stepL ⟨xw, xn, xA1, xna, xca, xA2, xnb, xcb, xneg, xs, xal, xbl⟩ ++ R' = wholeB (qOf xneg xal xbl).num ++ R' := by unfold stepL; simp only []; rw [HR2.out]; rfl
            have haf : afterS ⟨xw, xn, xA1, xna, xca, xA2, xnb, xcb, xneg, xs, xal, xbl⟩ R' = (R', false) := by unfold afterS; simp only []; rw [HR2.out]; simp
            have hRW := HRD.out
            rw [hst] at hRW
            have hwl := wholeB_len (qOf xneg xal xbl).num HQS.out.1
            have hw0 := reader_whole g B' _ wb.drew hRW (by simp only [List.length_append]; omega)
            rw [stWhole_back _ _ (by have := nbytes73 HQS.out.1; omega)] at hw0
            have HAF := Lib.hid haf
            have hfl : ∀ (x y z : Value) w, (Instr.field 36 (.agg #[x, y, z]) 0).run Tryz.prog w = .ok (.agg #[x, y]) w := fun x y z w => by kernel_rfl
            have z1 : blen (qOf xneg xal xbl).num.natAbs ≤ 1099511627776 := Nat.le_trans HQS.out.1 (by omega)
            have hcm := fun w => whole_cmp (qOf xneg xal xbl).num (qOf xneg xal xbl).num w z1 z1
            have hc0 : cmpZ (qOf xneg xal xbl).num (qOf xneg xal xbl).num = 0 := by unfold cmpZ; simp
            rw [hc0] at hcm
            generalize qOf xneg xal xbl = q at *
            unfold intV at hw0 hcm
            have hin := fun w' V (h : IsI w' w'.heap.size V q.num) => hand_int q.num w'.heap.size V w' h (Nat.le_refl _) z1
            unfold intV at hin
            generalize decide (q.num < 0) = nq at *
            have HW := Lib.hid hw0
            have HCM := Lib.hid hcm
            have HIN := Lib.hid hin
            clear hw0 hcm hin hst haf hRW hwl z1 hc0
            obtain ⟨q0, q1, q2, q3, q4, q5⟩ := bx.c6
            go_wp2_with fail
            go_region_held3 (fun w' => w'.cell? ⟨gb, 0, none⟩ = some (.int .i64 xw) ∧ w'.cell? ⟨gb, 1, none⟩ = some (.int .i64 xn) ∧ w'.cell? ⟨gb, 2, none⟩ = some (.slice xA1 xna xca) ∧ w'.cell? ⟨gb, 3, none⟩ = some (.slice xA2 xnb xcb) ∧ w'.cell? ⟨gb, 4, none⟩ = some (.bool xneg) ∧ w'.cell? ⟨gb, 5, none⟩ = some (.string xs)) (go_keep) (first | (go_at_call 36; (with_reducible refine HW.out.mono ?_); rintro e w5 ⟨rfl, hR5, hx5⟩; have c0 := c0.exc hx5 hgbg; (try clear q0 q1 q2 q3 q4 q5); obtain ⟨q0, q1, q2, q3, q4, q5⟩ := c0.c6; have hx5 := hxd.trans hx5; have hb5 := hB3.trans (hx5.below hB3.size hgw)) | (go_at_call 13; (with_reducible refine (HQ.out _ hb5).mono ?_); rintro e w6 ⟨v6, rfl, hq6, hw6⟩; obtain ⟨g6, A6, l6, c6c, A6', l6', c6c', hv6⟩ := hq6.shape; subst hv6; have c0 := c0.below hw6 c0.lt; (try clear q0 q1 q2 q3 q4 q5); obtain ⟨q0, q1, q2, q3, q4, q5⟩ := c0.c6; have hR6 := hR5.below hw6; have hx6 := hx5.trans (Exc.of hw6); have hb6 := hb5.trans (hw6.mono hb5.size)) | (go_at_call 38; (with_reducible refine (HIN.out _ _ hq6.num).mono ?_); rintro e w7 ⟨rfl, hw7⟩; have c0 := c0.below hw7 c0.lt; (try clear q0 q1 q2 q3 q4 q5); obtain ⟨q0, q1, q2, q3, q4, q5⟩ := c0.c6; have hR7 := hR6.below hw7; have hx7 := hx6.trans (Exc.of hw7); have hb7 := hb6.trans (hw7.mono hb6.size)) | (go_at_call 37; (with_reducible refine (HCM.out _).mono ?_); rintro e w8 ⟨rfl, hw8⟩; have c0 := c0.below hw8 c0.lt; (try clear q0 q1 q2 q3 q4 q5); obtain ⟨q0, q1, q2, q3, q4, q5⟩ := c0.c6; have hR8 := hR7.below hw8; have hx8 := hx7.trans (Exc.of hw8); have hb8 := hb7.trans (hw8.mono hb7.size)))
            all_goals
              go_wp2
              go_meet
              exact ⟨rfl, by rw [HAF.out]; exact hR8, hx8, c0⟩
          · have hst : stepL ⟨xw, xn, xA1, xna, xca, xA2, xnb, xcb, xneg, xs, xal, xbl⟩ ++ R' = fracB (qOf xneg xal xbl) ++ R' := by unfold stepL; simp only []; rw [HR2.out]; rfl
            have haf : afterS ⟨xw, xn, xA1, xna, xca, xA2, xnb, xcb, xneg, xs, xal, xbl⟩ R' = (R', false) := by unfold afterS; simp only []; rw [HR2.out]; simp
            have HAF := Lib.hid haf
            have hRW := HRD.out
            rw [hst] at hRW
            have hfl : (fracB (qOf xneg xal xbl)).length ≤ 210 := by rw [HR2.out] at sL; exact sL
            have hw0 := reader_frac g B' _ wb.drew hRW (by simp only [List.length_append]; omega) HTD.out hTg
            rw [stFrac_back _ _ (by have := nbytes73 HQS.out.1; omega) (by have := nbytes73 HQS.out.2; omega)] at hw0
            have z1 : QS 549755813888 (qOf xneg xal xbl) := HQS.out.mono (by omega)
            have hcm := fun w => frac_cmp (qOf xneg xal xbl) (qOf xneg xal xbl) w z1 z1
            have hc0 : cmpQ (qOf xneg xal xbl) (qOf xneg xal xbl) = 0 := by unfold cmpQ; rw [if_neg Rat.lt_irrefl, if_neg Rat.lt_irrefl]
            rw [hc0] at hcm
            generalize qOf xneg xal xbl = q at *
            have hin := fun w' V (h : IsQ w' w'.heap.size V q) (hb : Below w.heap.size w w') => hand_in q w'.heap.size V w' h (Nat.le_refl _) z1 (HT.out.next hb)
            unfold qV at hw0 hcm hin
            have HW := Lib.hid hw0
            have HCM := Lib.hid hcm
            have HIN := Lib.hid hin
            clear hw0 hcm hin hst haf hRW hfl z1 hc0
            obtain ⟨q0, q1, q2, q3, q4, q5⟩ := bx.c6
            go_wp2_with fail
            go_region_held3 (fun w' => w'.cell? ⟨gb, 0, none⟩ = some (.int .i64 xw) ∧ w'.cell? ⟨gb, 1, none⟩ = some (.int .i64 xn) ∧ w'.cell? ⟨gb, 2, none⟩ = some (.slice xA1 xna xca) ∧ w'.cell? ⟨gb, 3, none⟩ = some (.slice xA2 xnb xcb) ∧ w'.cell? ⟨gb, 4, none⟩ = some (.bool xneg) ∧ w'.cell? ⟨gb, 5, none⟩ = some (.string xs)) (go_keep) (first | (go_at_call 39; (with_reducible refine HW.out.mono ?_); rintro e w5 ⟨rfl, hR5, hx5⟩; have c0 := c0.exc hx5 hgbg; (try clear q0 q1 q2 q3 q4 q5); obtain ⟨q0, q1, q2, q3, q4, q5⟩ := c0.c6; have hx5 := hxd.trans hx5; have hb5 := hB3.trans (hx5.below hB3.size hgw)) | (go_at_call 13; (with_reducible refine (HQ.out _ hb5).mono ?_); rintro e w6 ⟨v6, rfl, hq6, hw6⟩; obtain ⟨g6, A6, l6, c6c, A6', l6', c6c', hv6⟩ := hq6.shape; subst hv6; have c0 := c0.below hw6 c0.lt; (try clear q0 q1 q2 q3 q4 q5); obtain ⟨q0, q1, q2, q3, q4, q5⟩ := c0.c6; have hR6 := hR5.below hw6; have hx6 := hx5.trans (Exc.of hw6); have hb6 := hb5.trans (hw6.mono hb5.size)) | (go_at_call 41; (with_reducible refine (HIN.out _ _ hq6 hb6).mono ?_); rintro e w7 ⟨rfl, hw7⟩; have c0 := c0.below hw7 c0.lt; (try clear q0 q1 q2 q3 q4 q5); obtain ⟨q0, q1, q2, q3, q4, q5⟩ := c0.c6; have hR7 := hR6.below hw7; have hx7 := hx6.trans (Exc.of hw7); have hb7 := hb6.trans (hw7.mono hb6.size)) | (go_at_call 40; (with_reducible refine (HCM.out _).mono ?_); rintro e w8 ⟨rfl, hw8⟩; have c0 := c0.below hw8 c0.lt; (try clear q0 q1 q2 q3 q4 q5); obtain ⟨q0, q1, q2, q3, q4, q5⟩ := c0.c6; have hR8 := hR7.below hw8; have hx8 := hx7.trans (Exc.of hw8); have hb8 := hb7.trans (hw8.mono hb7.size)))
            all_goals
              go_wp2
              go_meet
              exact ⟨rfl, by rw [HAF.out]; exact hR8, hx8, c0⟩
          · have hst : stepL ⟨xw, xn, xA1, xna, xca, xA2, xnb, xcb, xneg, xs, xal, xbl⟩ ++ R' = textB ⟨(xs.data.toList.take 200).toArray⟩ ++ R' := by unfold stepL; simp only []; rw [HR2.out]; rfl
            have haf : afterS ⟨xw, xn, xA1, xna, xca, xA2, xnb, xcb, xneg, xs, xal, xbl⟩ R' = (R', false) := by unfold afterS; simp only []; rw [HR2.out]; simp
            have HAF := Lib.hid haf
            have hs2 : ByteArray.size ⟨(xs.data.toList.take 200).toArray⟩ ≤ 200 := by show (xs.data.toList.take 200).toArray.size ≤ 200; simp; omega
            have hRW := HRD.out
            rw [hst] at hRW
            have HRW := Lib.hid hRW
            have HRB := Lib.hid (hRW.below (below_bytesWorld wb.drew 5 xs))
            have htl : (textB ⟨(xs.data.toList.take 200).toArray⟩).length ≤ 210 := by rw [HR2.out] at sL; exact sL
            have htx : ∀ w', IsR w' g B' (textB ⟨(xs.data.toList.take 200).toArray⟩ ++ R', false) → Calls Tryz.prog 42 #[.pointer (some ⟨g, 0, none⟩), .int .i64 200] w' (Got g B' (.string ⟨(xs.data.toList.take 200).toArray⟩) (R', false) w') := fun w' hh => by
              have := reader_text g B' 200 _ w' hh (by simp only [List.length_append]; omega)
              rw [stText_back 200 _ _ (by omega) (by omega)] at this
              simpa using this
            have HTX := Lib.hid htx
            have HXS : Hid (xs.size ≤ 9223372036854775807) := Lib.hid HOKX.out.hs
            have kc := fun W => Lib.run_convert_string_bytes (P := Tryz.prog) W 9 22 5 xs Tryz.underlying9 Tryz.underlying22 Tryz.underlying5
            have HG2 : Hid (∀ V c, xs.size ≤ c → Calls Tryz.prog 15 #[.slice (some ⟨V.heap.size, 0, none⟩) xs.size c, .int .i64 200] (Lib.bytesWorld V 5 xs) (FewB (xs.data.toList.take 200) (Lib.bytesWorld V 5 xs))) := Lib.hid fun V c hc => fewB_now xs V c HXS.out hc
            have hgs : g < wb.drew.heap.size := by have h1 := bx.lt; show g < wb.heap.size; omega
            have p5 : wb.cell? ⟨gb, 5, none⟩ = some (.string xs) := bx.cell 5
            clear hst haf hRW htx hs2 htl
            go_wp2_with fail
            first | (go_region_with (first | (go_at_call 42; (with_reducible refine (HTX.out _ HRW.out).mono ?_); rintro e w5 ⟨rfl, hR5, hx5⟩; have c0 := c0.exc hx5 hgbg; have p5 : w5.cell? ⟨gb, 5, none⟩ = some (.string xs) := c0.cell 5; have hx5 := hxd.trans hx5) | (go_at_call 42; (with_reducible refine (HTX.out _ HRB.out).mono ?_); rintro e w5 ⟨rfl, hR5, hx5⟩; have HZF : Hid (∀ c, xs.size ≤ c → Calls Tryz.prog 15 #[.slice (some ⟨wb.heap.size, 0, none⟩) xs.size c, .int .i64 200] w5 (FewB (xs.data.toList.take 200) w5)) := Lib.hid (fun c hc => fewB_exc xs wb.drew w5 g c HXS.out hc hx5 hgs); have c0 := (c0.below (below_bytesWorld wb.drew 5 xs) c0.lt).exc hx5 hgbg; have hx5 := (hxd.trans (Exc.of (below_bytesWorld wb.drew 5 xs))).trans hx5) | (go_at_call 15; (with_reducible refine (HG2.out w5 _ (grownCap_ge _ _ _ _)).mono ?_); rintro e w6 ⟨A6, K6, d6, rfl, hr6, hw6⟩; have hs6 := run_string (P := Tryz.prog) w6 22 9 5 A6 K6 d6 _ _ Tryz.underlying22 Tryz.underlying5 Tryz.underlying9 hr6; have hw6 := bthen (below_bytesWorld w5 5 xs) hw6; have c0 := c0.below hw6 c0.lt; have hR6 := hR5.below hw6; have hx6 := hx5.trans (Exc.of hw6)) | (go_at_call 15; (with_reducible refine (HZF.out _ (grownCap_ge _ _ _ _)).mono ?_); rintro e w6 ⟨A6, K6, d6, rfl, hr6, hw6⟩; have hs6 := run_string (P := Tryz.prog) w6 22 9 5 A6 K6 d6 _ _ Tryz.underlying22 Tryz.underlying5 Tryz.underlying9 hr6; have c0 := c0.below hw6 c0.lt; have hR6 := hR5.below hw6; have hx6 := hx5.trans (Exc.of hw6)))) | fail
            all_goals
              go_wp2
              go_meet
              exact ⟨by simp, by rw [HAF.out]; exact hR6, hx6, c0⟩
          · have hst : stepL ⟨xw, xn, xA1, xna, xca, xA2, xnb, xcb, xneg, xs, xal, xbl⟩ ++ R' = boolB xneg ++ R' := by unfold stepL; simp only []; rw [HR2.out]; rfl
            have haf : afterS ⟨xw, xn, xA1, xna, xca, xA2, xnb, xcb, xneg, xs, xal, xbl⟩ R' = (R', false) := by unfold afterS; simp only []; rw [HR2.out]; simp
            have HAF := Lib.hid haf
            have hRW := HRD.out
            rw [hst] at hRW
            have hw0 := reader_bool g B' _ wb.drew hRW
            rw [stBool_back] at hw0
            have HW := Lib.hid hw0
            clear hw0 hst haf hRW
            obtain ⟨q0, q1, q2, q3, q4, q5⟩ := bx.c6
            go_wp2_with fail
            go_region_held3 (fun w' => w'.cell? ⟨gb, 0, none⟩ = some (.int .i64 xw) ∧ w'.cell? ⟨gb, 1, none⟩ = some (.int .i64 xn) ∧ w'.cell? ⟨gb, 2, none⟩ = some (.slice xA1 xna xca) ∧ w'.cell? ⟨gb, 3, none⟩ = some (.slice xA2 xnb xcb) ∧ w'.cell? ⟨gb, 4, none⟩ = some (.bool xneg) ∧ w'.cell? ⟨gb, 5, none⟩ = some (.string xs)) (go_keep) (first | (go_at_call 43; (with_reducible refine HW.out.mono ?_); rintro e w5 ⟨rfl, hR5, hx5⟩; have c0 := c0.exc hx5 hgbg; (try clear q0 q1 q2 q3 q4 q5); obtain ⟨q0, q1, q2, q3, q4, q5⟩ := c0.c6; have hx5 := hxd.trans hx5; have hb5 := hB3.trans (hx5.below hB3.size hgw)) | fail)
            all_goals
              go_wp2
              go_meet
              exact ⟨by simp, by rw [HAF.out]; exact hR5, hx5, c0⟩
        case rest =>
          obtain ⟨rfl, hRc, hxc, bxc⟩ := hcut
          have hBc : Below w.heap.size w wc := hB3.trans (hxc.below hB3.size hgw)
          have hbd := reader_bad g B' _ wc hRc
          by_cases hbig : xw % 5 = 0 ∧ 4611686018427387904 < xn
          · have haf : afterS ⟨xw, xn, xA1, xna, xca, xA2, xnb, xcb, xneg, xs, xal, xbl⟩ R' = stFail := by unfold afterS; simp only []; rw [if_pos hbig]
            rw [haf] at hbd
            have hb1 : stFail.2 = true := rfl
            rw [hb1] at hbd
            have HBD := Lib.hid hbd
            have hr0 : r = 0 := by rw [← HR2.out]; exact hbig.1
            subst hr0
            have g1 : (4611686018427387904 : Int) < xn := hbig.2
            have q0 : wc.cell? ⟨gb, 0, none⟩ = some (.int .i64 xw) := bxc.cell 0
            have q1 : wc.cell? ⟨gb, 1, none⟩ = some (.int .i64 xn) := bxc.cell 1
            clear hbd haf hb1 hbig
            go_wp2_with fail
            refine HBD.out.mono ?_
            rintro e w5 ⟨rfl, rfl⟩
            go_wp2_with fail
            refine (HPK.out wc).mono ?_
            rintro e w5 ⟨rfl, rfl⟩
            go_wp2
            go_ret
            exact ⟨rfl, hBc⟩
          · have haf : afterS ⟨xw, xn, xA1, xna, xca, xA2, xnb, xcb, xneg, xs, xal, xbl⟩ R' = (R', false) := by unfold afterS; simp only []; rw [if_neg hbig]
            rw [haf] at hbd hRc
            have HBD := Lib.hid hbd
            rw [← HRR.out] at hRc
            have HFR := Lib.hid (And.intro hRc hxc)
            clear hbd haf hbig hRc hxc
            go_wp2_with fail
            refine HBD.out.mono ?_
            rintro e w5 ⟨rfl, rfl⟩
            go_wp2
            exact ⟨⟨k + 1, by omega, by go_num, HFR.out.1, HFR.out.2⟩, by simp [intOf]; omega⟩
      · obtain rfl : k = N := by omega
        rw [allB_out] at hRk
        have hlf := reader_left g B' _ wr hRk
        have HLF := Lib.hid hlf
        clear hlf hRk
        have hcase : (¬ (k : Int) < (n : Int)) ∨ ((k : Int) < (n : Int) ∧ ¬ (k : Int) < 30) := by omega
        rcases hcase with k1 | ⟨k1, k2⟩
        all_goals
          go_wp2_with fail
          refine HLF.out.mono ?_
          rintro e w9 ⟨rfl, rfl⟩
          go_wp2
          go_ret
          exact ⟨rfl, hBk⟩
end Go.Proofs.YtjmbpnogicdkgaaGreatDoor
