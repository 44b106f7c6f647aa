/-
  The document's LayWhole, LayFrac, LayText, LayBool.
-/
import Derived.Test.YtjmbpnogicdkgaaGreatDoorLayQ
import Derived.Test.YtjmbpnogicdkgaaGreatDoorRefOctet
import Derived.Test.YtjmbpnogicdkgaaGreatDoorWriter
import Derived.Test.YtjmbpnogicdkgaaGreatDoorAppStr
namespace Go.Proofs.YtjmbpnogicdkgaaGreatDoor
open Go.RowKit
set_option linter.unusedSimpArgs false
set_option linter.unusedVariables false

theorem Grew.pre {w w0 w1 : World} {v v' : Value} (hb : Below w.heap.size w w0) (h : Grew w0 w1 v v') : Grew w w1 v v' :=
  ⟨h.os.trans hb.os, h.tape.trans hb.tape, h.output.trans hb.output, Nat.le_trans hb.size h.size, fun k hk hne => (h.block k (Nat.lt_of_lt_of_le hk hb.size) hne).trans (hb.block k hk), fun k hk => by
    rcases h.own k hk with h1 | h1
    · exact .inl h1
    · exact .inr (Nat.le_trans hb.size h1)⟩
/-- the call returns the bytes l and then m; nothing else that was there has changed -/
def Laid (v : Value) (l m : List UInt8) (w : World) (e : Ending) (w' : World) : Prop := ∃ v', e = .returned v' ∧ Own w' 5 u8v v' (l ++ m) ∧ Grew w w' v v'
/-- a number's limbs are not among the bytes -/
theorem IsN.bytes {w w' : World} {B n : Nat} {v u u' : Value} {l : List UInt8} (h : IsN w B v n) (hB : B ≤ w.heap.size) (ho : Own w 5 u8v u l) (hg : Grew w w' u u') : IsN w' B v n := by
  obtain ⟨A, c, h1, h2, h3, h4, h5⟩ := h
  rcases Nat.eq_zero_or_pos (limbs n).length with h0 | h0
  · exact ⟨A, c, h1, h2, h3, ⟨h4.1, fun hn => absurd hn (by omega)⟩, fun hn => absurd hn (by omega)⟩
  · obtain ⟨ad, hA, hlt, hc⟩ := h4.2 h0
    obtain ⟨cs, fr, hty⟩ := h5 h0 ad hA
    have hne : some ad.block ≠ u.ownBlock := by
      intro e
      rcases ho.2 with ⟨h6, _⟩ | ⟨g, cap, cur, h6, _, h7, _⟩
      · rw [h6] at e
        cases e
      · rw [h6] at e
        have e2 : ad.block = g := by simpa [Value.ownBlock] using e
        rw [e2, h7] at hty
        injection hty with hty
        injection hty with _ ht
        exact absurd ht (by decide)
    have hbk := hg.block ad.block (by omega) hne
    refine ⟨A, c, h1, h2, h3, ⟨h4.1, fun _ => ⟨ad, hA, hlt, fun j x hx => ?_⟩⟩, fun _ ad' hA' => ?_⟩
    · rw [World.cell?_of_block (w := w) (by rw [block_of_add]; exact hbk)]
      exact hc j x hx
    · rw [hA] at hA'
      obtain rfl := Option.some.inj hA'
      exact ⟨cs, fr, hbk.trans hty⟩
set_option maxRecDepth 100000 in
set_option maxHeartbeats 1000000 in
theorem ref_layWhole (v : Value) (l : List UInt8) (z : Int) (B : Nat) (V : Value) (w : World) (ho : Own w 5 u8v v l) (h : IsI w B V z) (hBB : B ≤ w.heap.size) (hz : blen z.natAbs ≤ 1099511627776) (hl : l.length ≤ 1099511627000) :
    Calls Tryz.prog 60 #[v, V] w (Laid v l (wholeB z) w) := by
  obtain ⟨vn, rfl, hn⟩ := h
  obtain ⟨A1, l1, c1, hA1⟩ := hn.form
  subst hA1
  have hnb : nbytes z.natAbs ≤ 137438953472 := by unfold nbytes; omega
  have HV := Lib.hid hn
  have HO := Lib.hid ho
  have hvlt := ho.lt
  obtain ⟨ng, hng⟩ : ∃ ng, decide (z < 0) = ng := ⟨_, rfl⟩
  obtain ⟨N, hN⟩ : ∃ N, nbytes z.natAbs = N := ⟨_, rfl⟩
  obtain ⟨M, hM⟩ : ∃ M, 2 * N + (if z < 0 then 1 else 0) = M := ⟨_, rfl⟩
  have hM2 : (ng = true ∧ 2 * (N : Int) + 1 = (M : Int)) ∨ (ng = false ∧ 2 * (N : Int) = (M : Int)) := by
    rw [← hng]
    by_cases hneg : z < 0
    · rw [if_pos hneg] at hM
      exact .inl ⟨decide_eq_true hneg, by omega⟩
    · rw [if_neg hneg] at hM
      exact .inr ⟨decide_eq_false hneg, by omega⟩
  have hW : wholeB z = countB M ++ natB z.natAbs := by unfold wholeB; rw [hN, hM]
  rw [hN] at hnb
  have hMle : M ≤ 274877906945 := by rcases hM2 with h | h <;> omega
  have hcl : (countB M).length ≤ 10 := countF_len 9 M
  have hnl := natB_len z.natAbs
  rw [hN] at hnl
  have HNL := Lib.hid hnl
  have HW := Lib.hid hW
  rw [hng]
  clear hn ho hng hN hM hW hnl
  have b0 := Blk.new w  34 #[.bool ng, .slice A1 l1 c1]; have hB := balloc1 w (.cells #[.bool ng, .slice A1 l1 c1] 34); have hZ := Lib.hid (show (w.alloc (.cells #[.bool ng, .slice A1 l1 c1] 34)).heap.size = w.heap.size + 1 from by simp)
  have b0f : Blk _ _ _ _ := b0
  go_enter Tryz.func60, Tryz.ntmps60
  go_wp2_with fail
  generalize (w.alloc (.cells #[.bool ng, .slice A1 l1 c1] 34)) = W at *
  refine (ref_bytes z.natAbs B (.slice A1 l1 c1) W (HV.out.next hBB hB) (Nat.le_trans hBB hB.size) hz).mono ?_
  rintro e w2 ⟨v2, rfl, ho2, hw2, hf2⟩
  obtain ⟨A2, c2, hv2, hc3, hc4⟩ := ho2.form
  rw [HNL.out] at hv2 hc3
  rw [hv2] at ho2 hf2
  rw [hv2]
  have hB2 := bthen hB hw2
  have ho3 := HO.out.below hB2 hvlt
  (try clear b0q0 b0q1); have b0 := b0.below hw2 b0.lt; obtain ⟨b0q0, b0q1⟩ := b0.c2
  have hz2 := hB.size
  clear hv2 hw2 hB b0f HV HO
  rcases hM2 with ⟨rfl, hM2⟩ | ⟨rfl, hM2⟩
  all_goals
    go_wp2_with fail
    refine (ref_count v l (M : Int) M (by simp) w2 ho3 (by omega) (by omega)).mono ?_
    rintro e w4 ⟨v4, rfl, ho4, hg4⟩
    have hm4 := ho2.kept hg4 (fun k hk e => by have := hvlt k e; have := hf2 k hk; omega)
    have hrd := Own.reads hm4
    rw [HNL.out] at hrd
    have hll : (l ++ countB M).length ≤ 1099511627010 := by rw [List.length_append]; omega
    generalize hL4 : l ++ countB M = l4 at ho4 hll
    have HL4 := Lib.hid hL4
    clear hL4
    obtain ⟨A4, c4', hv4, _, _⟩ := ho4.form
    rw [hv4] at ho4 hg4
    rw [hv4]
    clear hv4 hM2 ho3
    go_wp2_with (at_builtin; refine appN Tryz.eltU8 rfl (.tmp 19) (.tmp 20) rfl w4 _ l4 _ A2 N c2 (natB z.natAbs) rfl ho4 rfl hrd u8v_one ?_ ?_ ?_)
    · unfold maxLen; omega
    · omega
    intro v5 w5 ho5 hg5
    go_wp2
    go_ret
    refine ⟨_, rfl, ?_, Grew.pre hB2 (hg4.trans hg5)⟩
    rw [HW.out, ← List.append_assoc, HL4.out]
    exact ho5
/-- a fraction's bytes, a text's, a bool's -/
def fracB (q : Rat) : List UInt8 := wholeB q.num ++ (countB (nbytes q.den) ++ natB q.den)
def textB (s : ByteArray) : List UInt8 := countB s.size ++ s.data.toList
def boolB (b : Bool) : List UInt8 := [if b then 1 else 0]
set_option maxRecDepth 100000 in
set_option maxHeartbeats 400000 in
theorem ref_layText (v : Value) (l : List UInt8) (s : ByteArray) (w : World) (ho : Own w 5 u8v v l) (hs : s.size ≤ 1099511627776) (hl : l.length ≤ 1099511627000) : Calls Tryz.prog 64 #[v, .string s] w (Laid v l (textB s) w) := by
  have hcl : (countB s.size).length ≤ 10 := countF_len 9 s.size
  go_enter Tryz.func64, Tryz.ntmps64
  go_wp2_with fail
  refine (ref_count v l (s.size : Int) s.size (by simp) w ho (by omega) (by omega)).mono ?_
  rintro e w1 ⟨v1, rfl, ho1, hg1⟩
  have hll : (l ++ countB s.size).length + s.size ≤ 140737488355328 := by rw [List.length_append]; omega
  generalize hL4 : l ++ countB s.size = l4 at ho1 hll
  have HL4 := Lib.hid hL4
  clear hL4
  go_wp2_with (at_builtin; refine appS Tryz.eltU8 Tryz.underlying9 rfl (.tmp 8) (.tmp 9) rfl w1 _ l4 s rfl ho1 rfl hll ?_)
  intro v5 w5 ho5 hg5
  go_wp2
  go_ret
  refine ⟨_, rfl, ?_, hg1.trans hg5⟩
  unfold textB
  rw [← List.append_assoc, HL4.out]
  exact ho5
set_option maxRecDepth 100000 in
theorem ref_layBool (v : Value) (l : List UInt8) (b : Bool) (w : World) (ho : Own w 5 u8v v l) (hl : l.length ≤ 1099511627000) : Calls Tryz.prog 66 #[v, .bool b] w (Laid v l (boolB b) w) := by
  have e1 : l.length + 1 ≤ maxLen := by unfold maxLen; omega
  have e2 : (l.length + 1) * 1 ≤ 140737488355328 := by omega
  cases b
  · go_enter Tryz.func66, Tryz.ntmps66
    go_wp2_with (at_builtin; refine app1 Tryz.eltU8 rfl (.tmp 9) (.tmp 10) rfl w _ l 0 _ rfl rfl ho rfl rfl e1 e2 ?_)
    intro v5 w5 ho5 hg5
    go_wp2
    go_ret
    exact ⟨_, rfl, ho5, hg5⟩
  · go_enter Tryz.func66, Tryz.ntmps66
    go_wp2_with (at_builtin; refine app1 Tryz.eltU8 rfl (.tmp 6) (.tmp 7) rfl w _ l 1 _ rfl rfl ho rfl rfl e1 e2 ?_)
    intro v5 w5 ho5 hg5
    go_wp2
    go_ret
    exact ⟨_, rfl, ho5, hg5⟩
set_option maxRecDepth 100000 in
set_option maxHeartbeats 1000000 in
theorem ref_layFrac (v : Value) (l : List UInt8) (q : Rat) (B : Nat) (V : Value) (w : World) (ho : Own w 5 u8v v l) (h : IsQ w B V q) (hBB : B ≤ w.heap.size) (hq : QS 1099511627776 q) (hl : l.length ≤ 549755813888) :
    Calls Tryz.prog 62 #[v, V] w (Laid v l (fracB q) w) := by
  obtain ⟨vn, vd, rfl, hn, hd⟩ := h
  obtain ⟨A1, l1, c1, hA1⟩ := hn.form
  obtain ⟨A2, l2, c2, hA2⟩ := hd.form
  subst hA1
  subst hA2
  have hvlt := ho.lt
  have hnb : nbytes q.den ≤ 137438953472 := by unfold nbytes; have := hq.2; omega
  have hnb2 : nbytes q.num.natAbs ≤ 137438953472 := by unfold nbytes; have := hq.1; omega
  have hwl : (wholeB q.num).length ≤ 137438953482 := by
    unfold wholeB
    rw [List.length_append, natB_len]
    have := countF_len 9 (2 * nbytes q.num.natAbs + (if q.num < 0 then 1 else 0))
    unfold countB
    omega
  obtain ⟨N, hN⟩ : ∃ N, nbytes q.den = N := ⟨_, rfl⟩
  have hcl : (countB N).length ≤ 10 := countF_len 9 N
  have hF : fracB q = wholeB q.num ++ (countB N ++ natB q.den) := by unfold fracB; rw [hN]
  have hnl := natB_len q.den
  rw [hN] at hnl hnb
  have HNL := Lib.hid hnl
  have HF := Lib.hid hF
  have HN := Lib.hid hn
  have HD := Lib.hid hd
  have HO := Lib.hid ho
  have HQ := Lib.hid hq
  clear hn hd ho hq hN hF hnl
  have b0 := Blk.new w  36 #[.bool (decide (q.num < 0)), .slice A1 l1 c1, .slice A2 l2 c2]; have hB := balloc1 w (.cells #[.bool (decide (q.num < 0)), .slice A1 l1 c1, .slice A2 l2 c2] 36); have hZ := Lib.hid (show (w.alloc (.cells #[.bool (decide (q.num < 0)), .slice A1 l1 c1, .slice A2 l2 c2] 36)).heap.size = w.heap.size + 1 from by simp)
  go_enter Tryz.func62, Tryz.ntmps62
  go_wp2_with fail
  generalize (w.alloc (.cells #[.bool (decide (q.num < 0)), .slice A1 l1 c1, .slice A2 l2 c2] 36)) = W at *
  have hBW : B ≤ W.heap.size := Nat.le_trans hBB hB.size
  have hoW := HO.out.below hB hvlt
  refine (ref_layWhole v l q.num B _ W hoW ⟨_, rfl, HN.out.next hBB hB⟩ hBW HQ.out.1 (by omega)).mono ?_
  rintro e w1 ⟨v1, rfl, ho1, hg1⟩
  have b0 := (hg1.block w.heap.size b0.lt (fun e => by have := hvlt _ e.symm; omega)).trans b0
  have b0 : Blk w1 w.heap.size 36 #[.bool (decide (q.num < 0)), .slice A1 l1 c1, .slice A2 l2 c2] := b0
  have hd1 := (HD.out.next hBB hB).bytes hBW hoW hg1
  have hB1z : B ≤ w1.heap.size := Nat.le_trans hBW hg1.size
  have hl1 : (l ++ wholeB q.num).length ≤ 1099511627000 := by rw [List.length_append]; omega
  generalize hL1 : l ++ wholeB q.num = m1 at ho1 hl1
  have HL1 := Lib.hid hL1
  clear hL1 HN HD HO hoW hBW
  obtain ⟨b0q0, b0q1, b0q2⟩ := b0.c3
  go_wp2_with fail
  refine (ref_bytes q.den B (.slice A2 l2 c2) w1 hd1 hB1z HQ.out.2).mono ?_
  rintro e w2 ⟨v2, rfl, ho2, hw2, hf2⟩
  obtain ⟨A3, c3, hv2, hc3, hc4⟩ := ho2.form
  rw [HNL.out] at hv2 hc3
  rw [hv2] at ho2 hf2
  rw [hv2]
  have hlt1 := ho1.lt
  have ho1 := ho1.below hw2 hlt1
  clear hv2 b0q0 b0q1 b0q2 b0 hd1
  go_wp2_with fail
  refine (ref_count v1 m1 (N : Int) N (by simp) w2 ho1 (by omega) (by omega)).mono ?_
  rintro e w4 ⟨v4, rfl, ho4, hg4⟩
  have hm4 := ho2.kept hg4 (fun k hk e => by have := hlt1 k e; have := hf2 k hk; omega)
  have hrd := Own.reads hm4
  rw [HNL.out] at hrd
  have hll : (m1 ++ countB N).length ≤ 1099511627010 := by rw [List.length_append]; omega
  generalize hL4 : m1 ++ countB N = l4 at ho4 hll
  have HL4 := Lib.hid hL4
  clear hL4
  go_wp2_with (at_builtin; refine appN Tryz.eltU8 rfl (.tmp 16) (.tmp 17) rfl w4 _ l4 _ A3 N c3 (natB q.den) rfl ho4 rfl hrd u8v_one ?_ ?_ ?_)
  · unfold maxLen; omega
  · omega
  intro v5 w5 ho5 hg5
  go_wp2
  go_ret
  refine ⟨_, rfl, ?_, Grew.pre hB (((hg1.thenBelow hw2).trans hg4).trans hg5)⟩
  rw [HF.out, ← List.append_assoc, HL1.out, ← List.append_assoc, HL4.out]
  exact ho5
end Go.Proofs.YtjmbpnogicdkgaaGreatDoor
