/-
  abaculuslaw4.lay: one call by the program and by the document.
-/
import Derived.Test.YtjmbpnogicdkgaaGreatDoorWriterB
namespace Go.Proofs.YtjmbpnogicdkgaaGreatDoor
open Go.RowKit
set_option linter.unusedSimpArgs false
set_option linter.unusedVariables false

/-- what one step lays -/
def stepB (what : Nat) (n : Int) (al bl : List UInt8) (neg : Bool) (s : ByteArray) : List UInt8 :=
  if what = 0 then countB n.toNat else if what = 1 then wholeB (qOf neg al bl).num else if what = 2 then fracB (qOf neg al bl) else if what = 3 then textB ⟨(s.data.toList.take 200).toArray⟩ else boolB neg
/-- the writer at block b (its row v, its bytes l) and the bytes u of the caller (lu), apart from each other and from all that lies below B -/
structure Pair (w : World) (B b : Nat) (v u : Value) (l lu : List UInt8) : Prop where
  isw : IsW w b v l
  own : Own w 5 u8v u lu
  low : B ≤ w.heap.size
  lb : B ≤ b
  lv : ∀ k, v.ownBlock = some k → B ≤ k
  lu : ∀ k, u.ownBlock = some k → B ≤ k
  ub : u.ownBlock ≠ some b
  uv : ∀ k, u.ownBlock = some k → v.ownBlock ≠ some k
/-- the writer's block and row, the caller's row, and nothing else that was there, have changed -/
def LFrame (w w' : World) (b : Nat) (v u : Value) : Prop := ∀ k, k < w.heap.size → k ≠ b → some k ≠ v.ownBlock → some k ≠ u.ownBlock → w'.heap[k]? = w.heap[k]?
/-- both have got the bytes m; nothing below B has changed -/
def Both (B b : Nat) (v u : Value) (l lu m : List UInt8) (w : World) (e : Ending) (w' : World) : Prop := ∃ v' u', e = .returned u' ∧ Pair w' B b v' u' (l ++ m) (lu ++ m) ∧ Below B w w' ∧ LFrame w w' b v u
theorem Pair.below {w w' : World} {B b : Nat} {v u : Value} {l lu : List UInt8} (h : Pair w B b v u l lu) (hb : Below w.heap.size w w') : Pair w' B b v u l lu :=
  ⟨h.isw.below hb, h.own.below hb h.own.lt, Nat.le_trans h.low hb.size, h.lb, h.lv, h.lu, h.ub, h.uv⟩
/-- first the writer, then the bytes -/
theorem Pair.both {w w1 w2 w3 w4 : World} {B b : Nat} {v u v' u' : Value} {l lu m : List UInt8} (h : Pair w B b v u l lu) (h0 : Below w.heap.size w w1) (hi : IsW w2 b v' (l ++ m)) (hg : WGrew w1 w2 b v v') (h2 : Below w2.heap.size w2 w3)
    (ho : Own w4 5 u8v u' (lu ++ m)) (hu : Grew w3 w4 u u') : Pair w4 B b v' u' (l ++ m) (lu ++ m) ∧ Below B w w4 ∧ LFrame w w4 b v u := by
  have p1 := h.below h0
  have e2 : Below B w1 w2 := hg.below p1.low p1.lb p1.lv
  have f2 := hg.fresh p1.low p1.lv
  have hult := p1.own.lt
  have hblt := p1.isw.1.lt
  have l2 := Nat.le_trans p1.low e2.size
  have e3 : Below B w1 w3 := e2.trans (h2.mono l2)
  have l3 := Nat.le_trans p1.low e3.size
  have hz01 := h0.size
  have hz12 := hg.size
  have hz23 := h2.size
  have hvlt := hi.2.lt
  have e4 : Below B w3 w4 := hu.below l3 p1.lu
  have hi3 := hi.below h2
  have hvk : ∀ k, v'.ownBlock = some k → u.ownBlock ≠ some k := fun k hk e => by
    rcases hg.own k hk with h1 | h1
    · exact h.uv k e h1
    · have := hult k e
      omega
  refine ⟨⟨⟨(hu.block b (by omega) (fun e => h.ub e.symm)).trans hi3.1, hi3.2.kept hu hvk⟩, ho, Nat.le_trans l3 e4.size, h.lb, f2, hu.fresh l3 p1.lu, fun e => ?_, fun k hk e => ?_⟩, ((h0.mono h.low).trans e3).trans e4, fun k hk h1 h2' h3 => ?_⟩
  · rcases hu.own b e with h1 | h1
    · exact h.ub h1
    · omega
  · rcases hu.own k hk with h1 | h1
    · exact hvk k e h1
    · have := hvlt k e
      omega
  · exact (hu.block k (by omega) h3).trans ((h2.block k (by omega)).trans ((hg.block k (by omega) h1 h2').trans (h0.block k hk)))
theorem Blk.c6 {w : World} {g : Nat} {t : TypeId} {a b c d e f : Value} (h : Blk w g t #[a, b, c, d, e, f]) : w.cell? ⟨g, 0, none⟩ = some a ∧ w.cell? ⟨g, 1, none⟩ = some b ∧ w.cell? ⟨g, 2, none⟩ = some c ∧ w.cell? ⟨g, 3, none⟩ = some d ∧ w.cell? ⟨g, 4, none⟩ = some e ∧ w.cell? ⟨g, 5, none⟩ = some f := ⟨h.cell 0, h.cell 1, h.cell 2, h.cell 3, h.cell 4, h.cell 5⟩
theorem qOf_size (neg : Bool) (al bl : List UInt8) : QS 73 (qOf neg al bl) := by
  unfold qOf
  obtain ⟨p1, p2, _⟩ := make_parts (signed neg (beVal (al.take 9))) (qDen bl) (by have := qDen_ne bl; omega)
  have h1 := beVal9 al
  have h2 := qDen_lt bl
  constructor
  · rw [p2]
    refine Nat.le_trans (blen_div _ _) (blen_le _ 73 ?_)
    rw [signed_abs]
    have e : (2 : Nat) ^ 73 = 9444732965739290427392 := by decide
    rw [e]
    omega
  · rw [p1]
    refine Nat.le_trans (blen_div _ _) (blen_le _ 73 ?_)
    rw [Int.natAbs_natCast]
    have e : (2 : Nat) ^ 73 = 9444732965739290427392 := by decide
    rw [e]
    omega
set_option maxRecDepth 100000 in
set_option maxHeartbeats 1000000 in
theorem lay_count (what n : Int) (A1 A2 : Option Addr) (na ca nb cb B b : Nat) (neg : Bool) (s : ByteArray) (v u : Value) (l lu : List UInt8) (w : World) (hp : Pair w B b v u l lu) (hw0 : -9223372036854775808 ≤ what) (hw1 : what ≤ 9223372036854775807) (hn : n ≤ 9223372036854775807) (hl : l.length ≤ 549755813888) (hlu : lu.length ≤ 549755813888) (hk : what % 5 = 0) :
    Calls Tryz.prog 10 #[.pointer (some ⟨b, 0, none⟩), u, .agg #[.int .i64 what, .int .i64 n, .slice A1 na ca, .slice A2 nb cb, .bool neg, .string s]] w (Both B b v u l lu (countB n.toNat) w) := by
  have hpk := fun w => hand_pick what 5 w hw0 hw1 (by omega) (by omega)
  have e5 : what % ((5 : Nat) : Int) = 0 := hk
  rw [e5] at hpk
  have HPK := Lib.hid hpk
  have HP := Lib.hid hp
  clear hpk e5 hp hk
  have b0 := Blk.new w 24 #[.int .i64 what, .int .i64 n, .slice A1 na ca, .slice A2 nb cb, .bool neg, .string s]
  have hB := balloc1 w (.cells #[.int .i64 what, .int .i64 n, .slice A1 na ca, .slice A2 nb cb, .bool neg, .string s] 24)
  go_enter Tryz.func10, Tryz.ntmps10
  go_wp2_with fail
  generalize w.alloc (.cells #[.int .i64 what, .int .i64 n, .slice A1 na ca, .slice A2 nb cb, .bool neg, .string s] 24) = W at *
  refine (HPK.out W).mono ?_
  rintro e w1 ⟨rfl, rfl⟩
  have hP := HP.out
  have hblt := hP.isw.1.lt
  have hvlt := hP.isw.2.lt
  have hult := hP.own.lt
  have hzW := b0.lt
  have q1 : W.cell? ⟨w.heap.size, 1, none⟩ = some (.int .i64 n) := b0.cell 1
  clear HPK
  go_wp2_with fail
  refine (writer_count b v l n W (hP.isw.below hB) hn (by omega)).mono ?_
  rintro e w2 ⟨v2, rfl, hi2, hg2⟩
  have b0 := b0.wkept hg2 (by omega) (fun e => by have := hvlt _ e; omega)
  have ho2 := (hP.own.below hB hult).wkept hg2 (fun k hk => ⟨fun e => hP.ub (by rw [← e]; exact hk), hP.uv k hk⟩)
  clear q1
  have q1 : w2.cell? ⟨w.heap.size, 1, none⟩ = some (.int .i64 n) := b0.cell 1
  go_wp2_with fail
  refine (ref_count u lu n n.toNat rfl w2 ho2 (by omega) (by omega)).mono ?_
  rintro e w3 ⟨u3, rfl, ho3, hg3⟩
  have HFIN := Lib.hid (hP.both hB hi2 hg2 (Below.refl _ _) ho3 hg3)
  clear hP
  go_wp2
  go_ret
  exact ⟨_, _, rfl, HFIN.out.1, HFIN.out.2⟩
set_option maxRecDepth 100000 in
set_option maxHeartbeats 1000000 in
theorem lay_bool (what n : Int) (A1 A2 : Option Addr) (na ca nb cb B b : Nat) (neg : Bool) (s : ByteArray) (v u : Value) (l lu : List UInt8) (w : World) (hp : Pair w B b v u l lu) (hw0 : -9223372036854775808 ≤ what) (hw1 : what ≤ 9223372036854775807) (hn : n ≤ 9223372036854775807) (hl : l.length ≤ 549755813888) (hlu : lu.length ≤ 549755813888) (hk : what % 5 = 4) :
    Calls Tryz.prog 10 #[.pointer (some ⟨b, 0, none⟩), u, .agg #[.int .i64 what, .int .i64 n, .slice A1 na ca, .slice A2 nb cb, .bool neg, .string s]] w (Both B b v u l lu (boolB neg) w) := by
  have hpk := fun w => hand_pick what 5 w hw0 hw1 (by omega) (by omega)
  have e5 : what % ((5 : Nat) : Int) = 4 := hk
  rw [e5] at hpk
  have HPK := Lib.hid hpk
  have HP := Lib.hid hp
  clear hpk e5 hp hk
  have b0 := Blk.new w 24 #[.int .i64 what, .int .i64 n, .slice A1 na ca, .slice A2 nb cb, .bool neg, .string s]
  have hB := balloc1 w (.cells #[.int .i64 what, .int .i64 n, .slice A1 na ca, .slice A2 nb cb, .bool neg, .string s] 24)
  go_enter Tryz.func10, Tryz.ntmps10
  go_wp2_with fail
  generalize w.alloc (.cells #[.int .i64 what, .int .i64 n, .slice A1 na ca, .slice A2 nb cb, .bool neg, .string s] 24) = W at *
  refine (HPK.out W).mono ?_
  rintro e w1 ⟨rfl, rfl⟩
  have hP := HP.out
  have hblt := hP.isw.1.lt
  have hvlt := hP.isw.2.lt
  have hult := hP.own.lt
  have hzW := b0.lt
  have q1 : W.cell? ⟨w.heap.size, 4, none⟩ = some (.bool neg) := b0.cell 4
  clear HPK
  go_wp2_with fail
  refine (writer_bool b v l neg W (hP.isw.below hB) (by omega)).mono ?_
  rintro e w2 ⟨v2, rfl, hi2, hg2⟩
  have b0 := b0.wkept hg2 (by omega) (fun e => by have := hvlt _ e; omega)
  have ho2 := (hP.own.below hB hult).wkept hg2 (fun k hk => ⟨fun e => hP.ub (by rw [← e]; exact hk), hP.uv k hk⟩)
  clear q1
  have q1 : w2.cell? ⟨w.heap.size, 4, none⟩ = some (.bool neg) := b0.cell 4
  go_wp2_with fail
  refine (ref_layBool u lu neg w2 ho2 (by omega)).mono ?_
  rintro e w3 ⟨u3, rfl, ho3, hg3⟩
  have HFIN := Lib.hid (hP.both hB hi2 hg2 (Below.refl _ _) ho3 hg3)
  clear hP
  go_wp2
  go_ret
  exact ⟨_, _, rfl, HFIN.out.1, HFIN.out.2⟩
set_option maxRecDepth 100000 in
set_option maxHeartbeats 1000000 in
theorem lay_whole (what n : Int) (A1 A2 : Option Addr) (na ca nb cb B b : Nat) (neg : Bool) (s : ByteArray) (v u : Value) (l lu : List UInt8) (w : World) (hp : Pair w B b v u l lu) (al bl : List UInt8) (ha : Bytes w B A1 na al) (hb : Bytes w B A2 nb bl) (hna : na ≤ 9223372036854775807) (hnb : nb ≤ 9223372036854775807) (hca : na ≤ ca) (hcb : nb ≤ cb) (hw0 : -9223372036854775808 ≤ what) (hw1 : what ≤ 9223372036854775807) (hn : n ≤ 9223372036854775807) (hl : l.length ≤ 549755813888) (hlu : lu.length ≤ 549755813888) (hk : what % 5 = 1) :
    Calls Tryz.prog 10 #[.pointer (some ⟨b, 0, none⟩), u, .agg #[.int .i64 what, .int .i64 n, .slice A1 na ca, .slice A2 nb cb, .bool neg, .string s]] w (Both B b v u l lu (wholeB (qOf neg al bl).num) w) := by
  have hpk := fun w => hand_pick what 5 w hw0 hw1 (by omega) (by omega)
  have e5 : what % ((5 : Nat) : Int) = 1 := hk
  rw [e5] at hpk
  have HPK := Lib.hid hpk
  have HP := Lib.hid hp
  clear hpk e5 hp hk
  have b0 := Blk.new w 24 #[.int .i64 what, .int .i64 n, .slice A1 na ca, .slice A2 nb cb, .bool neg, .string s]
  have hB := balloc1 w (.cells #[.int .i64 what, .int .i64 n, .slice A1 na ca, .slice A2 nb cb, .bool neg, .string s] 24)
  have hfl : ∀ (x y z : Value) w, (Instr.field 36 (.agg #[x, y, z]) 0).run Tryz.prog w = .ok (.agg #[x, y]) w := fun x y z w => by kernel_rfl
  go_enter Tryz.func10, Tryz.ntmps10
  go_wp2_with fail
  generalize w.alloc (.cells #[.int .i64 what, .int .i64 n, .slice A1 na ca, .slice A2 nb cb, .bool neg, .string s] 24) = W at *
  refine (HPK.out W).mono ?_
  rintro e w1 ⟨rfl, rfl⟩
  have hP := HP.out
  have hblt := hP.isw.1.lt
  have hvlt := hP.isw.2.lt
  have hult := hP.own.lt
  have hzW := b0.lt
  have hlow := hP.low
  have haW := Reads.below ha (hB.mono hlow)
  have hbW := Reads.below hb (hB.mono hlow)
  have hqW := law_q what n A1 A2 na ca nb cb B neg s al bl W haW hbW (Nat.le_trans hlow hB.size) hna hnb hca hcb
  have hqs := qOf_size neg al bl
  obtain ⟨q, hqq⟩ : ∃ q, qOf neg al bl = q := ⟨_, rfl⟩
  rw [hqq] at hqW hqs ⊢
  have HQQ := Lib.hid hqq
  clear hqq
  have HQW := Lib.hid hqW
  have HAB := Lib.hid (And.intro haW hbW)
  clear HPK hqW haW hbW ha hb
  obtain ⟨q0, q1, q2, q3, q4, q5⟩ := b0.c6
  go_wp2_with fail
  refine HQW.out.mono ?_
  rintro e w2 ⟨V2, rfl, hq2, hw2⟩
  obtain ⟨vn, vd, rfl, hn2, hd2⟩ := hq2
  obtain ⟨An, ln, cn, hAn⟩ := hn2.form
  obtain ⟨Ad, ld, cd, hAd⟩ := hd2.form
  subst hAn
  subst hAd
  have hB2 := bthen hB hw2
  have b0 := b0.below hw2 hzW
  have HS := Lib.hid hqs
  clear q0 q1 q2 q3 q4 q5 hqs
  go_wp2_with fail
  refine (hand_int q.num w2.heap.size _ w2 ⟨_, rfl, hn2⟩ (Nat.le_refl _) (by have := HS.out.1; omega)).mono ?_
  rintro e w3 ⟨rfl, hw3⟩
  clear hn2 hd2
  have hB3 := bthen hB2 hw3
  have b0 := b0.below hw3 b0.lt
  go_wp2_with fail
  refine (writer_whole b v l q.num w3 (hP.isw.below hB3) (by have := HS.out.1; omega) (by omega)).mono ?_
  rintro e w4 ⟨v4, rfl, hi4, hg4⟩
  have hz3 := hB3.size
  have b0 := b0.wkept hg4 (by omega) (fun e => by have := hvlt _ e; omega)
  have ho4 := (hP.own.below hB3 hult).wkept hg4 (fun k hk => ⟨fun e => hP.ub (by rw [← e]; exact hk), hP.uv k hk⟩)
  have e34 := hg4.below (Nat.le_trans hlow hz3) hP.lb hP.lv
  have hz34 := e34.size
  have e04 : Below B W w4 := (((bthen hw2 hw3).mono (Nat.le_trans hlow hB.size))).trans e34
  have hq4 := law_q what n A1 A2 na ca nb cb B neg s al bl w4 (Reads.below HAB.out.1 e04) (Reads.below HAB.out.2 e04) (Nat.le_trans (Nat.le_trans hlow hB.size) e04.size) hna hnb hca hcb
  rw [HQQ.out] at hq4
  have HQ4 := Lib.hid hq4
  have HX := Lib.hid (And.intro e34 e04)
  clear hq4 e34 e04 hz34
  obtain ⟨q0, q1, q2, q3, q4, q5⟩ := b0.c6
  have hu4 := ho4.lt
  go_wp2_with fail
  refine HQ4.out.mono ?_
  rintro e w5 ⟨V5, rfl, hq5, hw5⟩
  obtain ⟨vn5, vd5, rfl, hn5, hd5⟩ := hq5
  obtain ⟨An5, ln5, cn5, hAn5⟩ := hn5.form
  obtain ⟨Ad5, ld5, cd5, hAd5⟩ := hd5.form
  subst hAn5
  subst hAd5
  have ho5 := ho4.below hw5 hu4
  clear q0 q1 q2 q3 q4 q5
  go_wp2_with fail
  refine (ref_layWhole u lu q.num w5.heap.size _ w5 ho5 ⟨_, rfl, hn5⟩ (Nat.le_refl _) (by have := HS.out.1; omega) (by omega)).mono ?_
  rintro e w6 ⟨u6, rfl, ho6, hg6⟩
  have HFIN := Lib.hid (hP.both hB3 hi4 hg4 hw5 ho6 hg6)
  clear hP
  go_wp2
  go_ret
  refine ⟨v4, u6, rfl, ?_, HFIN.out.2⟩
  rw [HQQ.out]
  exact HFIN.out.1
set_option maxRecDepth 100000 in
set_option maxHeartbeats 1000000 in
theorem lay_frac (what n : Int) (A1 A2 : Option Addr) (na ca nb cb B b : Nat) (neg : Bool) (s : ByteArray) (v u : Value) (l lu : List UInt8) (w : World) (hp : Pair w B b v u l lu) (al bl : List UInt8) (ha : Bytes w B A1 na al) (hb : Bytes w B A2 nb bl) (hna : na ≤ 9223372036854775807) (hnb : nb ≤ 9223372036854775807) (hca : na ≤ ca) (hcb : nb ≤ cb) (hw0 : -9223372036854775808 ≤ what) (hw1 : what ≤ 9223372036854775807) (hn : n ≤ 9223372036854775807) (hl : l.length ≤ 549755813888) (hlu : lu.length ≤ 549755813888) (hT : Tab w) (hk : what % 5 = 2) :
    Calls Tryz.prog 10 #[.pointer (some ⟨b, 0, none⟩), u, .agg #[.int .i64 what, .int .i64 n, .slice A1 na ca, .slice A2 nb cb, .bool neg, .string s]] w (Both B b v u l lu (fracB (qOf neg al bl)) w) := by
  have hpk := fun w => hand_pick what 5 w hw0 hw1 (by omega) (by omega)
  have e5 : what % ((5 : Nat) : Int) = 2 := hk
  rw [e5] at hpk
  have HPK := Lib.hid hpk
  have HP := Lib.hid hp
  clear hpk e5 hp hk
  have b0 := Blk.new w 24 #[.int .i64 what, .int .i64 n, .slice A1 na ca, .slice A2 nb cb, .bool neg, .string s]
  have hB := balloc1 w (.cells #[.int .i64 what, .int .i64 n, .slice A1 na ca, .slice A2 nb cb, .bool neg, .string s] 24)
  go_enter Tryz.func10, Tryz.ntmps10
  go_wp2_with fail
  generalize w.alloc (.cells #[.int .i64 what, .int .i64 n, .slice A1 na ca, .slice A2 nb cb, .bool neg, .string s] 24) = W at *
  refine (HPK.out W).mono ?_
  rintro e w1 ⟨rfl, rfl⟩
  have hP := HP.out
  have hblt := hP.isw.1.lt
  have hvlt := hP.isw.2.lt
  have hult := hP.own.lt
  have hzW := b0.lt
  have hlow := hP.low
  have haW := Reads.below ha (hB.mono hlow)
  have hbW := Reads.below hb (hB.mono hlow)
  have hqW := law_q what n A1 A2 na ca nb cb B neg s al bl W haW hbW (Nat.le_trans hlow hB.size) hna hnb hca hcb
  have hqs := qOf_size neg al bl
  obtain ⟨q, hqq⟩ : ∃ q, qOf neg al bl = q := ⟨_, rfl⟩
  rw [hqq] at hqW hqs ⊢
  have HQQ := Lib.hid hqq
  clear hqq
  have HQW := Lib.hid hqW
  have HAB := Lib.hid (And.intro haW hbW)
  clear HPK hqW haW hbW ha hb
  obtain ⟨q0, q1, q2, q3, q4, q5⟩ := b0.c6
  go_wp2_with fail
  refine HQW.out.mono ?_
  rintro e w2 ⟨V2, rfl, hq2, hw2⟩
  have hv2 := hq2
  obtain ⟨vn, vd, rfl, hn2, hd2⟩ := hv2
  obtain ⟨An, ln, cn, hAn⟩ := hn2.form
  obtain ⟨Ad, ld, cd, hAd⟩ := hd2.form
  subst hAn
  subst hAd
  have hB2 := bthen hB hw2
  have b0 := b0.below hw2 hzW
  have HS := Lib.hid hqs
  clear q0 q1 q2 q3 q4 q5 hqs
  go_wp2_with fail
  refine (hand_in q w2.heap.size _ w2 hq2 (Nat.le_refl _) (HS.out.mono (by omega)) (hT.next hB2)).mono ?_
  rintro e w3 ⟨rfl, hw3⟩
  clear hn2 hd2 hq2
  have hB3 := bthen hB2 hw3
  have b0 := b0.below hw3 b0.lt
  go_wp2_with fail
  refine (writer_frac b v l q w3 (hP.isw.below hB3) (HS.out.mono (by omega)) (by omega)).mono ?_
  rintro e w4 ⟨v4, rfl, hi4, hg4⟩
  have hz3 := hB3.size
  have b0 := b0.wkept hg4 (by omega) (fun e => by have := hvlt _ e; omega)
  have ho4 := (hP.own.below hB3 hult).wkept hg4 (fun k hk => ⟨fun e => hP.ub (by rw [← e]; exact hk), hP.uv k hk⟩)
  have e34 := hg4.below (Nat.le_trans hlow hz3) hP.lb hP.lv
  have hz34 := e34.size
  have e04 : Below B W w4 := (((bthen hw2 hw3).mono (Nat.le_trans hlow hB.size))).trans e34
  have hq4 := law_q what n A1 A2 na ca nb cb B neg s al bl w4 (Reads.below HAB.out.1 e04) (Reads.below HAB.out.2 e04) (Nat.le_trans (Nat.le_trans hlow hB.size) e04.size) hna hnb hca hcb
  rw [HQQ.out] at hq4
  have HQ4 := Lib.hid hq4
  have HX := Lib.hid (And.intro e34 e04)
  clear hq4 e34 e04 hz34
  obtain ⟨q0, q1, q2, q3, q4, q5⟩ := b0.c6
  have hu4 := ho4.lt
  go_wp2_with fail
  refine HQ4.out.mono ?_
  rintro e w5 ⟨V5, rfl, hq5, hw5⟩
  have hv5 := hq5
  obtain ⟨vn5, vd5, rfl, hn5, hd5⟩ := hv5
  obtain ⟨An5, ln5, cn5, hAn5⟩ := hn5.form
  obtain ⟨Ad5, ld5, cd5, hAd5⟩ := hd5.form
  subst hAn5
  subst hAd5
  have ho5 := ho4.below hw5 hu4
  clear q0 q1 q2 q3 q4 q5
  go_wp2_with fail
  refine (ref_layFrac u lu q w5.heap.size _ w5 ho5 hq5 (Nat.le_refl _) (HS.out.mono (by omega)) (by omega)).mono ?_
  rintro e w6 ⟨u6, rfl, ho6, hg6⟩
  have HFIN := Lib.hid (hP.both hB3 hi4 hg4 hw5 ho6 hg6)
  clear hP
  go_wp2
  go_ret
  refine ⟨v4, u6, rfl, ?_, HFIN.out.2⟩
  rw [HQQ.out]
  exact HFIN.out.1
set_option maxRecDepth 100000 in
set_option maxHeartbeats 1000000 in
theorem lay_text (what n : Int) (A1 A2 : Option Addr) (na ca nb cb B b : Nat) (neg : Bool) (s : ByteArray) (v u : Value) (l lu : List UInt8) (w : World) (hp : Pair w B b v u l lu) (hs : s.size ≤ 9223372036854775807) (hw0 : -9223372036854775808 ≤ what) (hw1 : what ≤ 9223372036854775807) (hn : n ≤ 9223372036854775807) (hl : l.length ≤ 549755813888) (hlu : lu.length ≤ 549755813888) (hk : what % 5 = 3) :
    Calls Tryz.prog 10 #[.pointer (some ⟨b, 0, none⟩), u, .agg #[.int .i64 what, .int .i64 n, .slice A1 na ca, .slice A2 nb cb, .bool neg, .string s]] w (Both B b v u l lu (textB ⟨(s.data.toList.take 200).toArray⟩) w) := by
  have hpk := fun w => hand_pick what 5 w hw0 hw1 (by omega) (by omega)
  have e5 : what % ((5 : Nat) : Int) = 3 := hk
  rw [e5] at hpk
  have HPK := Lib.hid hpk
  have HP := Lib.hid hp
  clear hpk e5 hp hk
  have b0 := Blk.new w 24 #[.int .i64 what, .int .i64 n, .slice A1 na ca, .slice A2 nb cb, .bool neg, .string s]
  have hB := balloc1 w (.cells #[.int .i64 what, .int .i64 n, .slice A1 na ca, .slice A2 nb cb, .bool neg, .string s] 24)
  go_enter Tryz.func10, Tryz.ntmps10
  go_wp2_with fail
  generalize w.alloc (.cells #[.int .i64 what, .int .i64 n, .slice A1 na ca, .slice A2 nb cb, .bool neg, .string s] 24) = W at *
  refine (HPK.out W).mono ?_
  rintro e w1 ⟨rfl, rfl⟩
  have hP := HP.out
  have hblt := hP.isw.1.lt
  have hvlt := hP.isw.2.lt
  have hult := hP.own.lt
  have hzW := b0.lt
  have q1 : W.cell? ⟨w.heap.size, 5, none⟩ = some (.string s) := b0.cell 5
  have kc := Lib.run_convert_string_bytes (P := Tryz.prog) W 9 22 5 s Tryz.underlying9 Tryz.underlying22 Tryz.underlying5
  have hby := bytes_bytesWorld W 5 s
  have hbb := below_bytesWorld W 5 s
  have hbz := Lib.bytesWorld_size W 5 s
  obtain ⟨Wb, hWb⟩ : ∃ Wb, Lib.bytesWorld W 5 s = Wb := ⟨_, rfl⟩
  rw [hWb] at kc hby hbb hbz
  have HBY := Lib.hid hby
  have HBB := Lib.hid hbb
  have HBZ := Lib.hid hbz
  clear HPK hWb hby hbb hbz
  go_wp2_with fail
  refine (few_reads _ _ _ _ _ 200 Wb HBY.out (by rw [HBZ.out]; omega) (by omega) (grownCap_ge _ _ _ _) (by omega)).mono ?_
  rintro e w2 ⟨A2', K2, c2, rfl, hK1, hK2, hK3, hr2, hw2⟩
  have hB2 := bthen (bthen hB HBB.out) hw2
  have hst := run_string (P := Tryz.prog) w2 22 9 5 A2' K2 c2 _ _ Tryz.underlying22 Tryz.underlying5 Tryz.underlying9 hr2
  have hsz : ByteArray.size ⟨(s.data.toList.take 200).toArray⟩ ≤ 200 := by show (s.data.toList.take 200).toArray.size ≤ 200; simp; omega
  generalize (⟨(s.data.toList.take 200).toArray⟩ : ByteArray) = s2 at *
  have b0 := b0.below (bthen HBB.out hw2) hzW
  clear kc HBY HBB HBZ q1 hr2
  go_wp2_with fail
  refine (writer_text b v l s2 w2 (hP.isw.below hB2) (by omega) (by omega)).mono ?_
  rintro e w4 ⟨v4, rfl, hi4, hg4⟩
  have ho4 := (hP.own.below hB2 hult).wkept hg4 (fun k hk => ⟨fun e => hP.ub (by rw [← e]; exact hk), hP.uv k hk⟩)
  clear hst
  go_wp2_with fail
  refine (ref_layText u lu s2 w4 ho4 (by omega) (by omega)).mono ?_
  rintro e w6 ⟨u6, rfl, ho6, hg6⟩
  have HFIN := Lib.hid (hP.both hB2 hi4 hg4 (Below.refl _ _) ho6 hg6)
  clear hP
  go_wp2
  go_ret
  exact ⟨_, _, rfl, HFIN.out.1, HFIN.out.2⟩
/-- one step, whatever it is -/
theorem law_lay (what n : Int) (A1 A2 : Option Addr) (na ca nb cb B b : Nat) (neg : Bool) (s : ByteArray) (v u : Value) (l lu : List UInt8) (w : World) (hp : Pair w B b v u l lu) (al bl : List UInt8) (ha : Bytes w B A1 na al) (hb : Bytes w B A2 nb bl) (hna : na ≤ 9223372036854775807) (hnb : nb ≤ 9223372036854775807) (hca : na ≤ ca) (hcb : nb ≤ cb) (hs : s.size ≤ 9223372036854775807) (hT : Tab w)
    (hw0 : -9223372036854775808 ≤ what) (hw1 : what ≤ 9223372036854775807) (hn : n ≤ 9223372036854775807) (hl : l.length ≤ 549755813888) (hlu : lu.length ≤ 549755813888) :
    Calls Tryz.prog 10 #[.pointer (some ⟨b, 0, none⟩), u, .agg #[.int .i64 what, .int .i64 n, .slice A1 na ca, .slice A2 nb cb, .bool neg, .string s]] w (Both B b v u l lu (stepB (what % 5).toNat n al bl neg s) w) := by
  have h5 : what % 5 = 0 ∨ what % 5 = 1 ∨ what % 5 = 2 ∨ what % 5 = 3 ∨ what % 5 = 4 := by omega
  rcases h5 with h | h | h | h | h
  · have e : stepB (what % 5).toNat n al bl neg s = countB n.toNat := by rw [h]; rfl
    rw [e]
    exact lay_count what n A1 A2 na ca nb cb B b neg s v u l lu w hp hw0 hw1 hn hl hlu h
  · have e : stepB (what % 5).toNat n al bl neg s = wholeB (qOf neg al bl).num := by rw [h]; rfl
    rw [e]
    exact lay_whole what n A1 A2 na ca nb cb B b neg s v u l lu w hp al bl ha hb hna hnb hca hcb hw0 hw1 hn hl hlu h
  · have e : stepB (what % 5).toNat n al bl neg s = fracB (qOf neg al bl) := by rw [h]; rfl
    rw [e]
    exact lay_frac what n A1 A2 na ca nb cb B b neg s v u l lu w hp al bl ha hb hna hnb hca hcb hw0 hw1 hn hl hlu hT h
  · have e : stepB (what % 5).toNat n al bl neg s = textB ⟨(s.data.toList.take 200).toArray⟩ := by rw [h]; rfl
    rw [e]
    exact lay_text what n A1 A2 na ca nb cb B b neg s v u l lu w hp hs hw0 hw1 hn hl hlu h
  · have e : stepB (what % 5).toNat n al bl neg s = boolB neg := by rw [h]; rfl
    rw [e]
    exact lay_bool what n A1 A2 na ca nb cb B b neg s v u l lu w hp hw0 hw1 hn hl hlu h
theorem nbytes73 {n : Nat} (h : blen n ≤ 73) : nbytes n ≤ 10 := by unfold nbytes; omega
theorem wholeB_len (z : Int) (h : blen z.natAbs ≤ 73) : (wholeB z).length ≤ 20 := by
  unfold wholeB
  rw [List.length_append, natB_len]
  have h1 := countF_len 9 (2 * nbytes z.natAbs + (if z < 0 then 1 else 0))
  have h2 := nbytes73 h
  unfold countB
  omega
theorem stepB_len (k : Nat) (n : Int) (al bl : List UInt8) (neg : Bool) (s : ByteArray) : (stepB k n al bl neg s).length ≤ 210 := by
  obtain ⟨h1, h2⟩ := qOf_size neg al bl
  unfold stepB
  split
  · have := countF_len 9 n.toNat
    unfold countB
    omega
  · split
    · have := wholeB_len _ h1
      omega
    · split
      · unfold fracB
        have h3 := wholeB_len _ h1
        have h4 := countF_len 9 (nbytes (qOf neg al bl).den)
        have h5 := nbytes73 h2
        rw [List.length_append, List.length_append, natB_len]
        unfold countB
        omega
      · split
        · unfold textB
          have h4 := countF_len 9 (ByteArray.size ⟨(s.data.toList.take 200).toArray⟩)
          rw [List.length_append]
          unfold countB
          have : (ByteArray.mk (s.data.toList.take 200).toArray).data.toList.length ≤ 200 := by simp; omega
          omega
        · simp [boolB]
end Go.Proofs.YtjmbpnogicdkgaaGreatDoor
