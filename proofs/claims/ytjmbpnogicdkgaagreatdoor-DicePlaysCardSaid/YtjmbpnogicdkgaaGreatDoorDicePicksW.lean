/-
  The walk of abaculuslaw5.DicePicks.
-/
import Derived.Test.YtjmbpnogicdkgaaGreatDoorTab
import Derived.Test.YtjmbpnogicdkgaaGreatDoorPicksMath
import Derived.Test.YtjmbpnogicdkgaaGreatDoorRefRow
import Derived.WalkKit
import Derived.Deep.DeepCutAuto
import Derived.Deep.CutBlock
import Derived.Deep.RegionLaw
namespace Go.Proofs.YtjmbpnogicdkgaaGreatDoor
open Go.RowKit
set_option linter.unusedVariables false
set_option linter.unusedSimpArgs false

theorem dice_nou32 (s : Nat) : ∀ i x : Nat, (#[.int .u64 (s : Int)] : Array Value)[i]? ≠ some (u32v x) := by
  intro i x e
  rcases i with _ | i
  · simp at e
    cases e
  · simp at e
/-- three dice and two rows of the document's fractions, apart from each other -/
structure Trio (w0 : World) (a b c : Nat) (v10 v12 : Value) (L M : List Rat) (sa sb sc : Nat) (wr : World) : Prop where
  da : Blk wr a 125 #[.int .u64 (sa : Int)]
  db : Blk wr b 125 #[.int .u64 (sb : Int)]
  dc : Blk wr c 125 #[.int .u64 (sc : Int)]
  o10 : OwnR wr v10 L
  o12 : OwnR wr v12 M
  n10 : ∀ g, v10.ownBlock = some g → g ≠ a ∧ g ≠ b ∧ g ≠ c
  n12 : ∀ g, v12.ownBlock = some g → g ≠ a ∧ g ≠ b ∧ g ≠ c
  ab : a ≠ b ∧ a ≠ c ∧ b ≠ c
  hw : w0.heap.size ≤ a ∧ w0.heap.size ≤ b ∧ w0.heap.size ≤ c
  hB : Below w0.heap.size w0 wr
section
variable {w0 wr w' : World} {a b c sa sb sc s' : Nat} {v10 v12 : Value} {L M : List Rat}
theorem Trio.next (h : Trio w0 a b c v10 v12 L M sa sb sc wr) (hb : Below wr.heap.size wr w') : Trio w0 a b c v10 v12 L M sa sb sc w' :=
  ⟨h.da.below hb h.da.lt, h.db.below hb h.db.lt, h.dc.below hb h.dc.lt, h.o10.next hb, h.o12.next hb, h.n10, h.n12, h.ab, h.hw, bthen h.hB hb⟩
theorem Trio.pickA (h : Trio w0 a b c v10 v12 L M sa sb sc wr) (hx : Exc a wr w') (hd : Blk w' a 125 #[.int .u64 (s' : Int)]) : Trio w0 a b c v10 v12 L M s' sb sc w' :=
  ⟨hd, h.db.exc hx (Ne.symm h.ab.1), h.dc.exc hx (Ne.symm h.ab.2.1), h.o10.excB h.da (dice_nou32 sa) hx (fun e => (h.n10 a e).1 rfl), h.o12.excB h.da (dice_nou32 sa) hx (fun e => (h.n12 a e).1 rfl), h.n10, h.n12, h.ab, h.hw, h.hB.trans (hx.below h.hB.size h.hw.1)⟩
theorem Trio.pickB (h : Trio w0 a b c v10 v12 L M sa sb sc wr) (hx : Exc b wr w') (hd : Blk w' b 125 #[.int .u64 (s' : Int)]) : Trio w0 a b c v10 v12 L M sa s' sc w' :=
  ⟨h.da.exc hx h.ab.1, hd, h.dc.exc hx (Ne.symm h.ab.2.2), h.o10.excB h.db (dice_nou32 sb) hx (fun e => (h.n10 b e).2.1 rfl), h.o12.excB h.db (dice_nou32 sb) hx (fun e => (h.n12 b e).2.1 rfl), h.n10, h.n12, h.ab, h.hw, h.hB.trans (hx.below h.hB.size h.hw.2.1)⟩
theorem Trio.pickC (h : Trio w0 a b c v10 v12 L M sa sb sc wr) (hx : Exc c wr w') (hd : Blk w' c 125 #[.int .u64 (s' : Int)]) : Trio w0 a b c v10 v12 L M sa sb s' w' :=
  ⟨h.da.exc hx h.ab.2.1, h.db.exc hx h.ab.2.2, hd, h.o10.excB h.dc (dice_nou32 sc) hx (fun e => (h.n10 c e).2.2 rfl), h.o12.excB h.dc (dice_nou32 sc) hx (fun e => (h.n12 c e).2.2 rfl), h.n10, h.n12, h.ab, h.hw, h.hB.trans (hx.below h.hB.size h.hw.2.2)⟩
end
/-- the first k members without their signs -/
def lst (ql : List Rat) (k : Nat) : List Rat := (ql.take k).map absQ ++ ql.drop k
def many (ql : List Rat) (kq : Rat) (k : Nat) : List Rat := ((ql.take k).map absQ).map (· * kq)
theorem lst_at {ql : List Rat} {k : Nat} {q : Rat} (h : ql[k]? = some q) : (lst ql k)[k]? = some q := by
  have hk : k < ql.length := (List.getElem?_eq_some_iff.1 h).1
  have hl : ((ql.take k).map absQ).length = k := by rw [List.length_map, List.length_take]; omega
  unfold lst
  rw [List.getElem?_append_right (by omega), hl, Nat.sub_self, List.getElem?_drop, Nat.add_zero, h]
theorem lst_set {ql : List Rat} {k : Nat} {q : Rat} (h : ql[k]? = some q) : (lst ql k).set k (absQ q) = lst ql (k + 1) := by
  have hk : k < ql.length := (List.getElem?_eq_some_iff.1 h).1
  have hl : ((ql.take k).map absQ).length = k := by rw [List.length_map, List.length_take]; omega
  unfold lst
  rw [List.set_append_right _ _ (by omega), hl, Nat.sub_self, List.drop_eq_getElem_cons hk, List.set_cons_zero, List.take_add_one, h]
  simp
theorem many_succ {ql : List Rat} {kq : Rat} {k : Nat} {q : Rat} (h : ql[k]? = some q) : many ql kq (k + 1) = many ql kq k ++ [absQ q * kq] := by
  unfold many
  rw [List.take_add_one, h]
  simp
theorem lst_len (ql : List Rat) (k : Nat) (hk : k ≤ ql.length) : (lst ql k).length = ql.length := by
  unfold lst
  rw [List.length_append, List.length_map, List.length_take, List.length_drop]
  omega
theorem lst_all (ql : List Rat) : lst ql ql.length = ql.map absQ := by
  unfold lst
  rw [List.take_length, List.drop_length, List.append_nil]
theorem many_all (ql : List Rat) (kq : Rat) : many ql kq ql.length = (ql.map absQ).map (· * kq) := by
  unfold many
  rw [List.take_length]
def LoopRel (X : World) (g10 : Nat) (v10 : Value) (ql : List Rat) (kq : Rat) (k : Nat) (v12 : Value) (wr : World) : Prop :=
  OwnR wr v10 (lst ql k) ∧ OwnR wr v12 (many ql kq k) ∧ (∀ b, v12.ownBlock = some b → X.heap.size ≤ b) ∧ Exc g10 X wr
/-- behind one round of the first loop -/
theorem LoopRel.step {X w5 w6 : World} {g10 m c10 k : Nat} {v12 v6 : Value} {ql : List Rat} {kq q : Rat} (hq : ql[k]? = some q) (ho : OwnR w5 (.slice (some ⟨g10, 0, none⟩) m c10) ((lst ql k).set k (absQ q))) (h12 : OwnR w5 v12 (many ql kq k)) (hf : ∀ b, v12.ownBlock = some b → X.heap.size ≤ b)
    (hg : g10 < X.heap.size) (hx : Exc g10 X w5) (h6 : OwnR w6 v6 (many ql kq k ++ [absQ q * kq])) (hgr : Grew w5 w6 v12 v6) : LoopRel X g10 (.slice (some ⟨g10, 0, none⟩) m c10) ql kq (k + 1) v6 w6 := by
  refine ⟨?_, by rw [many_succ hq]; exact h6, hgr.fresh hx.size hf, hx.grew hgr hf⟩
  rw [← lst_set hq]
  exact ho.other h12 hgr.size (fun k hk hne => hgr.block k hk hne) fun b hb e => by
    have hb' : g10 = b := by simpa [Value.ownBlock] using hb
    have := hf b e
    omega
theorem seventh : (0 : Rat) < Rat.divInt 1 7 ∧ QS 3 (Rat.divInt 1 7) := ⟨by decide, by constructor <;> decide⟩
theorem kq_pos (q : Rat) : 0 < absQ q + Rat.divInt 1 7 := by
  have h1 := absQ_nonneg q
  have h2 := seventh.1
  refine Rat.lt_of_le_of_ne (Rat.add_nonneg h1 (Rat.le_of_lt h2)) fun e => ?_
  have h3 : Rat.divInt 1 7 ≤ absQ q + Rat.divInt 1 7 := by
    have := (Rat.add_le_add_left (c := Rat.divInt 1 7)).2 h1
    rwa [Rat.add_zero, Rat.add_comm] at this
  rw [← e] at h3
  exact Rat.not_lt.2 h3 h2
set_option maxRecDepth 100000 in
set_option maxHeartbeats 16000000 in
theorem dicePicks_walk (s0 : Nat) (A : Option Addr) (n c : Nat) (zs : List Int) (by0 : Int) (w : World) (hs0 : s0 < 18446744073709551616) (h : ReadsZ w w.heap.size A n zs) (hn : n ≤ 9223372036854775807) (hy0 : -9223372036854775808 ≤ by0) (hy1 : by0 ≤ 9223372036854775807) (hT : Tab w) :
    Calls Tryz.prog 5 #[.int .u64 (s0 : Int), .slice A n c, .int .i64 by0] w (Ret (.bool true) w) := by
  have H := Lib.hid h
  have HT := Lib.hid hT
  clear h hT
  go_enter Tryz.func5, Tryz.ntmps5
  go_wp2_with fail
  refine (dice_new _ _).mono ?_
  rintro e w1 ⟨rfl, rfl⟩
  go_wp2_with fail
  refine (dice_new _ _).mono ?_
  rintro e w1 ⟨rfl, rfl⟩
  go_wp2_with fail
  refine (dice_new _ _).mono ?_
  rintro e w1 ⟨rfl, rfl⟩
  go_wp2_with fail
  refine (dice_known _).mono ?_
  rintro e x1 ⟨rfl, hb1⟩
  have da : Blk x1 w.heap.size 125 #[.int .u64 (s0 : Int)] := (((Blk.new w _ _).alloc _).alloc _).below hb1 (by simp; omega)
  have db : Blk x1 (w.heap.size + 1) 125 #[.int .u64 (s0 : Int)] := by
    have h := ((Blk.new (w.alloc (.cells #[.int .u64 (s0 : Int)] 125)) 125 #[.int .u64 (s0 : Int)]).alloc (.cells #[.int .u64 (s0 : Int)] 125)).below hb1 (by simp)
    simpa using h
  have dc : Blk x1 (w.heap.size + 1 + 1) 125 #[.int .u64 (s0 : Int)] := by
    have h := (Blk.new ((w.alloc (.cells #[.int .u64 (s0 : Int)] 125)).alloc (.cells #[.int .u64 (s0 : Int)] 125)) 125 #[.int .u64 (s0 : Int)]).below hb1 (by simp)
    simpa using h
  have hB1 : Below w.heap.size w x1 := ((((Below.refl _ _).alloc (Nat.le_refl _) _).alloc (by simp) _).alloc (by simp; omega) _).trans (hb1.mono (by simp; omega))
  have hlc := dc.lt
  clear hb1
  obtain ⟨m, hm⟩ : ∃ m, min n 10 = m := ⟨_, rfl⟩
  have hmin : min (n : Int) 10 = (m : Int) := by omega
  have hmn : m ≤ n := by omega
  have hm10 : m ≤ 10 := by omega
  clear hm
  have hrw := hand_row A n c _ zs m x1 (H.out.below hB1) hB1.size hn (by omega)
  have HRW := Lib.hid hrw
  clear hrw
  go_wp2_with fail
  refine HRW.out.mono ?_
  rintro e x2 ⟨v10, rfl, ho10, hf10, hb2⟩
  obtain ⟨A10, c10, hv10, hc10, hc10'⟩ := ho10.form
  rw [rowOf_len] at hv10 hc10
  subst hv10
  clear HRW
  go_wp2_with fail
  refine (hand_r by0 x2 hy0 hy1).mono ?_
  rintro e x3 ⟨V3, rfl, hR3, hb3⟩
  obtain ⟨g3, A3, l3, c3, A3', l3', c3', rfl⟩ := hR3.shape
  go_wp2_with fail
  refine (ref_abs (rOf by0) _ _ x3 hR3 (Nat.le_refl _)).mono ?_
  rintro e x4 ⟨V4, rfl, hR4, hb4⟩
  obtain ⟨g4, A4, l4, c4, A4', l4', c4', rfl⟩ := hR4.shape
  go_wp2_with fail
  refine (ref_over 1 7 x4 (by omega) (by omega) (by omega) (by omega) (by omega)).mono ?_
  rintro e x5 ⟨V5, rfl, hR5, hb5⟩
  obtain ⟨g5, A5, l5, c5, A5', l5', c5', rfl⟩ := hR5.shape
  have hR4 := (hR4.next (Nat.le_refl _) hb5).more hb5.size
  go_wp2_with fail
  refine (ref_add _ _ _ _ _ x5 hR4 hR5 (Nat.le_refl _) ((absQ_size (rOf_size by0)).mono (by omega)) (seventh.2.mono (by omega))).mono ?_
  rintro e x6 ⟨V6, rfl, hR6, hb6⟩
  obtain ⟨g6, A6, l6, c6, A6', l6', c6', rfl⟩ := hR6.shape
  have hkp := kq_pos (rOf by0)
  have hks : QS 9 (absQ (rOf by0) + Rat.divInt 1 7) := (absQ_size (rOf_size by0)).add seventh.2
  generalize absQ (rOf by0) + Rat.divInt 1 7 = kq at *
  have hb36 := bthen (bthen (bthen hb3 hb4) hb5) hb6
  have hB6 := bthen (bthen hB1 hb2) hb36
  have o10 := ho10.next hb36
  have hlt10 := o10.lt
  have d6 := bthen hb2 hb36
  have da := da.below d6 da.lt
  have db := db.below d6 db.lt
  have dc := dc.below d6 dc.lt
  have hz6 := d6.size
  have hal := balloc1 x6 (.cells #[.bool g6, .slice A6 l6 c6, .slice A6' l6' c6'] 36)
  have da := da.alloc (.cells #[.bool g6, .slice A6 l6 c6, .slice A6' l6' c6'] 36)
  have db := db.alloc (.cells #[.bool g6, .slice A6 l6 c6, .slice A6' l6' c6'] 36)
  have dc := dc.alloc (.cells #[.bool g6, .slice A6 l6 c6, .slice A6' l6' c6'] 36)
  have b11 := Blk.new x6 36 #[.bool g6, .slice A6 l6 c6, .slice A6' l6' c6']
  have o10 := o10.next hal
  have hk11 := (hR6.next (Nat.le_refl _) hal).more hal.size
  have hB7 := bthen hB6 hal
  clear hR3 hR4 hR5 hR6 hb3 hb4 hb5 hb6 hb36 hB6 hal hb2 ho10 d6
  go_upto_block 0 with fail
  have hsz : x6.heap.size < (x6.alloc (.cells #[.bool g6, .slice A6 l6 c6, .slice A6' l6' c6'] 36)).heap.size := b11.lt
  generalize x6.alloc (.cells #[.bool g6, .slice A6 l6 c6, .slice A6' l6' c6'] 36) = X at *
  generalize hg11 : x6.heap.size = g11 at *
  clear hg11
  obtain ⟨ql, hql⟩ : ∃ ql, rowOf zs m = ql := ⟨_, rfl⟩
  have hqlen : ql.length = m := by rw [← hql, rowOf_len]
  have hqsz : ∀ x ∈ ql, QS 5 x := by rw [← hql]; exact rowOf_size zs m
  rw [hql] at o10
  clear hql
  obtain ⟨g10, hg1, hg2, hg3⟩ : ∃ g, (0 < m → A10 = some ⟨g, 0, none⟩ ∧ g < g11) ∧ x1.heap.size ≤ g ∧ g ≠ g11 := by
    rcases Nat.eq_zero_or_pos m with h0 | h0
    · exact ⟨X.heap.size, (fun h => by omega), by omega, by omega⟩
    · obtain ⟨g, hg⟩ := o10.addr (by omega)
      have h1 := hlt10 g (by rw [hg]; rfl)
      exact ⟨g, (fun _ => ⟨hg, h1⟩), hf10 g (by rw [hg]; rfl), by omega⟩
  have HG1 := Lib.hid hg1
  have HQL := Lib.hid hqlen
  have HQS := Lib.hid hqsz
  have HO := Lib.hid o10
  have HK := Lib.hid hk11
  have HF10 := Lib.hid hf10
  have HKP := Lib.hid hkp
  have HKS := Lib.hid hks
  have HB7 := Lib.hid hB7
  clear hg1 hqlen hqsz o10 hk11 hf10 hkp hks hB7 hlt10 hc10 hc10' hB1
  go_cut [12] (fun v wc => LoopRel X g10 (.slice A10 m c10) ql kq m v wc)
  case first =>
    go_wp2_with fail
    go_loopw [12, 13] (fun v i wr => ∃ k : Nat, k ≤ m ∧ i = .int .i64 (k : Int) ∧ LoopRel X g10 (.slice A10 m c10) ql kq k v wr) (fun _ i _ => m - (intOf i).toNat)
    case atStart => exact ⟨0, by omega, rfl, HO.out, OwnR.nil X, (fun b h => by cases h), Exc.refl _ _⟩
    case round =>
      obtain ⟨k, hk, rfl, ho10, ho12, hf12, hx⟩ := hrel
      rename World => wr
      by_cases hkm : k < m
      · have k1 : (k : Int) < (m : Int) := by omega
        obtain ⟨hA10, hg11⟩ := HG1.out (by omega)
        subst hA10
        obtain ⟨q, hq⟩ : ∃ q, ql[k]? = some q := ⟨_, List.getElem?_eq_getElem (by have := HQL.out; omega)⟩
        have hqs : QS 5 q := HQS.out q (List.mem_of_getElem? hq)
        obtain ⟨r, q0, q1, q2, hiq⟩ := ho10.cell3 (lst_at hq)
        have hgX : g10 < X.heap.size := by omega
        have hab := ref_abs q _ _ wr hiq (Nat.le_refl _)
        obtain ⟨rg, rA, rl, rc, rA', rl', rc'⟩ := r
        unfold RC.v at hab
        simp only [] at q0 q1 q2 hab
        have HAB := Lib.hid hab
        have HQ := Lib.hid hq
        have H10 := Lib.hid ho10
        have H12 := Lib.hid ho12
        have HF12 := Lib.hid hf12
        have HX := Lib.hid hx
        clear hab hiq hq ho10 ho12 hf12 hx
        go_wp2_with fail
        refine HAB.out.mono ?_
        rintro e w1 ⟨V1, rfl, hR1, hw1⟩
        obtain ⟨g1, A1, l1, c1, A1', l1', c1', rfl⟩ := hR1.shape
        have o10 := H10.out.next hw1
        have o12 := H12.out.next hw1
        have f0 := o10.frozen (k * 3)
        have f1 := o10.frozen (k * 3 + 1)
        have f2 := o10.frozen (k * 3 + 2)
        have hx1 := HX.out.trans (Exc.of hw1)
        have st := o10.store k ⟨g1, A1, l1, c1, A1', l1', c1'⟩ hR1
        have ex := ((hx1.set_ (k * 3) (.bool g1)).set_ (k * 3 + 1) (.slice A1 l1 c1)).set_ (k * 3 + 2) (.slice A1' l1' c1')
        have o12' := o12.other (w' := ((w1.setCell ⟨g10, k * 3, none⟩ (.bool g1)).setCell ⟨g10, k * 3 + 1, none⟩ (.slice A1 l1 c1)).setCell ⟨g10, k * 3 + 2, none⟩ (.slice A1' l1' c1')) o10 (by simp) (fun j hj hne => by
            have hjg : j ≠ g10 := fun e => hne (by rw [e]; rfl)
            exact (Below.heap_setCell _ _ _ j hjg).trans ((Below.heap_setCell _ _ _ j hjg).trans (Below.heap_setCell _ _ _ j hjg))) (fun b hb e => by
            have e2 : g10 = b := by simpa [Value.ownBlock] using e
            have := HF12.out b hb
            omega)
        have HS := Lib.hid (And.intro st (And.intro ex o12'))
        clear q0 q1 q2
        obtain ⟨⟨rg, rA, rl, rc, rA', rl', rc'⟩, q0, q1, q2, _⟩ := o10.cell3 (lst_at HQ.out)
        simp only [] at q0 q1 q2
        clear st ex o12' o10 o12 hx1 hR1 HAB H10 H12 HX
        go_upto_region 13 with fail
        generalize ((w1.setCell ⟨g10, k * 3, none⟩ (.bool g1)).setCell ⟨g10, k * 3 + 1, none⟩ (.slice A1 l1 c1)).setCell ⟨g10, k * 3 + 2, none⟩ (.slice A1' l1' c1') = w2 at *
        clear q0 q1 q2 f0 f1 f2 hw1
        obtain ⟨st, ex, o12⟩ := HS.out
        have hqa : ((lst ql k).set k (absQ q))[k]? = some (absQ q) := by
          rw [List.getElem?_set_self]
          rw [lst_len ql k (by have := HQL.out; omega)]
          have := HQL.out
          omega
        obtain ⟨⟨ug, uA, ul, uc, uA', ul', uc'⟩, q0, q1, q2, hiu⟩ := st.cell3 hqa
        have b2 := b11.exc ex (Ne.symm hg3)
        have hk2 := HK.out.excR HO.out ex
        have hmu := ref_mul (absQ q) kq _ _ _ w2.drew (hiu.next (Nat.le_refl _) (bdrew0 w2)) (hk2.next (Nat.le_refl _) (bdrew0 w2)) (Nat.le_refl _) ((absQ_size hqs).mono (by omega)) (HKS.out.mono (by omega))
        unfold RC.v at hmu
        simp only [] at q0 q1 q2 hmu
        have HMU := Lib.hid hmu
        have hll : (many ql kq k).length ≤ 1000000 := by
          unfold many
          rw [List.length_map, List.length_map, List.length_take]
          omega
        have HLL := Lib.hid hll
        clear hqa hiu hk2 hmu hll st ex o12
        obtain ⟨b2q0, b2q1, b2q2⟩ := b2.c3
        go_region_law (first | (refine stepR rfl (.tmp 65) (.tmp 72) rfl w5 _ (many ql kq k) (absQ q * kq) g5 A5 l5 c5 A5' l5' c5' (by simp [Act.eval, Act.put]) o12 hR5 (by simp [Act.eval, Act.put]) HLL.out ?_; intro v6 w6 ho6 hg6; have HF := Lib.hid (LoopRel.step HQ.out st o12 HF12.out hgX hx5 ho6 hg6)) | (go_simp; go_at_call 28; (with_reducible refine HMU.out.mono ?_); rintro e w5 ⟨v5, rfl, hR5, hw5⟩; obtain ⟨g5, A5, l5, c5, A5', l5', c5', hv5⟩ := hR5.shape; subst hv5; have hc5 := bthen (bdrew0 w2) hw5; have o12 := HS.out.2.2.next hc5; have st := HS.out.1.next hc5; have hx5 := HS.out.2.1.trans (Exc.of hc5)))
        all_goals
          go_wp2
          exact ⟨⟨k + 1, by omega, by go_num, HF.out⟩, by simp [intOf]; omega⟩
      · obtain rfl : k = m := by omega
        have k1 : ¬ (k : Int) < (k : Int) := by omega
        have HF := Lib.hid (show LoopRel X g10 (.slice A10 k c10) ql kq k u12 wr from ⟨ho10, ho12, hf12, hx⟩)
        clear ho10 ho12 hf12 hx
        go_wp2
        go_meet
        exact HF.out
  case rest =>
    obtain ⟨ho10, ho12, hf12, hx⟩ := hcut
    rename World => Y
    have e1 : lst ql m = ql.map absQ := by rw [← HQL.out]; exact lst_all ql
    have e2 : many ql kq m = (ql.map absQ).map (· * kq) := by rw [← HQL.out]; exact many_all ql kq
    rw [e1] at ho10
    rw [e2] at ho12
    have hLs : ∀ x ∈ ql.map absQ, QS 5 x := fun x hx => by
      obtain ⟨y, hy, rfl⟩ := List.mem_map.1 hx
      exact absQ_size (HQS.out y hy)
    have hLn : ∀ x ∈ ql.map absQ, 0 ≤ x := fun x hx => by
      obtain ⟨y, _, rfl⟩ := List.mem_map.1 hx
      exact absQ_nonneg y
    have hLl : (ql.map absQ).length = m := by rw [List.length_map]; exact HQL.out
    generalize ql.map absQ = L at *
    have hMs : ∀ x ∈ L.map (· * kq), QS 14 x := fun x hx => by
      obtain ⟨y, hy, rfl⟩ := List.mem_map.1 hx
      exact (hLs y hy).mul HKS.out
    have hMn : ∀ x ∈ L.map (· * kq), 0 ≤ x := fun x hx => by
      obtain ⟨y, hy, rfl⟩ := List.mem_map.1 hx
      exact Rat.mul_nonneg (hLn y hy) (Rat.le_of_lt HKP.out)
    have hNs : ∀ x ∈ L ++ [0], QS 5 x := fun x hx => by
      rcases List.mem_append.1 hx with h | h
      · exact hLs x h
      · obtain rfl := List.mem_singleton.1 h
        exact QS.zero _ (by omega)
    have hNn : ∀ x ∈ L ++ [0], 0 ≤ x := fun x hx => by
      rcases List.mem_append.1 hx with h | h
      · exact hLn x h
      · obtain rfl := List.mem_singleton.1 h
        exact Rat.le_refl
    have hMl : (L.map (· * kq)).length = m := by rw [List.length_map]; exact hLl
    have hps := fun (s i1 i2 i3 s1 s2 s3 : Nat) (o1 o2 o3 : Bool) h1 h2 h3 => picks_same L kq HKP.out hLn (s := s) (i1 := i1) (i2 := i2) (i3 := i3) (s1 := s1) (s2 := s2) (s3 := s3) (o1 := o1) (o2 := o2) (o3 := o3) h1 h2 h3
    obtain ⟨A12, c12, hv12, hc12, _⟩ := ho12.form
    rw [hMl] at hv12
    subst hv12
    have ht : Trio w w.heap.size (w.heap.size + 1) (w.heap.size + 1 + 1) (.slice A10 m c10) (.slice A12 m c12) L (L.map (· * kq)) s0 s0 s0 Y :=
      ⟨da.exc hx (by omega), db.exc hx (by omega), dc.exc hx (by omega), ho10, ho12, (fun g hg => by have := HF10.out g hg; omega), (fun g hg => by have := hf12 g hg; omega), by omega, by omega, HB7.out.trans (hx.below HB7.out.size (by omega))⟩
    generalize L.map (· * kq) = M at *
    have HTR := Lib.hid ht
    have HPS := Lib.hid hps
    have HLS := Lib.hid hLs
    have HLN := Lib.hid hLn
    have HMS := Lib.hid hMs
    have HMN := Lib.hid hMn
    have HNS := Lib.hid hNs
    have HNN := Lib.hid hNn
    have HLL := Lib.hid hLl
    have HML := Lib.hid hMl
    clear ht hps hLs hLn hMs hMn hNs hNn hLl hMl e1 e2 ho10 ho12 hf12 hx da db dc HO HK HG1 HKP HKS HQL HQS b11 HF10 HB7
    go_wp2_with fail
    go_loopw [14, 15, 16, 17, 18, 19, 20] (fun i _ _ _ _ _ _ wr => ∃ j s : Nat, j ≤ 5 ∧ s < 18446744073709551616 ∧ i = .int .i64 (j : Int) ∧ Trio w w.heap.size (w.heap.size + 1) (w.heap.size + 1 + 1) (.slice A10 m c10) (.slice A12 m c12) L M s s s wr) (fun i _ _ _ _ _ _ _ => 5 - (intOf i).toNat)
    case atStart => exact ⟨0, s0, by omega, hs0, rfl, HTR.out⟩
    case round =>
      obtain ⟨j, s, hj, hs, rfl, ht⟩ := hrel
      rename World => wr
      clear HTR
      by_cases hj5 : j < 5
      · have k1 : (j : Int) < 5 := by omega
        have hT1 := HT.out.next ht.hB
        have hi1 := hand_inRow A10 m c10 _ L wr (by have := ht.o10.reads; rw [HLL.out] at this; exact this) (Nat.le_refl _) (by omega) (fun x hx => (HLS.out x hx).mono (by omega)) hT1
        have HI1 := Lib.hid hi1
        have HT0 := Lib.hid ht
        clear hT1 hi1 ht
        go_wp2_with fail
        refine HI1.out.mono ?_
        rintro e w1 ⟨v1, rfl, ho1, hf1, hb1⟩
        rw [List.take_of_length_le (by rw [HLL.out]; exact Nat.le_refl _)] at ho1
        have t1 := HT0.out.next hb1
        obtain ⟨A1, c1, hv1, _, _⟩ := OwnW.form ho1
        rw [HLL.out] at hv1
        subst hv1
        have hr1 := OwnW.reads ho1
        rw [HLL.out] at hr1
        have HP1 := Lib.hid (dice_pick w.heap.size s A1 m c1 _ 5 L w1 hs t1.da hr1 (Nat.le_refl _) (by omega) (by omega) HLS.out (HT.out.next t1.hB))
        have HT1 := Lib.hid t1
        clear ho1 hf1 hb1 hr1 t1 HI1 HT0
        go_wp2_with fail
        refine HP1.out.mono ?_
        rintro e w2 hpost
        obtain ⟨i1, o1, s1, rfl, ha1, hd1, hx1⟩ := pick_ans hpost HLN.out HT1.out.da
        have t2 := HT1.out.pickA hx1 hd1
        have HA1 := Lib.hid ha1
        have hi2 := hand_inRow A12 m c12 _ M w2 (by have := t2.o12.reads; rw [HML.out] at this; exact this) (Nat.le_refl _) (by omega) (fun x hx => (HMS.out x hx).mono (by omega)) (HT.out.next t2.hB)
        have HI2 := Lib.hid hi2
        have HT2 := Lib.hid t2
        clear hpost ha1 hd1 hx1 HT1 HP1 hi2 t2
        go_wp2_with fail
        refine HI2.out.mono ?_
        rintro e w3 ⟨v3, rfl, ho3, hf3, hb3⟩
        rw [List.take_of_length_le (by rw [HML.out]; exact Nat.le_refl _)] at ho3
        have t3 := HT2.out.next hb3
        obtain ⟨A3, c3, hv3, _, _⟩ := OwnW.form ho3
        rw [HML.out] at hv3
        subst hv3
        have hr3 := OwnW.reads ho3
        rw [HML.out] at hr3
        have HP3 := Lib.hid (dice_pick (w.heap.size + 1) s A3 m c3 _ 14 M w3 hs t3.db hr3 (Nat.le_refl _) (by omega) (by omega) HMS.out (HT.out.next t3.hB))
        have HT3 := Lib.hid t3
        clear ho3 hf3 hb3 hr3 t3 HI2 HT2
        go_wp2_with fail
        refine HP3.out.mono ?_
        rintro e w4 hpost
        obtain ⟨i2, o2, s2, rfl, ha2, hd2, hx2⟩ := pick_ans hpost HMN.out HT3.out.db
        have t4 := HT3.out.pickB hx2 hd2
        have HA2 := Lib.hid ha2
        have hi4 := hand_inRow A10 m c10 _ L w4 (by have := t4.o10.reads; rw [HLL.out] at this; exact this) (Nat.le_refl _) (by omega) (fun x hx => (HLS.out x hx).mono (by omega)) (HT.out.next t4.hB)
        have HI4 := Lib.hid hi4
        have HT4 := Lib.hid t4
        clear hpost ha2 hd2 hx2 HT3 HP3 hi4 t4
        go_wp2_with fail
        refine HI4.out.mono ?_
        rintro e w5 ⟨v5, rfl, ho5, hf5, hb5⟩
        rw [List.take_of_length_le (by rw [HLL.out]; exact Nat.le_refl _)] at ho5
        have t5 := HT4.out.next hb5
        have hof := frac_of 0 w5 (by omega) (by omega)
        obtain ⟨qz, hqz⟩ : ∃ q : Rat, ((0 : Int) : Rat) = q := ⟨_, rfl⟩
        rw [hqz] at hof
        have HQZ := Lib.hid (show qz = 0 from by rw [← hqz]; rfl)
        unfold qV at hof
        have HOF := Lib.hid hof
        clear HI4 hof hqz
        go_wp2_with fail
        refine HOF.out.mono ?_
        rintro e w6 ⟨rfl, hb6⟩
        have ho6 := OwnW.next ho5 hb6
        have hb46 := bthen hb5 hb6
        have HLL6 := Lib.hid (show L.length ≤ 1000000 by rw [HLL.out]; omega)
        clear t5 ho5 HOF hb5 hb6
        go_wp2_with (at_builtin; refine appQ rfl (.tmp 95) (.tmp 97) rfl w6 _ L qz rfl ho6 rfl HLL6.out ?_; intro v7 w7 ho7 hgr7)
        have hb7 := hb46.trans (hgr7.below hb46.size hf5)
        rw [HQZ.out] at ho7
        have t7 := HT4.out.next hb7
        obtain ⟨A7, c7, hv7, _, _⟩ := OwnW.form ho7
        have hN1 : (L ++ [0]).length = m + 1 := by rw [List.length_append, HLL.out]; rfl
        rw [hN1] at hv7
        subst hv7
        have hr7 := OwnW.reads ho7
        rw [hN1] at hr7
        have HP7 := Lib.hid (dice_pick (w.heap.size + 1 + 1) s A7 (m + 1) c7 _ 5 (L ++ [0]) w7 hs t7.dc hr7 (Nat.le_refl _) (by omega) (by omega) HNS.out (HT.out.next t7.hB))
        have HT7 := Lib.hid t7
        clear hN1 hr7 ho7 hgr7 hf5 hb7 t7 HT4 ho6 hb46 HLL6
        go_wp2_with fail
        refine HP7.out.mono ?_
        rintro e w8 hpost
        obtain ⟨i3, o3, s3, rfl, ha3, hd3, hx3⟩ := pick_ans hpost HNN.out HT7.out.dc
        have t8 := HT7.out.pickC hx3 hd3
        obtain ⟨e1, e2, e3, e4, e5, e6, hans⟩ := HPS.out s i1 i2 i3 s1 s2 s3 o1 o2 o3 HA1.out HA2.out ha3
        obtain rfl := e1.symm
        obtain rfl := e2.symm
        obtain rfl := e3.symm
        obtain rfl := e4.symm
        obtain rfl := e5.symm
        obtain rfl := e6.symm
        have hs1 : s1 < 18446744073709551616 := by
          rcases HA1.out with ⟨_, _, _, h⟩ | ⟨_, _, h⟩
          · omega
          · rw [h]; exact Dice.step_lt s
        have HT8 := Lib.hid t8
        clear hpost ha3 hd3 hx3 HT7 HP7 t8 HA1 HA2 HPS
        rcases hans with ⟨rfl, q, hq, hq0⟩ | ⟨rfl, hsum⟩
        · have hi1m : i1 < m := by
            have := (List.getElem?_eq_some_iff.1 hq).1
            rw [HLL.out] at this
            exact this
          obtain ⟨g, hg⟩ := HT8.out.o10.addr (by rw [HLL.out]; omega)
          subst hg
          obtain ⟨r, q0, q1, q2, hiq⟩ := HT8.out.o10.cell3 hq
          have hsg := ref_sign q _ _ w8 hiq (Nat.le_refl _)
          have hsn : (q.num.sign == 0) = false := by simpa using sign_ne hq0
          generalize q.num.sign = sg at *
          obtain ⟨rg, rA, rl, rc, rA', rl', rc'⟩ := r
          unfold RC.v at hsg
          simp only [] at q0 q1 q2 hsg
          have HSG := Lib.hid hsg
          have k2 : (i1 : Int) < (m : Int) := by omega
          clear hsg hiq hq hq0
          go_wp2_with fail
          refine HSG.out.mono ?_
          rintro e w9 ⟨rfl, hb9⟩
          have t9 := HT8.out.next hb9
          have HT9 := Lib.hid t9
          clear t9 hb9
          go_wp2
          exact ⟨⟨j + 1, s1, by omega, hs1, by go_num, HT9.out⟩, by simp [intOf]; omega⟩
        · have htt := ref_total A10 m c10 _ 5 L w8 (by have := HT8.out.o10.reads; rw [HLL.out] at this; exact this) (Nat.le_refl _) (by omega) (by omega) HLS.out
          rw [hsum] at htt
          have HTT := Lib.hid htt
          clear htt hsum
          go_wp2_with fail
          refine HTT.out.mono ?_
          rintro e w9 ⟨V9, rfl, hR9, hb9⟩
          obtain ⟨g9, A9, l9, c9, A9', l9', c9', rfl⟩ := hR9.shape
          have hsg := ref_sign 0 _ _ w9 hR9 (Nat.le_refl _)
          have hs00 : (0 : Rat).num.sign = 0 := rfl
          rw [hs00] at hsg
          have HSG := Lib.hid hsg
          clear hsg hR9 hs00
          go_wp2_with fail
          refine HSG.out.mono ?_
          rintro e w10 ⟨rfl, hb10⟩
          have t10 := HT8.out.next (bthen hb9 hb10)
          have HT10 := Lib.hid t10
          clear t10 hb9 hb10
          go_wp2
          exact ⟨⟨j + 1, s1, by omega, hs1, by go_num, HT10.out⟩, by simp [intOf]; omega⟩
      · obtain rfl : j = 5 := by omega
        have qa := ht.da.cell 0
        have qb := ht.db.cell 0
        have qc := ht.dc.cell 0
        simp at qa qb qc
        have HB9 := Lib.hid ht.hB
        clear ht
        go_wp2_with fail
        refine (dice_state _ s wr qa).mono ?_
        rintro e w9 ⟨rfl, rfl⟩
        go_wp2_with fail
        refine (dice_state _ s wr qb).mono ?_
        rintro e w9 ⟨rfl, rfl⟩
        go_wp2_with fail
        refine (dice_state _ s wr qa).mono ?_
        rintro e w9 ⟨rfl, rfl⟩
        go_wp2_with fail
        refine (dice_state _ s wr qc).mono ?_
        rintro e w9 ⟨rfl, rfl⟩
        go_wp2
        go_ret
        exact ⟨rfl, HB9.out⟩
end Go.Proofs.YtjmbpnogicdkgaaGreatDoor
