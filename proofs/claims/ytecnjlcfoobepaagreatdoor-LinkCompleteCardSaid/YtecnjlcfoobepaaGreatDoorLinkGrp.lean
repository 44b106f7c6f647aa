import Derived.Test.YtecnjlcfoobepaaGreatDoorLinkFine
namespace Go.Proofs.YtecnjlcfoobepaaGreatDoor
open Go.RowKit
set_option linter.unusedSimpArgs false
set_option linter.unusedVariables false
theorem idxFrom_is (x : Int) : ∀ (l : List Int) (i : Nat), Lib.idxFrom l x i = if x ∈ l then ((i + l.idxOf x : Nat) : Int) else -1
 | [], i => by simp [Lib.idxFrom]
 | z :: l, i => by
  by_cases h : z = x
  ·subst h; simp [Lib.idxFrom]
  ·have h2 : ¬ x = z := fun e => h e.symm
   have e : (z :: l).idxOf x = l.idxOf x + 1 := by rw [List.idxOf_cons, beq_false_of_ne h]; rfl
   rw [e]
   simp only [Lib.idxFrom, if_neg h, idxFrom_is x l (i + 1), List.mem_cons, h2, false_or]
   split
   ·congr 1; omega
   ·rfl
theorem idxOf_is (l : List Int) (x : Int) : Lib.idxOf (l.take l.length) x = if x ∈ l then ((l.idxOf x : Nat) : Int) else -1 := by
 rw [List.take_length]
 unfold Lib.idxOf
 rw [idxFrom_is, Nat.zero_add]
section
variable {α : Type} {n i : Nat} {r z : Nat → α}
def fillH (n : Nat) (r z : Nat → α) (i : Nat) : List α := (List.range n).map fun k => if k < i then r k else z k
theorem fillH_zero (n : Nat) (r z : Nat → α) : fillH n r z 0 = (List.range n).map z := by
 unfold fillH
 exact List.map_congr_left fun i _ => by rw [if_neg (Nat.not_lt_zero _)]
theorem fillH_full (n : Nat) (r z : Nat → α) : fillH n r z n = (List.range n).map r := by
 unfold fillH
 refine List.map_congr_left fun i hi => ?_
 rw [if_pos (List.mem_range.1 hi)]
theorem fillH_len (n : Nat) (r z : Nat → α) (i : Nat) : (fillH n r z i).length = n := by simp [fillH]
theorem fillH_at (hi : i < n) : (fillH n r z i)[i]? = some (z i) := by
 unfold fillH
 rw [List.getElem?_map, List.getElem?_range hi]
 simp
theorem fillH_set {x : α} (hx : r i = x) : (fillH n r z i).set i x = fillH n r z (i + 1) := by
 unfold fillH
 refine List.ext_getElem (by simp) fun k h1 h2 => ?_
 rw [List.getElem_set]
 simp only [List.getElem_map, List.getElem_range]
 by_cases hki : i = k
 ·subst hki; rw [if_pos rfl, if_pos (by omega), hx]
 ·rw [if_neg hki]
  by_cases hlt : k < i
  ·rw [if_pos hlt, if_pos (show k < i + 1 by omega)]
  ·rw [if_neg hlt, if_neg (show ¬ k < i + 1 by omega)]
theorem fillH_skip (hx : r i = z i) : fillH n r z i = fillH n r z (i + 1) := by
 unfold fillH
 refine List.map_congr_left fun k _ => ?_
 by_cases hki : k = i
 ·subst hki; rw [if_neg (by omega), if_pos (by omega), hx]
 ·by_cases hlt : k < i
  ·rw [if_pos hlt, if_pos (show k < i + 1 by omega)]
  ·rw [if_neg hlt, if_neg (show ¬ k < i + 1 by omega)]
end
def ownL (n : Nat) (J : Nat → Jn) (k : Nat) : List Int := (List.range n).map fun r => ownAt n J r k
def rankZ (g : Nat → Int) (r : Nat) : Int := (rankG g r : Int)
def groupsZ (n : Nat) (J : Nat → Jn) (k : Nat) : List Int := (List.range n).map (rankZ fun r => ownAt n J r k)
theorem seen_in {g : Nat → Int} {r : Nat} (h : g r ∈ seenTo g r) : seenTo g (r + 1) = seenTo g r := by
 conv => lhs; unfold seenTo
 rw [if_pos h]
theorem seen_out {g : Nat → Int} {r : Nat} (h : ¬ g r ∈ seenTo g r) : seenTo g (r + 1) = seenTo g r ++ [g r] ∧ rankG g r = (seenTo g r).length := by
 refine ⟨?_, ?_⟩
 ·conv => lhs; unfold seenTo
  rw [if_neg h]
 ·unfold rankG
  exact List.idxOf_eq_length h
theorem seen_len_le (g : Nat → Int) : ∀ r, (seenTo g r).length ≤ r := by
 intro r
 induction r with
 | zero => exact Nat.le_refl _
 | succ r ih => rw [seen_succ]; split <;> omega
set_option maxHeartbeats 400000 in
theorem slices_index (A : Option Addr) (m c B : Nat) (l : List Int) (x : Int) (w : World) (h : Reads w B 1 A m (l.map zi)) (hm : m ≤ 1000000) :
  Calls Tryz.prog 123 #[.slice A m c, .int .i64 x] w fun e w' => e = .returned (.int .i64 (if x ∈ l then ((l.idxOf x : Nat) : Int) else -1)) ∧ w = w' := by
 rw [← idxOf_is]
 have hlen : m = l.length := by simpa using h.1.symm
 obtain ⟨z, hz⟩ : ∃ z, Lib.idxOf (l.take l.length) x = z := ⟨_, rfl⟩
 have HHIT : Hid (∀ k, k < m → l.getD k 0 = x → (∀ j, j < k → l.getD j 0 ≠ x) → z = (k : Int)) := Lib.hid fun k hk e hne => by
  rw [← hz]
  exact Lib.idxOf_hit l l.length k x (by omega) (Nat.le_refl _) e hne
 have HMISS : Hid ((∀ j, j < m → l.getD j 0 ≠ x) → z = -1) := Lib.hid fun hne => by
  rw [← hz]
  exact Lib.idxOf_miss l l.length x fun j hj => hne j (by omega)
 rw [hz]
 have H := Lib.hid h
 clear h hlen hz
 go_enter Tryz.func123, Tryz.ntmps123
 go_wp2
 go_loopw [8] (fun i wr => ∃ k : Nat, k ≤ m ∧ i = .int .i64 k ∧ Hid (∀ j, j < k → l.getD j 0 ≠ x) ∧ w = wr) (fun i _ => m - (intOf i).toNat)
 case atStart => exact ⟨0, Nat.zero_le _, rfl, Lib.hid (fun j hj => absurd hj (Nat.not_lt_zero _)), rfl⟩
 case round =>
  obtain ⟨k, hk, rfl, hne, rfl⟩ := hrel
  by_cases hlt : k < m
  ·obtain ⟨ad, y, hA, hb, hy, hc⟩ := H.out.atf hlt
   subst hA
   unfold zi at hc
   have hlt2 : (k : Int) < (m : Int) := by omega
   have hyd : l.getD k 0 = y := by rw [List.getD_eq_getElem?_getD, hy]; rfl
   have HYD := Lib.hid hyd
   clear hy hyd
   by_cases hxy : x = y
   ·have f1 : (x == y) = true := by simpa using hxy
    have HZ := Lib.hid (HHIT.out k hlt (HYD.out.trans hxy.symm) hne.out)
    have hxy := Lib.hid hxy
    go_wp2
    go_ret
    exact ⟨ret_int HZ.out.symm, rfl⟩
   ·have f1 : (x == y) = false := by simpa using hxy
    have HN : Hid (∀ j, j < k + 1 → l.getD j 0 ≠ x) := Lib.hid fun j hj e => by
     by_cases hjk : j = k
     ·subst hjk
      exact hxy (e.symm.trans HYD.out)
     ·exact hne.out j (by omega) e
    go_wp2
    exact ⟨⟨k + 1, by omega, by go_num, HN, by trivial⟩, by simp [intOf]; omega⟩
  ·obtain rfl : k = m := by omega
   have hlt2 : ¬ (k : Int) < (k : Int) := by omega
   have HZ := Lib.hid (HMISS.out hne.out)
   go_wp2
   go_ret
   exact ⟨ret_int HZ.out.symm, rfl⟩
set_option maxRecDepth 100000 in
set_option maxHeartbeats 4000000 in
theorem link_groups (A : Option Addr) (n len c : Nat) (l : List Jn) (w : World) (h : OwnJ w (.slice A len c) l) (hn1 : 1 ≤ n) (hn : n ≤ 64) (hlen : len ≤ 64) :
  Calls Tryz.prog 85 #[.int .i64 (n : Int), .slice A len c] w fun e w' => ∃ g, e = .returned (.slice (some ⟨g, 0, none⟩) n n) ∧ w.heap.size ≤ g ∧ Own w' 3 zi (.slice (some ⟨g, 0, none⟩) n n) (groupsZ n (fun i => l.getD i default) len) ∧ Below w.heap.size w w' := by
 have hll : len = l.length := by
  obtain ⟨A', c', h4, -⟩ := OwnW.form h
  injection h4
 have HO := Lib.hid h
 have HLL := Lib.hid hll
 clear h hll
 obtain ⟨J, hJ⟩ : ∃ J, (fun i => l.getD i default) = J := ⟨_, rfl⟩
 rw [hJ]
 have HJ : Hid (∀ k j, l[k]? = some j → J k = j) := Lib.hid fun k j hj => by
  rw [← hJ]
  show l.getD k default = j
  rw [List.getD_eq_getElem?_getD, hj]
  rfl
 clear hJ
 obtain ⟨w1, hmk, ho1, hb1⟩ := make_cap (P := Tryz.prog) zi 0 22 3 8 (Tryz.eltIntR).under (Tryz.eltIntR).info rfl n n (Nat.le_refl _) (by omega) (by unfold maxLen; omega) w
 obtain ⟨gs, hgs⟩ : ∃ gs, w.heap.size = gs := ⟨_, rfl⟩
 have hgs1 : w.heap.size ≤ gs := by omega
 rw [hgs] at hmk ho1
 have hrep : List.replicate n (0 : Int) = fillH n (fun i => (i : Int)) (fun _ => 0) 0 := by
  rw [fillH_zero]
  exact List.ext_getElem (by simp) fun a h1 h2 => by simp
 rw [hrep] at ho1
 have HO1 := Lib.hid ho1
 have HB1 := Lib.hid hb1
 clear ho1 hb1 hgs hrep
 go_enter Tryz.func85, Tryz.ntmps85
 go_wp2_with fail
 clear hmk
 go_loopw [19] (fun p wr => ∃ i : Nat, i ≤ n ∧ p = .int .i64 (i : Int) ∧ Own wr 3 zi (.slice (some ⟨gs, 0, none⟩) n n) (fillH n (fun i => (i : Int)) (fun _ => 0) i) ∧ Below w.heap.size w wr) (fun p _ => n - (intOf p).toNat)
 case atStart => exact ⟨0, by omega, rfl, HO1.out, HB1.out⟩
 case round =>
  obtain ⟨i, hi, rfl, ho, hbw⟩ := hrel
  rename World => wr
  clear HO1 HB1
  by_cases hik : i < n
  ·have q4 : (i : Int) < (n : Int) := by omega
   have hst := ho.putc i (i : Int)
   have hfz := ho.frozenc i
   have hcl := Own.cellf (by rw [fillH_len]; exact ho) (fillH_at hik)
   rw [fillH_set rfl] at hst
   unfold zi at hst hcl
   have HST := Lib.hid hst
   have HBW := Lib.hid hbw
   clear ho hbw hst
   go_wp2
   exact ⟨⟨i + 1, by omega, by go_num, HST.out, HBW.out.setCell hgs1 _⟩, by simp [intOf]; omega⟩
  ·obtain rfl : i = n := by omega
   have q4 : ¬ (i : Int) < (i : Int) := by omega
   rw [fillH_full] at ho
   have ho : Own wr 3 zi (.slice (some ⟨gs, 0, none⟩) i i) (ownL i J 0) := ho
   have HO1 := Lib.hid ho
   have HB1 := Lib.hid hbw
   clear ho hbw
   go_wp2_with fail
   clear q4
   go_loopw [29] (fun p wr => ∃ k : Nat, k ≤ len ∧ p = .int .i64 ((k : Nat) : Int) ∧ Own wr 3 zi (.slice (some ⟨gs, 0, none⟩) i i) (ownL i J k) ∧ Below w.heap.size w wr) (fun p _ => len - (intOf p).toNat)
   case atStart => exact ⟨0, by omega, rfl, HO1.out, HB1.out⟩
   case round =>
    obtain ⟨k, hk, rfl, ho, hbw⟩ := hrel
    rename World => wr
    clear HO1 HB1
    by_cases hkl : k < len
    ·have p0 : (k : Int) < (len : Int) := by omega
     obtain ⟨j, hj⟩ : ∃ j, l[k]? = some j := ⟨_, List.getElem?_eq_getElem (by have := HLL.out; omega)⟩
     obtain ⟨-, g1, hA1⟩ := OwnJ.addr HO.out (by have := HLL.out; omega)
     subst hA1
     have hat := OwnJ.at_ (OwnW.next HO.out hbw) hj
     have hjk := HJ.out k j hj
     obtain ⟨x0, x1, x2, x3, x4, x5, x6, x7⟩ := hat.c8
     obtain ⟨ja, jb, s, q⟩ := j
     have HC := Lib.hid ho
     have HBW := Lib.hid hbw
     have hgw := ho.lt gs rfl
     have HJK := Lib.hid hjk
     clear hbw ho hat hj hjk
     go_upto_region 9 with fail
     go_cut [7, 8] (fun v p wc => v = .int .i64 (k : Int) ∧ ∃ gj, p = .pointer (some ⟨gj, 0, none⟩) ∧ Blk wc gj 58 (jA ⟨ja, jb, s, q⟩) ∧ gj ≠ gs ∧ Own wc 3 zi (.slice (some ⟨gs, 0, none⟩) i i) (ownL i J k) ∧ Below w.heap.size w wc)
     case first =>
      go_wp2
      go_meet
      (with_reducible refine ⟨rfl, wr.heap.size, rfl, Blk.new _ _ _, by omega, ?_, ?_⟩)
      ·exact HC.out.alloc _
      ·exact bthen HBW.out (balloc1 _ _)
     case rest =>
      obtain ⟨rfl, gj, rfl, hbj, hgj, ho, hbw⟩ := hcut
      clear x0 x1 x2 x3 x4 x5 x6 x7 HC HBW
      have hz : ownL i J k = fillH i (fun r => ownAt i J r (k + 1)) (fun r => ownAt i J r k) 0 := (fillH_zero _ _ _).symm
      rw [hz] at ho
      have HC := Lib.hid ho
      have HBW := Lib.hid hbw
      have HBJ := Lib.hid hbj
      clear ho hbw hbj hz
      obtain ⟨N, hN⟩ : ∃ N, i + k = N := ⟨_, rfl⟩
      have e1 : (i : Int) + (k : Int) = (N : Int) := by omega
      have HN := Lib.hid hN
      have hN1 : N ≤ i + k := by omega
      clear hN
      go_wp2_with fail
      go_loopw [36] (fun p wr => ∃ r : Nat, r ≤ i ∧ p = .int .i64 ((r : Nat) : Int) ∧ Own wr 3 zi (.slice (some ⟨gs, 0, none⟩) i i) (fillH i (fun r => ownAt i J r (k + 1)) (fun r => ownAt i J r k) r) ∧ Blk wr gj 58 (jA ⟨ja, jb, s, q⟩) ∧ Below w.heap.size w wr) (fun p _ => i - (intOf p).toNat)
      case atStart => exact ⟨0, by omega, rfl, HC.out, HBJ.out, HBW.out⟩
      case round =>
       obtain ⟨r, hr, rfl, ho, hbj, hbw⟩ := hrel
       rename World => wd
       clear HC HBW HBJ
       by_cases hri : r < i
       ·have p1 : (r : Int) < (i : Int) := by omega
        have hat : Blk wd gj 58 #[.int .i64 ja, .int .i64 jb, .int .i64 s, .bool (decide (q.num < 0)), .int .u64 (lo q.num.natAbs : Int), .string (mo q.num.natAbs), .int .u64 (lo ((qden q)) : Int), .string (mo ((qden q)))] := hbj
        obtain ⟨x0, x1, x2, x3, x4, x5, x6, x7⟩ := hat.c8
        have hcl := Own.cellf (by rw [fillH_len]; exact ho) (fillH_at (r := fun r => ownAt i J r (k + 1)) (z := fun r => ownAt i J r k) hri)
        have hfz := ho.frozenc r
        have hs := own_step i J r k
        rw [HJK.out, HN.out] at hs
        unfold zi at hcl
        obtain ⟨x, hx⟩ : ∃ x, ownAt i J r k = x := ⟨_, rfl⟩
        rw [hx] at hcl hs
        have HX := Lib.hid hx
        have HS := Lib.hid hs
        have HC := Lib.hid ho
        have HBW := Lib.hid hbw
        have HBJ := Lib.hid hbj
        clear ho hbw hbj hat hx hs
        have hput : ownAt i J r (k + 1) = (N : Int) → Own (wd.setCell ⟨gs, r, none⟩ (.int .i64 (N : Int))) 3 zi (.slice (some ⟨gs, 0, none⟩) i i) (fillH i (fun r => ownAt i J r (k + 1)) (fun r => ownAt i J r k) (r + 1)) := fun e => by
         have := HC.out.putc r (N : Int)
         rw [fillH_set (r := fun r => ownAt i J r (k + 1)) e] at this
         exact this
        have HPUT := Lib.hid hput
        clear hput
        by_cases hxa : x = ja
        ·have f1 : (x == ja) = true := by simpa using hxa
         have HS2 := Lib.hid (HS.out.trans (if_pos (Or.inl hxa)))
         have hxa := Lib.hid hxa
         go_wp2
         exact ⟨⟨r + 1, by omega, by go_num, HPUT.out HS2.out, HBJ.out.far (p := ⟨gs, r, none⟩) hgj _, HBW.out.setCell hgs1 _⟩, by simp [intOf]; omega⟩
        ·have f1 : (x == ja) = false := by simpa using hxa
         by_cases hxb : x = jb
         ·have f2 : (x == jb) = true := by simpa using hxb
          have HS2 := Lib.hid (HS.out.trans (if_pos (Or.inr hxb)))
          have hxb := Lib.hid hxb
          go_wp2
          exact ⟨⟨r + 1, by omega, by go_num, HPUT.out HS2.out, HBJ.out.far (p := ⟨gs, r, none⟩) hgj _, HBW.out.setCell hgs1 _⟩, by simp [intOf]; omega⟩
         ·have f2 : (x == jb) = false := by simpa using hxb
          have HS2 := Lib.hid (HS.out.trans (if_neg (fun e => e.elim hxa hxb)))
          go_wp2
          exact ⟨⟨r + 1, by omega, by go_num, by rw [← fillH_skip (r := fun r => ownAt i J r (k + 1)) (z := fun r => ownAt i J r k) (HS2.out.trans HX.out.symm)]; exact HC.out, HBJ.out, HBW.out⟩, by simp [intOf]; omega⟩
       ·obtain rfl : r = i := by omega
        have p1 : ¬ (r : Int) < (r : Int) := by omega
        rw [fillH_full] at ho
        have HC := Lib.hid ho
        have HBW := Lib.hid hbw
        clear ho hbw hbj
        go_wp2
        exact ⟨⟨k + 1, by omega, by go_num, HC.out, HBW.out⟩, by simp [intOf]; omega⟩
    ·obtain rfl : k = len := by omega
     have p0 : ¬ (k : Int) < (k : Int) := by omega
     obtain ⟨g, hg⟩ : ∃ g, (fun r => ownAt i J r k) = g := ⟨_, rfl⟩
     have hz : ownL i J k = fillH i (rankZ g) g 0 := by rw [fillH_zero]; unfold ownL; rw [hg]
     rw [hz] at ho
     have HGZ : Hid (groupsZ i J k = (List.range i).map (rankZ g)) := Lib.hid (by unfold groupsZ; rw [hg])
     have HC := Lib.hid ho
     have HBW := Lib.hid hbw
     have hgw := ho.lt gs rfl
     clear ho hbw hz hg
     go_wp2_with fail
     go_loopw [11, 61] (fun vs p wr => ∃ r : Nat, r ≤ i ∧ p = .int .i64 ((r : Nat) : Int) ∧ Own wr 3 zi vs (seenTo g r) ∧ Hid (∀ b, vs.ownBlock = some b → gs + 1 ≤ b) ∧ Own wr 3 zi (.slice (some ⟨gs, 0, none⟩) i i) (fillH i (rankZ g) g r) ∧ Below w.heap.size w wr) (fun _ p _ => i - (intOf p).toNat)
     case atStart => exact ⟨0, by omega, rfl, Own.nil_ _ _ _, Lib.hid (fun b hb => by cases hb), HC.out, HBW.out⟩
     case round =>
      obtain ⟨r, hr, rfl, hse, hfr, ho, hbw⟩ := hrel
      rename World => wd
      clear HC HBW p0 hgw
      by_cases hri : r < i
      ·have p1 : (r : Int) < (i : Int) := by omega
       have hcl := Own.cellf (by rw [fillH_len]; exact ho) (fillH_at (r := rankZ g) (z := g) hri)
       have hfz := ho.frozenc r
       have hgw := ho.lt gs rfl
       unfold zi at hcl
       obtain ⟨As, cs, hvs, -⟩ := Own.form hse
       have hsl := seen_len_le g r
       obtain ⟨sn, hsn⟩ : ∃ sn, seenTo g r = sn := ⟨_, rfl⟩
       have h1 := @seen_in g r
       have h2 := @seen_out g r
       have hrk : rankG g r = (seenTo g r).idxOf (g r) := rfl
       rw [hsn] at hvs hse hsl h1 h2 hrk
       subst hvs
       obtain ⟨m, hm⟩ : ∃ m, sn.length = m := ⟨_, rfl⟩
       obtain ⟨x, hx⟩ : ∃ x, g r = x := ⟨_, rfl⟩
       rw [hx] at hcl h1 h2 hrk
       have hidx := idxOf_is sn x
       have hm64 : m ≤ 64 := by omega
       have hix : ∀ w', Below wd.heap.size wd w' → Calls Tryz.prog 123 #[.slice As m cs, .int .i64 x] w' fun e w'' => e = .returned (.int .i64 (if x ∈ sn then ((sn.idxOf x : Nat) : Int) else -1)) ∧ w' = w'' := fun w' hb => slices_index As m cs w'.heap.size sn x w' (by have := (hse.below hb hse.lt).reads; rw [hm] at this; exact this) (by omega)
       rw [hm] at hse hfr ⊢
       have HIX := Lib.hid hix
       have HSE := Lib.hid hse
       have HC := Lib.hid ho
       have HBW := Lib.hid hbw
       have HM := Lib.hid hm
       have HX := Lib.hid hx
       clear hse ho hbw hm hsn hx hidx hix
       by_cases hmem : x ∈ sn
       ·have hs2 := h1 hmem
        have hrz : rankZ g r = ((sn.idxOf x : Nat) : Int) := by unfold rankZ; rw [hrk]
        rw [if_pos hmem] at HIX
        obtain ⟨d, hd⟩ : ∃ d, sn.idxOf x = d := ⟨_, rfl⟩
        rw [hd] at HIX hrz
        have HPUT : Hid (Own (wd.setCell ⟨gs, r, none⟩ (.int .i64 (d : Int))) 3 zi (.slice (some ⟨gs, 0, none⟩) i i) (fillH i (rankZ g) g (r + 1))) := Lib.hid (by
         have := HC.out.putc r (d : Int)
         rw [fillH_set (r := rankZ g) hrz] at this
         exact this)
        have HS2 : Hid (Own (wd.setCell ⟨gs, r, none⟩ (.int .i64 (d : Int))) 3 zi (.slice As m cs) (seenTo g (r + 1))) := Lib.hid (by
         rw [hs2]
         exact HSE.out.exc ((Exc.refl gs wd).set_ r _) (fun e => by have := hfr.out gs e; omega))
        have d0 : ¬ (d : Int) < 0 := by omega
        clear h1 h2 hrk hs2 hrz hd hmem
        go_wp2_with fail
        refine (HIX.out _ (Below.refl _ _)).mono ?_
        rintro e w2 ⟨rfl, rfl⟩
        go_wp2
        exact ⟨⟨r + 1, by omega, by go_num, HS2.out, hfr, HPUT.out, HBW.out.setCell hgs1 _⟩, by simp [intOf]; omega⟩
       ·obtain ⟨hs2, hrk2⟩ := h2 hmem
        have hrz : rankZ g r = ((m : Nat) : Int) := by unfold rankZ; rw [hrk2, HM.out]
        rw [if_neg hmem] at HIX
        have d0 : (-1 : Int) < 0 := by omega
        have HS2 := Lib.hid hs2
        have HRZ := Lib.hid hrz
        clear h1 h2 hrk hs2 hrz hrk2 hmem
        go_wp2_with fail
        refine (HIX.out _ (Below.refl _ _)).mono ?_
        rintro e w2 ⟨rfl, rfl⟩
        go_upto_region 24 with fail
        go_cut [11, 14] (fun v v14 we => v14 = .int .i64 (m : Int) ∧ Own we 3 zi v (seenTo g (r + 1)) ∧ Hid (∀ b, v.ownBlock = some b → gs + 1 ≤ b) ∧ Own we 3 zi (.slice (some ⟨gs, 0, none⟩) i i) (fillH i (rankZ g) g r) ∧ Below w.heap.size w we)
        case first =>
         go_wp2_with (at_builtin; refine app1 (f := zi) Tryz.eltIntR rfl (.tmp 73) (.tmp 75) rfl wd _ sn x (.int .i64 x) rfl rfl HSE.out rfl rfl (by have := HM.out; unfold maxLen; omega) (by have := HM.out; omega) ?_; intro v7 w7 ho7 hg7; obtain ⟨A7, n7, k7c, hv7⟩ := Own.form3 ho7; subst hv7; have hs7 := Lib.hid ho7; have hgr7 := Lib.hid hg7; clear ho7 hg7)
         go_meet
         refine ⟨rfl, by rw [HS2.out]; exact hs7.out, Lib.hid (grewL hgr7.out hfr.out (by omega)), HC.out.kept hgr7.out (fun k hk e => ?_), ?_⟩
         ·have hk : some gs = some k := hk
          injection hk with hk
          have := hfr.out k e
          omega
         ·exact HBW.out.trans (hgr7.out.below HBW.out.size (fun k hk => by have := hfr.out k hk; omega))
        case rest =>
         obtain ⟨rfl, hse, hfr2, ho, hbw⟩ := hcut
         rename World => we
         clear hcl hfz HC HSE HBW HIX
         have hcl := Own.cellf (by rw [fillH_len]; exact ho) (fillH_at (r := rankZ g) (z := g) hri)
         have hfz := ho.frozenc r
         rw [HX.out] at hcl
         unfold zi at hcl
         have HPUT : Hid (Own (we.setCell ⟨gs, r, none⟩ (.int .i64 (m : Int))) 3 zi (.slice (some ⟨gs, 0, none⟩) i i) (fillH i (rankZ g) g (r + 1))) := Lib.hid (by
          have := ho.putc r (m : Int)
          rw [fillH_set (r := rankZ g) HRZ.out] at this
          exact this)
         have hse2 := hse.exc ((Exc.refl gs we).set_ r (.int .i64 (m : Int))) (fun e => by have := hfr2.out gs e; omega)
         have HS3 := Lib.hid hse2
         have HBW := Lib.hid hbw
         clear hse hse2 ho hbw
         go_wp2
         exact ⟨⟨r + 1, by omega, by go_num, HS3.out, hfr2, HPUT.out, HBW.out.setCell hgs1 _⟩, by simp [intOf]; omega⟩
      ·obtain rfl : r = i := by omega
       have p1 : ¬ (r : Int) < (r : Int) := by omega
       rw [fillH_full] at ho
       have HC := Lib.hid ho
       have HBW := Lib.hid hbw
       clear ho hbw hse
       go_wp2
       go_returns
       exact ⟨gs, rfl, hgs1, by rw [HGZ.out]; exact HC.out, HBW.out⟩
end Go.Proofs.YtecnjlcfoobepaaGreatDoor
namespace Go.Proofs.YtecnjlcfoobepaaGreatDoor
open Go.RowKit
set_option linter.unusedSimpArgs false
set_option linter.unusedVariables false
theorem OwnW.front {α : Type} {w : World} {e : TypeId} {k : Nat} {f : α → List Value} {A : Option Addr} {n c : Nat} {l : List α} (hf : ∀ a, (f a).length = k) (h : OwnW w e k f (.slice A n c) l) {m : Nat} (hm : m ≤ n) : OwnW w e k f (.slice A m c) (l.take m) := by
 obtain ⟨A', c', h4, -⟩ := OwnW.form h
 injection h4 with _ hn _
 have hl : (l.take m).length = m := by simp; omega
 have e2 := flatW_len hf (l.take m)
 unfold OwnW World.ownsRow at h ⊢
 rw [hl] at e2 ⊢
 refine ⟨e2, ?_⟩
 rcases h.2 with ⟨h1, h2⟩ | ⟨g, cap, cur, h1, h2, h3, h4, h5, h6, h7⟩
 ·injection h1 with h1 h3 h4
  exact .inl ⟨by rw [h1, h4, show m = 0 by omega], by omega⟩
 ·injection h1 with h1 h8 h9
  refine .inr ⟨g, cap, cur, by rw [h1, h9], h2, h3, by omega, h5, h6, ?_⟩
  have e1 : l.flatMap f = (l.take m).flatMap f ++ (l.drop m).flatMap f := by rw [← List.flatMap_append, List.take_append_drop]
  have e3 : (cur.toList.take (l.length * k)).take (m * k) = (l.take m).flatMap f := by rw [h7, e1, ← e2, List.take_left]
  rw [List.take_take, Nat.min_eq_left (Nat.mul_le_mul_right k (by omega))] at e3
  exact e3
theorem cutA_J {w : World} {A : Option Addr} {n c : Nat} {l : List Jn} (h : OwnJ w (.slice A n c) l) (m k : Nat) : cutA A m 0 k = A := by
 have h1 : A = none ∨ ∃ g, A = some ⟨g, 0, none⟩ := by
  rcases h.2 with ⟨h3, h4⟩ | ⟨g, cap, cur, h3, _⟩
  ·injection h3 with h3 _ _
   exact .inl h3
  ·injection h3 with h3 _ _
   exact .inr ⟨g, h3⟩
 rcases h1 with rfl | ⟨g, rfl⟩
 ·unfold cutA
  split <;> rfl
 ·exact cutA_zero _ _ _
theorem ownZ_congr {n : Nat} {J J' : Nat → Jn} (k : Nat) (h : ∀ i, i < k → J i = J' i) : groupsZ n J k = groupsZ n J' k := by
 unfold groupsZ
 have e : (fun r => ownAt n J r k) = fun r => ownAt n J' r k := funext fun r => ownAt_congr r k h
 rw [e]
theorem take_J {l : List Jn} {d : Nat} : ∀ i, i < d → (l.take d).getD i default = l.getD i default := fun i hi => by
 rw [List.getD_eq_getElem?_getD, List.getD_eq_getElem?_getD, List.getElem?_take, if_pos hi]
theorem link_groups_of {A : Option Addr} {n len c d : Nat} {l : List Jn} {w : World} (h : OwnJ w (.slice A len c) l) (hn1 : 1 ≤ n) (hn : n ≤ 64) (hlen : len ≤ 64) (hd : d ≤ len) :
  ∀ w', Below w.heap.size w w' → Calls Tryz.prog 85 #[.int .i64 (n : Int), .slice A d c] w' fun e w'' => ∃ g, e = .returned (.slice (some ⟨g, 0, none⟩) n n) ∧ w'.heap.size ≤ g ∧ Own w'' 3 zi (.slice (some ⟨g, 0, none⟩) n n) (groupsZ n (fun i => l.getD i default) d) ∧ Below w'.heap.size w' w'' := by
 intro w' hb
 have hg := link_groups A n d c (l.take d) w' (OwnW.next (OwnW.front jC_len h hd) hb) hn1 hn (by omega)
 rw [ownZ_congr (J' := fun i => l.getD i default) d (fun i hi => take_J i hi)] at hg
 exact hg
set_option maxRecDepth 100000 in
set_option maxHeartbeats 2000000 in
theorem link_into (A : Option Addr) (n len c M : Nat) (l : List Jn) (k : Nat) (w : World) (h : OwnJ w (.slice A len c) l) (hn1 : 1 ≤ n) (hn : n ≤ 64) (hM : M ≤ 100000000) (hb : ∀ j ∈ l, JB M j) (hT : Tab w) (hf : fineB n l = true) (hlen : len + 1 = n) (hk1 : 1 ≤ k) (hk : k ≤ n) :
  Calls Tryz.prog 40 #[.int .i64 (n : Int), .slice A len c, .int .i64 (k : Int)] w fun e w' => ∃ g, e = .returned (.tuple #[.slice (some ⟨g, 0, none⟩) n n, .int .i64 0]) ∧ w.heap.size ≤ g ∧ Own w' 3 zi (.slice (some ⟨g, 0, none⟩) n n) (groupsZ n (fun i => l.getD i default) (n - k)) ∧ Below w.heap.size w w' := by
 have hfine := link_fine A n len c M l w h hn1 hn hM hb hT
 rw [hf] at hfine
 obtain ⟨d, hd⟩ : ∃ d, n - k = d := ⟨_, rfl⟩
 have hgr := link_groups_of (d := d) h hn1 hn (by omega) (by omega)
 have hcut := fun w => run_cutTo (P := Tryz.prog) (Tryz.eltJ).under (Tryz.eltJ).info A len c .i64 (d : Int) (by omega) (by
  obtain ⟨A', c', h4, h5, -⟩ := OwnW.form h
  injection h4
  omega) w
 rw [cutA_J h] at hcut
 simp only [Int.toNat_natCast] at hcut
 rw [hd]
 have e1 : (n : Int) - (k : Int) = (d : Int) := by omega
 have q1 : ¬ (k : Int) < 1 := by omega
 have q2 : ¬ (n : Int) < (k : Int) := by omega
 have q3 : ¬ (k : Int) > (n : Int) := by omega
 have hw : IntKind.i64.wrap (d : Int) = (d : Int) := IntWalk.i64_in _ (by omega)
 have HFI := Lib.hid hfine
 have HGR := Lib.hid hgr
 clear h hb hT hf hfine hgr hd
 go_enter Tryz.func40, Tryz.ntmps40
 go_wp2_with fail
 refine HFI.out.mono ?_
 rintro e w1 ⟨rfl, hb1⟩
 have HB1 := Lib.hid hb1
 clear hb1
 go_wp2_with fail
 refine (HGR.out w1 HB1.out).mono ?_
 rintro e w2 ⟨g, rfl, hg, ho, hb2⟩
 have HO := Lib.hid ho
 have HB2 := Lib.hid (bthen HB1.out hb2)
 have hg2 : w.heap.size ≤ g := Nat.le_trans HB1.out.size hg
 clear ho hb2 hg
 go_wp2
 go_returns
 exact ⟨g, rfl, hg2, HO.out, HB2.out⟩
set_option maxRecDepth 100000 in
set_option maxHeartbeats 2000000 in
theorem link_cut (A : Option Addr) (n len c M : Nat) (l : List Jn) (hq : Rat) (w : World) (h : OwnJ w (.slice A len c) l) (hn1 : 1 ≤ n) (hn : n ≤ 64) (hM : M ≤ 100000000) (hb : ∀ j ∈ l, JB M j) (hT : Tab w) (hf : fineB n l = true) (hlen : len + 1 = n) (hs : QS 100000000 hq) :
  Calls Tryz.prog 39 #[.int .i64 (n : Int), .slice A len c, qV hq] w fun e w' => ∃ g d, e = .returned (.tuple #[.slice (some ⟨g, 0, none⟩) n n, .int .i64 0]) ∧ d ≤ len ∧ (∀ i, i < d → (l.getD i default).high ≤ hq) ∧ (d < len → ¬ (l.getD d default).high ≤ hq) ∧ w.heap.size ≤ g ∧ Own w' 3 zi (.slice (some ⟨g, 0, none⟩) n n) (groupsZ n (fun i => l.getD i default) d) ∧ Below w.heap.size w w' := by
 have hfine := fun w' (hb1 : Below w.heap.size w w') => link_fine A n len c M l w' (OwnW.next h hb1) hn1 hn hM hb (hT.next hb1)
 rw [hf] at hfine
 have hll : len = l.length := by
  obtain ⟨A', c', h4, -⟩ := OwnW.form h
  injection h4
 have hgr := fun d (hd : d ≤ len) => link_groups_of (d := d) h hn1 hn (by omega) hd
 have hcut : ∀ (d : Nat) w, d ≤ len → (Instr.slice 40 (.slice A len c) none (some (.int .i64 (d : Int))) none).run Tryz.prog w = .ok (.slice A d c) w := fun d w hd => by
  have := run_cutTo (P := Tryz.prog) (Tryz.eltJ).under (Tryz.eltJ).info A len c .i64 (d : Int) (by omega) (by
   obtain ⟨A', c', h4, h5, -⟩ := OwnW.form h
   injection h4
   omega) w
  rw [cutA_J h] at this
  simpa only [Int.toNat_natCast] using this
 have HFI := Lib.hid hfine
 have HGR := Lib.hid hgr
 have HCUT := Lib.hid hcut
 have HO := Lib.hid h
 have HB := Lib.hid hb
 have HLL := Lib.hid hll
 have HQ := Lib.hid hs
 clear h hb hT hf hfine hgr hcut hll hs
 have b0 := Blk.new w 56 #[.bool (decide (hq.num < 0)), .int .u64 (lo hq.num.natAbs : Int), .string (mo hq.num.natAbs), .int .u64 (lo ((qden hq)) : Int), .string (mo ((qden hq)))]
 have hB0 := balloc1 w (.cells #[.bool (decide (hq.num < 0)), .int .u64 (lo hq.num.natAbs : Int), .string (mo hq.num.natAbs), .int .u64 (lo ((qden hq)) : Int), .string (mo ((qden hq)))] 56)
 obtain ⟨g5, hg5⟩ : ∃ g5, w.heap.size = g5 := ⟨_, rfl⟩
 unfold qV
 go_enter Tryz.func39, Tryz.ntmps39
 go_upto_region 1 with fail
 go_cut [12] (fun v wc => v = .bool false ∧ Blk wc g5 56 #[.bool (decide (hq.num < 0)), .int .u64 (lo hq.num.natAbs : Int), .string (mo hq.num.natAbs), .int .u64 (lo ((qden hq)) : Int), .string (mo ((qden hq)))] ∧ Below w.heap.size w wc)
 case first =>
  go_wp2_with fail
  refine (HFI.out _ (hB0.mono (Nat.le_refl _))).mono ?_
  rintro e w1 ⟨rfl, hb1⟩
  have b0 := b0.below hb1 b0.lt
  have HB1 := Lib.hid (bthen hB0 hb1)
  clear hb1 hB0 HFI
  have HB0 := Lib.hid b0
  clear b0
  go_wp2
  go_meet
  exact ⟨rfl, by rw [← hg5]; exact HB0.out, HB1.out⟩
 case rest =>
 obtain ⟨rfl, b0, hb0⟩ := hcut
 rename World => w1
 have HB1 := Lib.hid hb0
 clear hb0 HFI hB0 hg5
 go_wp2_with fail
 go_loopw [8] (fun p wr => ∃ k : Nat, k ≤ len ∧ p = .int .i64 ((k : Nat) : Int) ∧ Hid (∀ i, i < k → (l.getD i default).high ≤ hq) ∧ Blk wr g5 56 #[.bool (decide (hq.num < 0)), .int .u64 (lo hq.num.natAbs : Int), .string (mo hq.num.natAbs), .int .u64 (lo ((qden hq)) : Int), .string (mo ((qden hq)))] ∧ Below w.heap.size w wr) (fun p _ => len - (intOf p).toNat)
 case atStart => exact ⟨0, by omega, rfl, Lib.hid (fun i hi => absurd hi (Nat.not_lt_zero _)), b0, HB1.out⟩
 case round =>
  obtain ⟨k, hk, rfl, hall, b0, hbw⟩ := hrel
  rename World => wr
  clear HB1
  have HBW := Lib.hid hbw
  by_cases hkl : k < len
  ·have p0 : (k : Int) < (len : Int) := by omega
   have p1 : decide ((k : Int) < (len : Int)) = true := decide_eq_true p0
   obtain ⟨j, hj⟩ : ∃ j, l[k]? = some j := ⟨_, List.getElem?_eq_getElem (by have := HLL.out; omega)⟩
   have hjd : l.getD k default = j := by rw [List.getD_eq_getElem?_getD, hj]; rfl
   obtain ⟨-, g1, hA1⟩ := OwnJ.addr HO.out (by have := HLL.out; omega)
   subst hA1
   have b1 := OwnJ.at_ (OwnW.next HO.out hbw) hj
   have hqj := (HB.out j (List.mem_of_getElem? hj)).high
   obtain ⟨ja, jb, s, q⟩ := j
   have hcm := fun w => frac_cmp q hq w (hqj.mono (by omega)) (HQ.out.mono (by omega))
   have hgt := cmp_gt hq q
   generalize cmpQ q hq = cv at *
   unfold qV at hcm
   have HCM := Lib.hid hcm
   have HGT := Lib.hid hgt
   have HJD := Lib.hid hjd
   clear hcm hgt hqj hj hjd hbw
   by_cases hcv : cv ≤ 0
   ·have q9 : decide (cv ≤ 0) = true := decide_eq_true hcv
    have hle : q ≤ hq := Rat.not_lt.1 fun h => absurd (HGT.out.2 h) (by omega)
    have HALL : Hid (∀ i, i < k + 1 → (l.getD i default).high ≤ hq) := Lib.hid fun i hi => by
     by_cases hik : i = k
     ·subst hik
      rw [HJD.out]
      exact hle
     ·exact hall.out i (by omega)
    clear hle
    go_upto_region 4 with fail
    go_cut [26] (fun v wc => v = .bool true ∧ Below wr.heap.size wr wc)
    case first =>
     obtain ⟨b0q0, b0q1, b0q2, b0q3, b0q4⟩ := b0.c5; have c0 := b0.drew; have c0l := c0.lt; obtain ⟨b1q0, b1q1, b1q2, b1q3, b1q4, b1q5, b1q6, b1q7⟩ := b1.c8; have c1 := b1.drew; have c1l := c1.lt; have hc := bdrew0 wr; go_region_held3 (fun w' => w'.cell? ⟨g5, 0, none⟩ = some (.bool (decide (hq.num < 0))) ∧ w'.cell? ⟨g5, 1, none⟩ = some (.int .u64 (lo hq.num.natAbs : Int)) ∧ w'.cell? ⟨g5, 2, none⟩ = some (.string (mo hq.num.natAbs)) ∧ w'.cell? ⟨g5, 3, none⟩ = some (.int .u64 (lo ((qden hq)) : Int)) ∧ w'.cell? ⟨g5, 4, none⟩ = some (.string (mo ((qden hq)))) ∧ w'.cell? ⟨g1, k * 8, none⟩ = some (.int .i64 ja) ∧ w'.cell? ⟨g1, k * 8 + 1, none⟩ = some (.int .i64 jb) ∧ w'.cell? ⟨g1, k * 8 + 2, none⟩ = some (.int .i64 s) ∧ w'.cell? ⟨g1, k * 8 + 3, none⟩ = some (.bool (decide (q.num < 0))) ∧ w'.cell? ⟨g1, k * 8 + 4, none⟩ = some (.int .u64 (lo q.num.natAbs : Int)) ∧ w'.cell? ⟨g1, k * 8 + 5, none⟩ = some (.string (mo q.num.natAbs)) ∧ w'.cell? ⟨g1, k * 8 + 6, none⟩ = some (.int .u64 (lo (qden q) : Int)) ∧ w'.cell? ⟨g1, k * 8 + 7, none⟩ = some (.string (mo (qden q)))) (go_keep) (first | (go_at_call 29; (with_reducible refine (HCM.out _).mono ?_); rintro e w1 ⟨rfl, hw1⟩; have c0 := c0.below hw1 c0.lt; (try clear c0q0 c0q1 c0q2 c0q3 c0q4); obtain ⟨c0q0, c0q1, c0q2, c0q3, c0q4⟩ := c0.c5; (try clear c0l); have c0l := c0.lt; have c1 := c1.below hw1 c1.lt; (try clear c1q0 c1q1 c1q2 c1q3 c1q4 c1q5 c1q6 c1q7); obtain ⟨c1q0, c1q1, c1q2, c1q3, c1q4, c1q5, c1q6, c1q7⟩ := c1.c8; (try clear c1l); have c1l := c1.lt; have hc := bthen hc hw1))
     all_goals
      go_wp2
      go_meet
      exact ⟨rfl, hc⟩
    case rest =>
     obtain ⟨rfl, hbd⟩ := hcut
     have b0 := b0.below hbd b0.lt
     have HBD := Lib.hid (HBW.out.trans (hbd.mono HBW.out.size))
     clear hbd b1
     go_wp2
     exact ⟨⟨k + 1, by omega, by go_num, HALL, b0, HBD.out⟩, by simp [intOf]; omega⟩
   ·have q9 : decide (cv ≤ 0) = false := decide_eq_false hcv
    have HN : Hid (¬ (l.getD k default).high ≤ hq) := Lib.hid fun h => by
     rw [HJD.out] at h
     exact absurd (HGT.out.1 (by omega)) (Rat.not_lt.2 h)
    go_upto_region 4 with fail
    go_cut [26] (fun v wc => v = .bool false ∧ Below wr.heap.size wr wc)
    case first =>
     obtain ⟨b0q0, b0q1, b0q2, b0q3, b0q4⟩ := b0.c5; have c0 := b0.drew; have c0l := c0.lt; obtain ⟨b1q0, b1q1, b1q2, b1q3, b1q4, b1q5, b1q6, b1q7⟩ := b1.c8; have c1 := b1.drew; have c1l := c1.lt; have hc := bdrew0 wr; go_region_held3 (fun w' => w'.cell? ⟨g5, 0, none⟩ = some (.bool (decide (hq.num < 0))) ∧ w'.cell? ⟨g5, 1, none⟩ = some (.int .u64 (lo hq.num.natAbs : Int)) ∧ w'.cell? ⟨g5, 2, none⟩ = some (.string (mo hq.num.natAbs)) ∧ w'.cell? ⟨g5, 3, none⟩ = some (.int .u64 (lo ((qden hq)) : Int)) ∧ w'.cell? ⟨g5, 4, none⟩ = some (.string (mo ((qden hq)))) ∧ w'.cell? ⟨g1, k * 8, none⟩ = some (.int .i64 ja) ∧ w'.cell? ⟨g1, k * 8 + 1, none⟩ = some (.int .i64 jb) ∧ w'.cell? ⟨g1, k * 8 + 2, none⟩ = some (.int .i64 s) ∧ w'.cell? ⟨g1, k * 8 + 3, none⟩ = some (.bool (decide (q.num < 0))) ∧ w'.cell? ⟨g1, k * 8 + 4, none⟩ = some (.int .u64 (lo q.num.natAbs : Int)) ∧ w'.cell? ⟨g1, k * 8 + 5, none⟩ = some (.string (mo q.num.natAbs)) ∧ w'.cell? ⟨g1, k * 8 + 6, none⟩ = some (.int .u64 (lo (qden q) : Int)) ∧ w'.cell? ⟨g1, k * 8 + 7, none⟩ = some (.string (mo (qden q)))) (go_keep) (first | (go_at_call 29; (with_reducible refine (HCM.out _).mono ?_); rintro e w1 ⟨rfl, hw1⟩; have c0 := c0.below hw1 c0.lt; (try clear c0q0 c0q1 c0q2 c0q3 c0q4); obtain ⟨c0q0, c0q1, c0q2, c0q3, c0q4⟩ := c0.c5; (try clear c0l); have c0l := c0.lt; have c1 := c1.below hw1 c1.lt; (try clear c1q0 c1q1 c1q2 c1q3 c1q4 c1q5 c1q6 c1q7); obtain ⟨c1q0, c1q1, c1q2, c1q3, c1q4, c1q5, c1q6, c1q7⟩ := c1.c8; (try clear c1l); have c1l := c1.lt; have hc := bthen hc hw1))
     all_goals
      go_wp2
      go_meet
      exact ⟨rfl, hc⟩
    case rest =>
     obtain ⟨rfl, hbd⟩ := hcut
     rename World => wd
     have HBD := Lib.hid (HBW.out.trans (hbd.mono HBW.out.size))
     have hct := fun w => HCUT.out k w hk
     have hgr := HGR.out k hk wd HBD.out
     have HG := Lib.hid hgr
     clear hbd b1 hgr b0 q9 hcv HGT HCM
     go_wp2_with fail
     refine HG.out.mono ?_
     rintro e w2 ⟨g, rfl, hg, ho, hb2⟩
     have HO2 := Lib.hid ho
     have HB2 := Lib.hid (HBD.out.trans (hb2.mono HBD.out.size))
     have hg2 : w.heap.size ≤ g := Nat.le_trans HBD.out.size hg
     clear ho hb2 hg
     go_wp2
     go_returns
     exact ⟨g, k, rfl, hk, hall.out, fun _ => HN.out, hg2, HO2.out, HB2.out⟩
  ·obtain rfl : k = len := by omega
   have p0 : ¬ (k : Int) < (k : Int) := by omega
   go_upto_region 4 with fail
   go_cut [26] (fun v wc => v = .bool false ∧ Below wr.heap.size wr wc)
   case first =>
    go_region
    all_goals
     go_wp2
     go_meet
     exact ⟨rfl, bdrew0 _⟩
   case rest =>
    obtain ⟨rfl, hbd⟩ := hcut
    rename World => wd
    have HBD := Lib.hid (HBW.out.trans (hbd.mono HBW.out.size))
    have hct := fun w => HCUT.out k w hk
    have hgr := HGR.out k hk wd HBD.out
    have HG := Lib.hid hgr
    clear hbd hgr b0 hbw
    go_wp2_with fail
    refine HG.out.mono ?_
    rintro e w2 ⟨g, rfl, hg, ho, hb2⟩
    have HO2 := Lib.hid ho
    have HB2 := Lib.hid (HBD.out.trans (hb2.mono HBD.out.size))
    have hg2 : w.heap.size ≤ g := Nat.le_trans HBD.out.size hg
    clear ho hb2 hg
    go_wp2
    go_returns
    exact ⟨g, k, rfl, hk, hall.out, fun h => absurd h (by omega), hg2, HO2.out, HB2.out⟩
def grpB (how : Nat) (f : List (List Rat)) (d : Nat) (r : Nat) : Int := ownAt f.length (joinAt how f) r d
theorem lj_groups {f : List (List Rat)} {how : Nat} {l : List Jn} (h : LJ f how l) {d : Nat} (hd : d < f.length) : groupsZ f.length (fun i => l.getD i default) d = (List.range f.length).map (rankZ (grpB how f d)) := by
 rw [ownZ_congr (J' := joinAt how f) d (fun i hi => h.at_ i (by omega))]
 rfl
theorem groups_at {m a : Nat} {g : Nat → Int} (h : a < m) : ((List.range m).map (rankZ g))[a]? = some ((rankG g a : Nat) : Int) := by
 rw [List.getElem?_map, List.getElem?_range h]
 rfl
theorem lj_into {f : List (List Rat)} {how m nj c4 : Nat} {A4 : Option Addr} {l : List Jn} {w1 : World} (h : LJ f how l) (ho : OwnJ w1 (.slice A4 nj c4) l) (hT : Tab w1) (hm : f.length = m) (hm7 : m ≤ 7) (k : Nat) (hk1 : 1 ≤ k) (hk : k ≤ m) :
  ∀ w', Below w1.heap.size w1 w' → Calls Tryz.prog 40 #[.int .i64 (m : Int), .slice A4 nj c4, .int .i64 (k : Int)] w' fun e w'' => ∃ g, e = .returned (.tuple #[.slice (some ⟨g, 0, none⟩) m m, .int .i64 0]) ∧ w'.heap.size ≤ g ∧ Own w'' 3 zi (.slice (some ⟨g, 0, none⟩) m m) ((List.range m).map (rankZ (grpB how f (m - k)))) ∧ Below w'.heap.size w' w'' := by
 intro w' hb'
 have hl := h.len
 have hnj : nj = l.length := by
  obtain ⟨A', c', h4, -⟩ := OwnW.form ho
  injection h4
 have hw := link_into A4 m nj c4 5528 l k w' (OwnW.next ho hb') (by omega) (by omega) (by omega) h.jb (hT.next hb') (by rw [← hm]; exact h.fine) (by omega) hk1 hk
 have e := lj_groups h (d := m - k) (by omega)
 rw [hm] at e
 rw [e] at hw
 exact hw
end Go.Proofs.YtecnjlcfoobepaaGreatDoor
