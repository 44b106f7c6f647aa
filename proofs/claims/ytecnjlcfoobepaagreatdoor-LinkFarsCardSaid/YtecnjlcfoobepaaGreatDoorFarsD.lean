import Derived.Test.YtecnjlcfoobepaaGreatDoorLinkFine
namespace Go.Proofs.YtecnjlcfoobepaaGreatDoor
open Go.RowKit
set_option linter.unusedSimpArgs false
set_option linter.unusedVariables false
set_option maxRecDepth 100000 in
set_option maxHeartbeats 2000000 in
theorem ref_right (A : Option Addr) (n c B wd : Nat) (x : List (List Rat)) (w : World) (h : ReadsRR w B A n x) (hB : B ≤ w.heap.size) (hn : n ≤ 1000) (hwd : 1 ≤ wd) (hw : ∀ l ∈ x, l.length = wd) :
  Calls Tryz.prog 58 #[.slice A n c] w (Ret (.bool (decide (1 ≤ n))) w) := by
 have hlen := h.len
 have H := Lib.hid h
 have HW := Lib.hid hw
 clear h hw
 go_enter Tryz.func58, Tryz.ntmps58
 go_wp2_with fail
 go_loopw [3] (fun i wr => ∃ k : Nat, k ≤ n ∧ i = .int .i64 (k : Int) ∧ Below w.heap.size w wr) (fun i _ => n - (intOf i).toNat)
 case atStart => exact ⟨0, by omega, rfl, Below.refl _ _⟩
 case round =>
  obtain ⟨k, hk, rfl, hbel⟩ := hrel
  rename World => wr
  by_cases hkn : k < n
  ·have k1 : (k : Int) < (n : Int) := by omega
   have k0 : (0 : Int) < (n : Int) := by omega
   obtain ⟨l, hl⟩ : ∃ l, x[k]? = some l := ⟨_, List.getElem?_eq_getElem (by omega)⟩
   obtain ⟨l0, hl0⟩ : ∃ l, x[0]? = some l := ⟨_, List.getElem?_eq_getElem (by omega)⟩
   obtain ⟨ad, A1, m1, c1, rfl, hlt, hc1, hr1⟩ := (H.out.below rkindR (hbel.mono hB)).at_ hl
   obtain ⟨ad2, A2, m2, c2, hA2, hlt2, hc2, hr2⟩ := (H.out.below rkindR (hbel.mono hB)).at_ hl0
   obtain rfl := Option.some.inj hA2
   have e1 : m1 = wd := by rw [← hr1.len]; exact HW.out l (List.mem_of_getElem? hl)
   have e2 : m2 = wd := by rw [← hr2.len]; exact HW.out l0 (List.mem_of_getElem? hl0)
   subst e1
   subst e2
   have q0 : ¬ (m2 : Int) = 0 := by omega
   have q1 : ((m2 : Int) == (m2 : Int)) = true := by simp
   have q2 : ((m2 : Int) != (m2 : Int)) = false := by simp
   have q3 : ((m2 : Int) == 0) = false := by simp; omega
   have q4 : ¬ m2 = 0 := by omega
   obtain ⟨g4, o4, hP4, hg4⟩ := plainAdd hc2
   obtain ⟨ga, oa, pa⟩ := ad
   have hpa : pa = none := by
    simp [Addr.add] at hP4
    exact hP4.2.2
   subst hpa
   have b3 : At1 wr ga (oa + k) (.slice A1 m2 c1) := At1.mk' (by rw [show (⟨ga, oa, none⟩ : Addr).add k = ⟨ga, oa + k, none⟩ from by unfold Addr.add; by_cases hk0 : k = 0 <;> simp [hk0]] at hc1; exact hc1)
   have hadd0 : (⟨ga, oa, none⟩ : Addr).add 0 = ⟨ga, oa, none⟩ := by unfold Addr.add; simp
   have haddk : (⟨ga, oa, none⟩ : Addr).add k = ⟨ga, oa + k, none⟩ := by unfold Addr.add; by_cases hk0 : k = 0 <;> simp [hk0]
   have k0' : ¬ n = 0 := by omega
   have k0'' : 0 < n := by omega
   have b4 : At1 wr ga oa (.slice A2 m2 c2) := At1.mk' (by rw [show (⟨ga, oa, none⟩ : Addr).add 0 = ⟨ga, oa, none⟩ by unfold Addr.add; simp] at hc2; exact hc2)
   clear hP4
   have HBL := Lib.hid hbel
   clear hbel hr1 hr2 hl hl0 hlt hlt2 hc1 hc2 hg4
   go_upto_region 4 with fail
   obtain ⟨b3q0, b3q1⟩ := b3.c2; have c3 := b3.drew; have c3l := c3.lt; obtain ⟨b4q0, b4q1⟩ := b4.c2; have c4 := b4.drew; have c4l := c4.lt; have hc := bdrew0 wr; go_region_held3 (fun w' => w'.cell? ⟨ga, oa + k, none⟩ = some (.slice A1 m2 c1) ∧ w'.cell? ⟨ga, oa, none⟩ = some (.slice A2 m2 c2)) (go_keep) (first | (fail))
   all_goals
    go_wp2
    exact ⟨⟨k + 1, by omega, by go_num, HBL.out.trans (hc.mono HBL.out.size)⟩, by simp [intOf]; omega⟩
  ·obtain rfl : k = n := by omega
   have k1 : ¬ (k : Int) < (k : Int) := by omega
   have HBL := Lib.hid hbel
   clear hbel
   by_cases h1 : 1 ≤ k
   ·have p1 : (0 : Int) < (k : Int) := by omega
    have p2 : decide (1 ≤ k) = true := decide_eq_true h1
    rw [p2]
    go_wp2
    go_ret
    exact ⟨by first | rfl | (simp; omega), HBL.out⟩
   ·have p1 : ¬ (0 : Int) < (k : Int) := by omega
    have p2 : decide (1 ≤ k) = false := decide_eq_false h1
    rw [p2]
    go_wp2
    go_ret
    exact ⟨by first | rfl | (simp; omega), HBL.out⟩
set_option maxRecDepth 100000 in
set_option maxHeartbeats 2000000 in
theorem ref_learn (A : Option Addr) (n c B wd : Nat) (x : List (List Rat)) (w : World) (h : ReadsRR w B A n x) (hB : B ≤ w.heap.size) (hn : n ≤ 300) (hwd : 1 ≤ wd) (hwd2 : wd ≤ 20) (hw : ∀ l ∈ x, l.length = wd) :
  Calls Tryz.prog 21 #[.slice A n c] w (Ret (.bool (decide (1 ≤ n))) w) := by
 have hlen := h.len
 have HR := Lib.hid (fun w' (hb : Below w.heap.size w w') => ref_right A n c B wd x w' (h.below rkindR (hb.mono hB)) (Nat.le_trans hB hb.size) (by omega) hwd hw)
 have H := Lib.hid h
 have HW := Lib.hid hw
 clear h hw
 go_enter Tryz.func21, Tryz.ntmps21
 by_cases h1 : 1 ≤ n
 ·have p2 : decide (1 ≤ n) = true := decide_eq_true h1
  rw [p2] at HR ⊢
  have k0 : (0 : Int) < (n : Int) := by omega
  obtain ⟨l0, hl0⟩ : ∃ l, x[0]? = some l := ⟨_, List.getElem?_eq_getElem (by omega)⟩
  obtain ⟨ad, A1, m1, c1, rfl, hlt, hc1, hr1⟩ := H.out.at_ hl0
  have e1 : m1 = wd := by rw [← hr1.len]; exact HW.out l0 (List.mem_of_getElem? hl0)
  subst e1
  obtain ⟨g3, o3, hP3, hg3⟩ := plainAdd hc1
  rw [hP3] at hc1
  have b3 := At1.mk' hc1
  have q1 : (n : Int) ≤ 300 := by omega
  have q2 : (m1 : Int) ≤ 20 := by omega
  clear hr1 hl0 hlt hc1 H HW hg3
  go_wp2_with fail
  refine (HR.out _ (Below.refl _ _)).mono ?_
  rintro e w1 ⟨rfl, hw1⟩
  have b3 := b3.below hw1 b3.lt
  obtain ⟨x0, -⟩ := b3.c2
  have HW1 := Lib.hid hw1
  clear hw1 HR b3
  go_wp2
  go_ret
  exact ⟨by first | rfl | (simp; omega), HW1.out⟩
 ·have p2 : decide (1 ≤ n) = false := decide_eq_false h1
  rw [p2] at HR ⊢
  go_wp2_with fail
  refine (HR.out _ (Below.refl _ _)).mono ?_
  rintro e w1 ⟨rfl, hw1⟩
  go_wp2
  go_ret
  exact ⟨rfl, hw1⟩
theorem Tryz.eltM : Elt Tryz.prog 24 97 (.slice none 0 0) 24 := ⟨Tryz.underlying24, by kernel_rfl, by kernel_rfl⟩
set_option maxRecDepth 100000 in
set_option maxHeartbeats 4000000 in
theorem ref_fars (A : Option Addr) (n c B m wd : Nat) (x : List (List Rat)) (w : World) (h : ReadsRR w B A n x) (hB : B ≤ w.heap.size) (hn : n ≤ 1000) (hm : 1 ≤ m) (hm2 : m ≤ 10000000) (hwd : wd ≤ 1000) (hs : ∀ l ∈ x, l.length = wd ∧ ∀ y ∈ l, QS m y) :
  Calls Tryz.prog 23 #[.slice A n c] w fun e w' => ∃ v, e = .returned v ∧ OwnSA 97 OwnR w.heap.size w'.heap.size w' v (farsQ x) ∧ (∀ b, v.ownBlock = some b → w.heap.size ≤ b) ∧ Below w.heap.size w w' := by
 have hlen := h.len
 have H := Lib.hid h
 have HS := Lib.hid hs
 have HLEN := Lib.hid hlen
 have HFL := Lib.hid (farsQ_len x)
 clear h hs
 go_enter Tryz.func23, Tryz.ntmps23
 go_wp2_with fail
 go_loopw [3, 4] (fun v i wr => ∃ k : Nat, k ≤ n ∧ i = .int .i64 (k : Int) ∧ OwnSA 97 OwnR w.heap.size wr.heap.size wr v ((farsQ x).take k) ∧ (∀ b, v.ownBlock = some b → w.heap.size ≤ b) ∧ Below w.heap.size w wr) (fun _ i _ => n - (intOf i).toNat)
 case atStart => exact ⟨0, by omega, rfl, OwnSA.nil _ _ _ _ _, (fun b h => by cases h), Below.refl _ _⟩
 case round =>
  obtain ⟨k, hk, rfl, hown, hfr, hbel⟩ := hrel
  rename World => wr
  by_cases hkn : k < n
  ·have k1 : (k : Int) < (n : Int) := by omega
   obtain ⟨xi, hxi⟩ : ∃ l, x[k]? = some l := ⟨_, List.getElem?_eq_getElem (by omega)⟩
   have hsc : (farsQ x).take (k + 1) = (farsQ x).take k ++ [x.map fun b => farQ xi b] := by
    rw [List.take_add_one, farsQ_at hxi]; rfl
   have HSC := Lib.hid hsc
   have HXI := Lib.hid hxi
   have HO := Lib.hid hown
   have HFR := Lib.hid hfr
   have HBL := Lib.hid hbel
   have HLK := Lib.hid (show ((farsQ x).take k).length ≤ 1000000 from by rw [List.length_take]; omega)
   clear hsc hxi hown hfr hbel
   go_wp2_with fail
   go_loopw [5, 6] (fun vl j wi => ∃ a : Nat, a ≤ n ∧ j = .int .i64 (a : Int) ∧ OwnR wi vl ((x.map fun b => farQ xi b).take a) ∧ Hid (∀ b, vl.ownBlock = some b → wr.heap.size ≤ b) ∧ Below wr.heap.size wr wi) (fun _ j _ => n - (intOf j).toNat)
   case atStart => exact ⟨0, by omega, rfl, OwnR.nil _, Lib.hid (fun b h => by cases h), Below.refl _ _⟩
   case round =>
    obtain ⟨a, ha, rfl, hol, hfl, hbi⟩ := hrel
    rename World => wi
    by_cases han : a < n
    ·have k2 : (a : Int) < (n : Int) := by omega
     obtain ⟨xa, hxa⟩ : ∃ l, x[a]? = some l := ⟨_, List.getElem?_eq_getElem (by omega)⟩
     obtain ⟨ad, A1, m1, c1, rfl, hlt, hc1, hr1⟩ := (H.out.below rkindR (HBL.out.mono hB)).at_ HXI.out
     obtain ⟨ad2, A2, m2, c2, hA2, hlt2, hc2, hr2⟩ := (H.out.below rkindR (HBL.out.mono hB)).at_ hxa
     obtain rfl := Option.some.inj hA2
     have s1 := HS.out xi (List.mem_of_getElem? HXI.out)
     have s2 := HS.out xa (List.mem_of_getElem? hxa)
     have e1 : m1 = wd := by rw [← hr1.len]; exact s1.1
     have e2 : m2 = wd := by rw [← hr2.len]; exact s2.1
     subst e1
     subst e2
     have hBr := Nat.le_trans hB HBL.out.size
     have HF := Lib.hid (fun w' (hb : Below wi.heap.size wi w') => ref_far A1 A2 m2 c1 c2 B m xi xa w' (hr1.below ((hbi.trans (hb.mono hbi.size)).mono hBr)) (hr2.below ((hbi.trans (hb.mono hbi.size)).mono hBr)) (Nat.le_trans hBr (Nat.le_trans hbi.size hb.size)) hwd hm hm2 s1.2 s2.2)
     obtain ⟨g3, o3, hP3, hg3⟩ := plainAdd hc1
     rw [hP3] at hc1
     obtain ⟨g4, o4, hP4, hg4⟩ := plainAdd hc2
     rw [hP4] at hc2
     have d3 := At1.mk' hc1
     have d4 := At1.mk' hc2
     have D3 := Lib.hid d3
     have D4 := Lib.hid d4
     have b3 := d3.below hbi d3.lt
     have b4 := d4.below hbi d4.lt
     have hsn : (x.map fun b => farQ xi b).take (a + 1) = (x.map fun b => farQ xi b).take a ++ [farQ xi xa] := by
      rw [List.take_add_one, List.getElem?_map, hxa]; rfl
     have HSN := Lib.hid hsn
     have HOL := Lib.hid hol
     have HBI := Lib.hid hbi
     have HLA := Lib.hid (show ((x.map fun b => farQ xi b).take a).length ≤ 1000000 from by rw [List.length_take]; omega)
     clear hr1 hr2 s1 s2 hsn hol hbi hxa hlt hlt2 hc1 hc2 d3 d4 hg3 hg4 hBr
     go_upto_region 9 with fail
     obtain ⟨b3q0, b3q1⟩ := b3.c2; have c3 := b3.drew; have c3l := c3.lt; obtain ⟨b4q0, b4q1⟩ := b4.c2; have c4 := b4.drew; have c4l := c4.lt; have hc := bdrew0 wi; go_region_held3 (fun w' => w'.cell? ⟨g3, o3, none⟩ = some (.slice A1 m2 c1) ∧ w'.cell? ⟨g4, o4, none⟩ = some (.slice A2 m2 c2)) (go_keep) (first | (go_at_call 60; (with_reducible refine (HF.out _ hc).mono ?_); rintro e w1 ⟨v1, rfl, hR1, hw1⟩; obtain ⟨g1, A1, l1, c1c, A1', l1', c1c', hv1⟩ := hR1.shape; subst hv1; have c3 := c3.below hw1 c3.lt; (try clear c3q0 c3q1); obtain ⟨c3q0, c3q1⟩ := c3.c2; (try clear c3l); have c3l := c3.lt; have c4 := c4.below hw1 c4.lt; (try clear c4q0 c4q1); obtain ⟨c4q0, c4q1⟩ := c4.c2; (try clear c4l); have c4l := c4.lt; have hc := bthen hc hw1) | (refine stepR rfl (.tmp 19) (.tmp 29) rfl w1 _ ((x.map fun b => farQ xi b).take a) (farQ xi xa) g1 A1 l1 c1c A1' l1' c1c' (by simp [Act.eval, Act.put]) (HOL.out.next hc) hR1 (by simp [Act.eval, Act.put]) HLA.out ?_; intro v7 w7 ho7 hg7; have h7 := (HBI.out.trans (hc.mono HBI.out.size)).trans (hg7.below (Nat.le_trans HBI.out.size hc.size) hfl.out); have HO7 := Lib.hid ho7; have HF7 := Lib.hid (grewL hg7 hfl.out (Nat.le_trans HBI.out.size hc.size)); have H7 := Lib.hid h7; clear c3q0 c4q0; have c3 := D3.out.below h7 D3.out.lt; have c4 := D4.out.below h7 D4.out.lt; obtain ⟨c3q0, -⟩ := c3.c2; obtain ⟨c4q0, -⟩ := c4.c2; clear ho7 hg7 h7))
     all_goals
      go_wp2
      exact ⟨⟨a + 1, by omega, by go_num, by rw [HSN.out]; exact HO7.out, HF7.out, H7.out⟩, by simp [intOf]; omega⟩
    ·obtain rfl : a = n := by omega
     have k2 : ¬ (a : Int) < (a : Int) := by omega
     rw [List.take_of_length_le (by rw [List.length_map]; omega)] at hol
     obtain ⟨A1, d1, hv1, _, _⟩ := OwnR.form hol
     rw [List.length_map, HLEN.out] at hv1
     subst hv1
     have hfl2 := hol.lt
     have hown1 := OwnSA.next Tryz.kindRR HO.out hbi
     have hbel1 := HBL.out.trans (hbi.mono HBL.out.size)
     have hfrL := hfl.out
     have hsz := hbi.size
     clear hbi
     go_wp2_with (at_builtin; refine appSA Tryz.kindRR Tryz.eltM rfl (.tmp 31) (.tmp 33) rfl w.heap.size wr.heap.size _ _ _ ((farsQ x).take k) A1 _ d1 (x.map fun b => farQ xi b) rfl hown1 hol (fun b hb => ⟨hfrL b hb, hfl2 b hb⟩) hsz HBL.out.size rfl HLK.out ?_; intro v' w2 hown2 hgr)
     have hbel2 := hbel1.trans (hgr.below hbel1.size HFR.out)
     have hfr2 := hgr.fresh hbel1.size HFR.out
     rw [← HSC.out] at hown2
     exact ⟨⟨k + 1, by omega, by go_num, hown2.more hgr.size, hfr2, hbel2⟩, by simp [intOf]; omega⟩
  ·obtain rfl : k = n := by omega
   have k1 : ¬ (k : Int) < (k : Int) := by omega
   rw [List.take_of_length_le (by rw [HFL.out]; omega)] at hown
   have HO := Lib.hid hown
   have HFR := Lib.hid hfr
   have HBL := Lib.hid hbel
   clear hown hfr hbel
   go_wp2
   go_ret
   exact ⟨_, rfl, HO.out, HFR.out, HBL.out⟩
set_option maxRecDepth 100000 in
set_option maxHeartbeats 4000000 in
theorem ref_checkFars (A : Option Addr) (n c B : Nat) (f : List (List Rat)) (w : World) (h : ReadsRR w B A n f) (hB : B ≤ w.heap.size) (hn : n ≤ 1000) (hs : ∀ l ∈ f, ∀ x ∈ l, QS 1000000 x) :
  Calls Tryz.prog 20 #[.slice A n c] w (Ret (.int .i64 (checkFar f : Int)) w) := by
 have hlen := h.len
 have H := Lib.hid h
 have HS := Lib.hid hs
 clear h hs
 go_enter Tryz.func20, Tryz.ntmps20
 by_cases h1 : n < 1
 ·have k1 : (n : Int) < 1 := by omega
  rw [checkFar_5 (.inl (by omega))]
  go_wp2
  go_ret
  exact ⟨rfl, Below.refl _ _⟩
 by_cases h64 : 64 < n
 ·have k1 : ¬ (n : Int) < 1 := by omega
  have k2 : (64 : Int) < (n : Int) := by omega
  rw [checkFar_5 (.inr (by omega))]
  go_wp2
  go_ret
  exact ⟨rfl, Below.refl _ _⟩
 have k1 : ¬ (n : Int) < 1 := by omega
 have k2 : ¬ (64 : Int) < (n : Int) := by omega
 have hr64 : ¬ (f.length < 1 ∨ 64 < f.length) := by omega
 go_wp2_with fail
 go_loopw [3] (fun i wr => ∃ k : Nat, k ≤ n ∧ i = .int .i64 (k : Int) ∧ Below w.heap.size w wr ∧ Hid (∀ (j : Nat) (l : List Rat), j < k → f[j]? = some l → l.length = f.length)) (fun i _ => n - (intOf i).toNat)
 case atStart => exact ⟨0, by omega, rfl, Below.refl _ _, Lib.hid (fun j l hj => absurd hj (by omega))⟩
 case round =>
  obtain ⟨k, hk, rfl, hbel, hrow⟩ := hrel
  rename World => wr
  by_cases hkn : k < n
  ·have k3 : (k : Int) < (n : Int) := by omega
   obtain ⟨l, hl⟩ : ∃ l, f[k]? = some l := ⟨_, List.getElem?_eq_getElem (by omega)⟩
   obtain ⟨ad, A1, m1, c1, rfl, hlt, hc1, hr1⟩ := (H.out.below rkindR (hbel.mono hB)).at_ hl
   obtain rfl : l.length = m1 := hr1.len
   obtain ⟨m1, hm1⟩ : ∃ m1, l.length = m1 := ⟨_, rfl⟩
   rw [hm1] at hc1
   have HB1 := Lib.hid hbel
   clear hbel
   by_cases hne : m1 = n
   ·subst hne
    have hrow2 : Hid (∀ (j : Nat) (l : List Rat), j < k + 1 → f[j]? = some l → l.length = f.length) := Lib.hid fun j l' hj hl' => by
     by_cases hjk : j = k
     ·subst hjk
      obtain rfl := Option.some.inj (hl.symm.trans hl')
      omega
     ·exact hrow.out j l' (by omega) hl'
    clear hrow hr1 hl hm1 hlt
    go_wp2
    exact ⟨⟨k + 1, by omega, by go_num, HB1.out, hrow2⟩, by simp [intOf]; omega⟩
   ·have q1 : ¬ (m1 : Int) = (n : Int) := by omega
    have q2 : ((m1 : Int) == (n : Int)) = false := by simp; omega
    have q3 : ((m1 : Int) != (n : Int)) = true := by simp; omega
    have HE := Lib.hid (checkFar_row hl (by omega))
    clear hrow hr1 hl hlt
    go_wp2
    go_ret
    exact ⟨by rw [HE.out]; rfl, HB1.out⟩
  ·obtain rfl : k = n := by omega
   have k3 : ¬ (k : Int) < (k : Int) := by omega
   have HR : Hid (∀ (j : Nat) (l : List Rat), f[j]? = some l → l.length = f.length) := Lib.hid fun j l hl => hrow.out j l (by have := (List.getElem?_eq_some_iff.1 hl).1; omega) hl
   have HB0 := Lib.hid hbel
   clear hrow hbel
   go_wp2_with fail
   go_loopw [4] (fun i wr => ∃ a : Nat, a ≤ k ∧ i = .int .i64 (a : Int) ∧ Hid (GoodTo f a 0) ∧ Below w.heap.size w wr) (fun i _ => k - (intOf i).toNat)
   case atStart => exact ⟨0, by omega, rfl, Lib.hid ⟨fun a ha => absurd ha (by omega), fun b hb => absurd hb (by omega)⟩, HB0.out⟩
   case round =>
    obtain ⟨a, ha, rfl, hgood, hbel⟩ := hrel
    rename World => w4
    clear HB0
    by_cases hak : a < k
    ·have k4 : (a : Int) < (k : Int) := by omega
     have HB1 := Lib.hid hbel
     clear hbel
     go_wp2_with fail
     go_loopw [5] (fun i wr => ∃ b : Nat, b ≤ k ∧ i = .int .i64 (b : Int) ∧ Hid (GoodTo f a b) ∧ Below w.heap.size w wr) (fun i _ => k - (intOf i).toNat)
     case atStart => exact ⟨0, by omega, rfl, hgood, HB1.out⟩
     case round =>
      obtain ⟨b, hb, rfl, hgd, hbel⟩ := hrel
      rename World => w2
      clear hgood HB1
      by_cases hbk : b < k
      ·have k5 : (b : Int) < (k : Int) := by omega
       obtain ⟨l, hl⟩ : ∃ l, f[a]? = some l := ⟨_, List.getElem?_eq_getElem (by omega)⟩
       obtain ⟨l2, hl2⟩ : ∃ l, f[b]? = some l := ⟨_, List.getElem?_eq_getElem (by omega)⟩
       have hlk := HR.out _ _ hl
       have hlk2 := HR.out _ _ hl2
       have hH := H.out.below rkindR (hbel.mono hB)
       obtain ⟨ad, A1, m1, cp1, rfl, hlt1, hcc1, hr1⟩ := hH.at_ hl
       obtain ⟨ad2, A2, m2, cp2, hA2, hlt, hcc, hr2⟩ := hH.at_ hl2
       obtain rfl := Option.some.inj hA2
       obtain rfl : l.length = m1 := hr1.len
       obtain rfl : l2.length = m2 := hr2.len
       obtain ⟨x, hx⟩ : ∃ x, l[b]? = some x := ⟨_, List.getElem?_eq_getElem (by omega)⟩
       obtain ⟨y, hy⟩ : ∃ y, l2[a]? = some y := ⟨_, List.getElem?_eq_getElem (by omega)⟩
       rw [show l2.length = k by omega] at hr2 hcc
       rw [show l.length = k by omega] at hr1 hcc1
       obtain ⟨ad1, g1, o1, r1, rfl, hP1, hg1, b1, iq1⟩ := ReadsR.at_ hr1 hx hbk
       obtain ⟨ad3, g2, o2, r2, rfl, hP2, hg2, b2, iq2⟩ := ReadsR.at_ hr2 hy hak
       obtain ⟨g3, o3, hP3, hg3⟩ := plainAdd hcc1
       rw [hP3] at hcc1
       obtain ⟨g4, o4, hP4, hg4⟩ := plainAdd hcc
       rw [hP4] at hcc
       have b3 := At1.mk' hcc1
       have b4 := At1.mk' hcc
       have qx := HS.out l (List.mem_of_getElem? hl) x (List.mem_of_getElem? hx)
       have qy := HS.out l2 (List.mem_of_getElem? hl2) y (List.mem_of_getElem? hy)
       have hbd := badAt_eq hl hx hl2 hy
       have hyx : a = b → y = x := fun e => by
        subst e
        obtain rfl := Option.some.inj (hl.symm.trans hl2)
        exact (Option.some.inj (hx.symm.trans hy)).symm
       have HYX := Lib.hid hyx
       have hcx := fun w' (hb : Below w2.heap.size w2 w') => ref_cmpQ x x B r1.v r1.v w' (iq1.below (hb.mono (Nat.le_trans hB hbel.size))) (iq1.below (hb.mono (Nat.le_trans hB hbel.size))) (Nat.le_trans (Nat.le_trans hB hbel.size) hb.size) (qx.mono (by omega)) (qx.mono (by omega))
       rw [show cmpQ x x = 0 from (cmpQ_zero x x).2 rfl] at hcx
       have hsn := sign_neg x
       have hsz := sign_zero x
       have hs3 : x.num.sign = -1 ∨ x.num.sign = 0 ∨ x.num.sign = 1 := by
        rcases Int.lt_trichotomy x.num 0 with h | h | h
        ·exact .inl (Int.sign_eq_neg_one_of_neg h)
        ·exact .inr (.inl (by rw [h]; rfl))
        ·exact .inr (.inr (Int.sign_eq_one_of_pos h))
       have hcz : cmpQ x y = 0 ↔ x = y := cmpQ_zero x y
       have hBw := Nat.le_trans hB hbel.size
       have hsg := fun w' (hb : Below w2.heap.size w2 w') => ref_sign x B r1.v w' (iq1.below (hb.mono hBw)) (Nat.le_trans hBw hb.size)
       have hcm := fun w' (hb : Below w2.heap.size w2 w') => ref_cmpQ x y B r1.v r2.v w' (iq1.below (hb.mono hBw)) (iq2.below (hb.mono hBw)) (Nat.le_trans hBw hb.size) (qx.mono (by omega)) (qy.mono (by omega))
       generalize x.num.sign = sg at *
       generalize cmpQ x y = cv at *
       obtain ⟨rg, rA, rl, rc, rA', rl', rc'⟩ := r1
       obtain ⟨yg, yA, yl, yc, yA', yl', yc'⟩ := r2
       unfold RC.v at hsg hcm hcx
       simp only [] at b1 b2 hsg hcm hcx
       have HCX := Lib.hid hcx
       clear hcx hyx
       have HSG := Lib.hid hsg
       have HCM := Lib.hid hcm
       have HBW := Lib.hid hbel
       have HBD := Lib.hid hbd
       have HSN := Lib.hid hsn
       have HSZ := Lib.hid hsz
       have HCZ := Lib.hid hcz
       clear hsg hcm hbel hbd hsn hcz hsz qx qy hg1 hg2 hg3 hg4 hx hy hl hl2 hlk hlk2 hcc hcc1 hlt hlt1 hr1 hr2 iq1 iq2 hH hBw
       by_cases hab : a = b
       ·have hnn : Hid (sg = 0 → ¬ x < 0) := Lib.hid fun e h => by have := HSN.out.2 h; omega
        subst hab
        rcases hs3 with rfl | rfl | rfl
        ·have HE := Lib.hid (checkFar_bad hr64 HR.out (i := a) (k := a) (by omega) (by omega) (by rw [HBD.out]; simp [HSN.out.1 (by decide)]))
         go_upto_region 14 with fail
         obtain ⟨y0, -⟩ := b3.c2
         obtain ⟨x0, x1, x2⟩ := b1.c3
         simp only [] at x0 x1 x2
         clear b1 b2 b3 b4 HCM HBD HSN HSZ HCZ hP2 hP4
         refine wp_region_any (by kernel_rfl) ?_; (try (change wpAny _ _ _ _ _ _ _ (World.drew _))); refine wpAny_take (i := 0) (v := ?_) rfl (by kernel_rfl) (by kernel_rfl) (by kernel_rfl) (fun _ _ _ h => h) (Or.inl ⟨by rfl, ?_⟩) ?_; rotate_left; (focus (intro w; go_simp; try with_reducible rfl)); go_simp; refine wpAny_take (i := 1) (v := ?_) rfl (by kernel_rfl) (by kernel_rfl) (by kernel_rfl) (fun _ _ _ h => h) (Or.inl ⟨by rfl, ?_⟩) ?_; rotate_left; (focus (intro w; go_simp; try with_reducible rfl)); go_simp; refine wpAny_take (i := 2) (v := ?_) rfl (by kernel_rfl) (by kernel_rfl) (by kernel_rfl) (fun _ _ _ h => h) (Or.inl ⟨by rfl, ?_⟩) ?_; rotate_left; (focus (intro w; go_simp; try with_reducible rfl)); go_simp; refine wpAny_take (i := 4) (v := ?_) rfl (by kernel_rfl) (by kernel_rfl) (by kernel_rfl) (fun _ _ _ h => h) (Or.inl ⟨by rfl, ?_⟩) ?_; rotate_left; (focus (intro w; go_simp; try with_reducible rfl)); go_simp; refine wpAny_ready (rs := [3]) (by kernel_rfl) (by simp) ?_; refine AllReady.cons rfl (fun K hK => ?_) AllReady.nil; go_simp; refine hK _ _ ?_; clear hK K; refine wpAny_take (i := 5) (v := ?_) rfl (by kernel_rfl) (by kernel_rfl) (by kernel_rfl) (fun _ _ _ h => h) (Or.inl ⟨by rfl, ?_⟩) ?_; rotate_left; (focus (intro w; go_simp; try with_reducible rfl)); go_simp; refine wpAny_ready (rs := [6]) (by kernel_rfl) (by simp) ?_; refine AllReady.cons rfl (fun K hK => ?_) AllReady.nil; go_simp; refine hK _ _ ?_; clear hK K; refine wpAny_ready (rs := [7]) (by kernel_rfl) (by simp) ?_; refine AllReady.cons rfl (fun K hK => ?_) AllReady.nil; go_simp; go_wp2_with (go_at_call 56; (with_reducible refine (HSG.out _ (bdrew0 w2)).mono ?_); rintro e w5 ⟨rfl, hw5⟩); refine wpAny_take (i := 8) (v := ?_) rfl (by kernel_rfl) (by kernel_rfl) (by kernel_rfl) (fun _ _ _ h => h) (Or.inl ⟨by rfl, ?_⟩) ?_; rotate_left; (focus (intro w; go_simp; try with_reducible rfl)); go_simp; refine wpAny_take (i := 9) (v := ?_) rfl (by kernel_rfl) (by kernel_rfl) (by kernel_rfl) (fun _ _ _ h => h) (Or.inl ⟨by rfl, ?_⟩) ?_; rotate_left; (focus (intro w; go_simp; try with_reducible rfl)); go_simp; refine wpAny_take (i := 10) (v := undef) rfl (by kernel_rfl) (by kernel_rfl) (by kernel_rfl) (fun _ _ _ h => h) (Or.inr ⟨by rfl, rfl⟩) ?_; go_simp; refine wpAny_take (i := 11) (v := undef) rfl (by kernel_rfl) (by kernel_rfl) (by kernel_rfl) (fun _ _ _ h => h) (Or.inr ⟨by rfl, rfl⟩) ?_; go_simp; refine wpAny_take (i := 12) (v := undef) rfl (by kernel_rfl) (by kernel_rfl) (by kernel_rfl) (fun _ _ _ h => h) (Or.inr ⟨by rfl, rfl⟩) ?_; go_simp; refine wpAny_take (i := 13) (v := undef) rfl (by kernel_rfl) (by kernel_rfl) (by kernel_rfl) (fun _ _ _ h => h) (Or.inr ⟨by rfl, rfl⟩) ?_; go_simp; refine wpAny_take (i := 14) (v := undef) rfl (by kernel_rfl) (by kernel_rfl) (by kernel_rfl) (fun _ _ _ h => h) (Or.inr ⟨by rfl, rfl⟩) ?_; go_simp; refine wpAny_take (i := 15) (v := undef) rfl (by kernel_rfl) (by kernel_rfl) (by kernel_rfl) (fun _ _ _ h => h) (Or.inr ⟨by rfl, rfl⟩) ?_; go_simp; refine wpAny_take (i := 16) (v := undef) rfl (by kernel_rfl) (by kernel_rfl) (by kernel_rfl) (fun _ _ _ h => h) (Or.inr ⟨by rfl, rfl⟩) ?_; go_simp; refine wpAny_take (i := 17) (v := undef) rfl (by kernel_rfl) (by kernel_rfl) (by kernel_rfl) (fun _ _ _ h => h) (Or.inr ⟨by rfl, rfl⟩) ?_; go_simp; refine wpAny_take (i := 18) (v := undef) rfl (by kernel_rfl) (by kernel_rfl) (by kernel_rfl) (fun _ _ _ h => h) (Or.inr ⟨by rfl, rfl⟩) ?_; go_simp; refine wpAny_take (i := 19) (v := undef) rfl (by kernel_rfl) (by kernel_rfl) (by kernel_rfl) (fun _ _ _ h => h) (Or.inr ⟨by rfl, rfl⟩) ?_; go_simp; refine wpAny_take (i := 20) (v := undef) rfl (by kernel_rfl) (by kernel_rfl) (by kernel_rfl) (fun _ _ _ h => h) (Or.inr ⟨by rfl, rfl⟩) ?_; go_simp; refine wpAny_take (i := 21) (v := undef) rfl (by kernel_rfl) (by kernel_rfl) (by kernel_rfl) (fun _ _ _ h => h) (Or.inr ⟨by rfl, rfl⟩) ?_; go_simp; refine wpAny_take (i := 22) (v := undef) rfl (by kernel_rfl) (by kernel_rfl) (by kernel_rfl) (fun _ _ _ h => h) (Or.inr ⟨by rfl, rfl⟩) ?_; go_simp; refine wpAny_take (i := 23) (v := undef) rfl (by kernel_rfl) (by kernel_rfl) (by kernel_rfl) (fun _ _ _ h => h) (Or.inr ⟨by rfl, rfl⟩) ?_; go_simp; refine wpAny_take (i := 24) (v := ?_) rfl (by kernel_rfl) (by kernel_rfl) (by kernel_rfl) (fun _ _ _ h => h) (Or.inl ⟨by rfl, ?_⟩) ?_; rotate_left; (focus (intro w; go_simp; try with_reducible rfl)); go_simp; refine wpAny_take (i := 25) (v := ?_) rfl (by kernel_rfl) (by kernel_rfl) (by kernel_rfl) (fun _ _ _ h => h) (Or.inl ⟨by rfl, ?_⟩) ?_; rotate_left; (focus (intro w; go_simp; try with_reducible rfl)); go_simp; refine wpAny_take (i := 26) (v := undef) rfl (by kernel_rfl) (by kernel_rfl) (by kernel_rfl) (fun _ _ _ h => h) (Or.inr ⟨by rfl, rfl⟩) ?_; go_simp; refine wpAny_take (i := 27) (v := undef) rfl (by kernel_rfl) (by kernel_rfl) (by kernel_rfl) (fun _ _ _ h => h) (Or.inr ⟨by rfl, rfl⟩) ?_; go_simp; refine wpAny_take (i := 28) (v := undef) rfl (by kernel_rfl) (by kernel_rfl) (by kernel_rfl) (fun _ _ _ h => h) (Or.inr ⟨by rfl, rfl⟩) ?_; go_simp; refine wpAny_take (i := 29) (v := undef) rfl (by kernel_rfl) (by kernel_rfl) (by kernel_rfl) (fun _ _ _ h => h) (Or.inr ⟨by rfl, rfl⟩) ?_; go_simp; refine wpAny_take (i := 30) (v := undef) rfl (by kernel_rfl) (by kernel_rfl) (by kernel_rfl) (fun _ _ _ h => h) (Or.inr ⟨by rfl, rfl⟩) ?_; go_simp; refine wpAny_take (i := 31) (v := undef) rfl (by kernel_rfl) (by kernel_rfl) (by kernel_rfl) (fun _ _ _ h => h) (Or.inr ⟨by rfl, rfl⟩) ?_; go_simp; refine wpAny_take (i := 32) (v := undef) rfl (by kernel_rfl) (by kernel_rfl) (by kernel_rfl) (fun _ _ _ h => h) (Or.inr ⟨by rfl, rfl⟩) ?_; go_simp; refine wpAny_take (i := 33) (v := undef) rfl (by kernel_rfl) (by kernel_rfl) (by kernel_rfl) (fun _ _ _ h => h) (Or.inr ⟨by rfl, rfl⟩) ?_; go_simp; refine wpAny_take (i := 34) (v := undef) rfl (by kernel_rfl) (by kernel_rfl) (by kernel_rfl) (fun _ _ _ h => h) (Or.inr ⟨by rfl, rfl⟩) ?_; go_simp; refine wpAny_take (i := 35) (v := undef) rfl (by kernel_rfl) (by kernel_rfl) (by kernel_rfl) (fun _ _ _ h => h) (Or.inr ⟨by rfl, rfl⟩) ?_; go_simp; refine wpAny_take (i := 36) (v := undef) rfl (by kernel_rfl) (by kernel_rfl) (by kernel_rfl) (fun _ _ _ h => h) (Or.inr ⟨by rfl, rfl⟩) ?_; go_simp; refine wpAny_take (i := 37) (v := undef) rfl (by kernel_rfl) (by kernel_rfl) (by kernel_rfl) (fun _ _ _ h => h) (Or.inr ⟨by rfl, rfl⟩) ?_; go_simp; refine wpAny_take (i := 38) (v := undef) rfl (by kernel_rfl) (by kernel_rfl) (by kernel_rfl) (fun _ _ _ h => h) (Or.inr ⟨by rfl, rfl⟩) ?_; go_simp; refine wpAny_take (i := 39) (v := undef) rfl (by kernel_rfl) (by kernel_rfl) (by kernel_rfl) (fun _ _ _ h => h) (Or.inr ⟨by rfl, rfl⟩) ?_; go_simp; refine wpAny_take (i := 40) (v := undef) rfl (by kernel_rfl) (by kernel_rfl) (by kernel_rfl) (fun _ _ _ h => h) (Or.inr ⟨by rfl, rfl⟩) ?_; go_simp; refine wpAny_take (i := 41) (v := undef) rfl (by kernel_rfl) (by kernel_rfl) (by kernel_rfl) (fun _ _ _ h => h) (Or.inr ⟨by rfl, rfl⟩) ?_; go_simp; refine wpAny_take (i := 42) (v := ?_) rfl (by kernel_rfl) (by kernel_rfl) (by kernel_rfl) (fun _ _ _ h => h) (Or.inl ⟨by rfl, ?_⟩) ?_; rotate_left; (focus (intro w; go_simp; try with_reducible rfl)); go_simp; refine wpAny_done (by kernel_rfl) ?_ _
         go_wp2
         go_ret
         exact ⟨by rw [HE.out]; rfl, HBW.out.trans ((bthen (bdrew0 w2) hw5).mono HBW.out.size)⟩
        ·have hx0 := HSZ.out.1 rfl
         have hyx := HYX.out rfl
         have hgd2 : Hid (GoodTo f a (a + 1)) := Lib.hid ⟨hgd.out.1, fun j hj => by
          by_cases hjb : j = a
          ·subst hjb
           rw [HBD.out, hyx]
           have e1 : ¬ x < 0 := (hnn.out rfl)
           simp [e1, hx0]
          ·exact hgd.out.2 j (by omega)⟩
         clear hyx hx0 b2 b4 hP2 hP4
         go_upto_region 14 with fail
         obtain ⟨b1q0, b1q1, b1q2⟩ := b1.c3; have c1 := b1.drew; have c1l := c1.lt; obtain ⟨b3q0, b3q1⟩ := b3.c2; have c3 := b3.drew; have c3l := c3.lt; have hc := bdrew0 w2; go_region_held3 (fun w' => w'.cell? ⟨g1, o1, none⟩ = some (.bool rg) ∧ w'.cell? ⟨g1, o1 + 1, none⟩ = some (.slice rA rl rc) ∧ w'.cell? ⟨g1, o1 + 2, none⟩ = some (.slice rA' rl' rc') ∧ w'.cell? ⟨g3, o3, none⟩ = some (.slice (some ad1) k cp1)) (go_keep) (first | (go_at_call 56; (with_reducible refine (HSG.out _ hc).mono ?_); rintro e w1 ⟨rfl, hw1⟩; have c1 := c1.below hw1 c1.lt; (try clear c1q0 c1q1 c1q2); obtain ⟨c1q0, c1q1, c1q2⟩ := c1.c3; (try clear c1l); have c1l := c1.lt; have c3 := c3.below hw1 c3.lt; (try clear c3q0 c3q1); obtain ⟨c3q0, c3q1⟩ := c3.c2; (try clear c3l); have c3l := c3.lt; have hc := bthen hc hw1) | (go_at_call 57; (with_reducible refine (HCX.out _ hc).mono ?_); rintro e w2 ⟨rfl, hw2⟩; have c1 := c1.below hw2 c1.lt; (try clear c1q0 c1q1 c1q2); obtain ⟨c1q0, c1q1, c1q2⟩ := c1.c3; (try clear c1l); have c1l := c1.lt; have c3 := c3.below hw2 c3.lt; (try clear c3q0 c3q1); obtain ⟨c3q0, c3q1⟩ := c3.c2; (try clear c3l); have c3l := c3.lt; have hc := bthen hc hw2))
         all_goals
          go_wp2
          exact ⟨⟨a + 1, by omega, by go_num, hgd2, HBW.out.trans (hc.mono HBW.out.size)⟩, by simp [intOf]; omega⟩
        ·skip
         have HE := Lib.hid (checkFar_bad hr64 HR.out (i := a) (k := a) (by omega) (by omega) (by rw [HBD.out]; simp [show ¬ x = 0 from fun e => absurd (HSZ.out.2 e) (by decide)]))
         go_upto_region 14 with fail
         obtain ⟨y0, -⟩ := b3.c2
         obtain ⟨x0, x1, x2⟩ := b1.c3
         simp only [] at x0 x1 x2
         have b1 := b1.drew
         have b3 := b3.drew
         clear b2 b4 HCM HCX HBD HSN HSZ HCZ hP2 hP4
         refine wp_region_any (by kernel_rfl) ?_; (try (change wpAny _ _ _ _ _ _ _ (World.drew _))); refine wpAny_take (i := 0) (v := ?_) rfl (by kernel_rfl) (by kernel_rfl) (by kernel_rfl) (fun _ _ _ h => h) (Or.inl ⟨by rfl, ?_⟩) ?_; rotate_left; (focus (intro w; go_simp; try with_reducible rfl)); go_simp; refine wpAny_take (i := 1) (v := ?_) rfl (by kernel_rfl) (by kernel_rfl) (by kernel_rfl) (fun _ _ _ h => h) (Or.inl ⟨by rfl, ?_⟩) ?_; rotate_left; (focus (intro w; go_simp; try with_reducible rfl)); go_simp; refine wpAny_take (i := 2) (v := ?_) rfl (by kernel_rfl) (by kernel_rfl) (by kernel_rfl) (fun _ _ _ h => h) (Or.inl ⟨by rfl, ?_⟩) ?_; rotate_left; (focus (intro w; go_simp; try with_reducible rfl)); go_simp; refine wpAny_take (i := 4) (v := ?_) rfl (by kernel_rfl) (by kernel_rfl) (by kernel_rfl) (fun _ _ _ h => h) (Or.inl ⟨by rfl, ?_⟩) ?_; rotate_left; (focus (intro w; go_simp; try with_reducible rfl)); go_simp; refine wpAny_ready (rs := [3]) (by kernel_rfl) (by simp) ?_; refine AllReady.cons rfl (fun K hK => ?_) AllReady.nil; go_simp; refine hK _ _ ?_; clear hK K; refine wpAny_take (i := 5) (v := ?_) rfl (by kernel_rfl) (by kernel_rfl) (by kernel_rfl) (fun _ _ _ h => h) (Or.inl ⟨by rfl, ?_⟩) ?_; rotate_left; (focus (intro w; go_simp; try with_reducible rfl)); go_simp; refine wpAny_ready (rs := [6]) (by kernel_rfl) (by simp) ?_; refine AllReady.cons rfl (fun K hK => ?_) AllReady.nil; go_simp; refine hK _ _ ?_; clear hK K; refine wpAny_ready (rs := [7]) (by kernel_rfl) (by simp) ?_; refine AllReady.cons rfl (fun K hK => ?_) AllReady.nil; go_simp; go_wp2_with (go_at_call 56; (with_reducible refine (HSG.out _ (bdrew0 w2)).mono ?_); rintro e w5 ⟨rfl, hw5⟩; have hc := bthen (bdrew0 w2) hw5; have b1 := b1.below hw5 b1.lt; have b3 := b3.below hw5 b3.lt; clear y0 x0 x1 x2; obtain ⟨y0, -⟩ := b3.c2; obtain ⟨x0, x1, x2⟩ := b1.c3); refine wpAny_take (i := 8) (v := ?_) rfl (by kernel_rfl) (by kernel_rfl) (by kernel_rfl) (fun _ _ _ h => h) (Or.inl ⟨by rfl, ?_⟩) ?_; rotate_left; (focus (intro w; go_simp; try with_reducible rfl)); go_simp; refine wpAny_take (i := 9) (v := ?_) rfl (by kernel_rfl) (by kernel_rfl) (by kernel_rfl) (fun _ _ _ h => h) (Or.inl ⟨by rfl, ?_⟩) ?_; rotate_left; (focus (intro w; go_simp; try with_reducible rfl)); go_simp; refine wpAny_take (i := 10) (v := ?_) rfl (by kernel_rfl) (by kernel_rfl) (by kernel_rfl) (fun _ _ _ h => h) (Or.inl ⟨by rfl, ?_⟩) ?_; rotate_left; (focus (intro w; go_simp; try with_reducible rfl)); go_simp; refine wpAny_take (i := 11) (v := ?_) rfl (by kernel_rfl) (by kernel_rfl) (by kernel_rfl) (fun _ _ _ h => h) (Or.inl ⟨by rfl, ?_⟩) ?_; rotate_left; (focus (intro w; go_simp; try with_reducible rfl)); go_simp; refine wpAny_take (i := 12) (v := ?_) rfl (by kernel_rfl) (by kernel_rfl) (by kernel_rfl) (fun _ _ _ h => h) (Or.inl ⟨by rfl, ?_⟩) ?_; rotate_left; (focus (intro w; go_simp; try with_reducible rfl)); go_simp; refine wpAny_take (i := 13) (v := ?_) rfl (by kernel_rfl) (by kernel_rfl) (by kernel_rfl) (fun _ _ _ h => h) (Or.inl ⟨by rfl, ?_⟩) ?_; rotate_left; (focus (intro w; go_simp; try with_reducible rfl)); go_simp; refine wpAny_take (i := 14) (v := ?_) rfl (by kernel_rfl) (by kernel_rfl) (by kernel_rfl) (fun _ _ _ h => h) (Or.inl ⟨by rfl, ?_⟩) ?_; rotate_left; (focus (intro w; go_simp; try with_reducible rfl)); go_simp; refine wpAny_take (i := 15) (v := ?_) rfl (by kernel_rfl) (by kernel_rfl) (by kernel_rfl) (fun _ _ _ h => h) (Or.inl ⟨by rfl, ?_⟩) ?_; rotate_left; (focus (intro w; go_simp; try with_reducible rfl)); go_simp; refine wpAny_take (i := 16) (v := ?_) rfl (by kernel_rfl) (by kernel_rfl) (by kernel_rfl) (fun _ _ _ h => h) (Or.inl ⟨by rfl, ?_⟩) ?_; rotate_left; (focus (intro w; go_simp; try with_reducible rfl)); go_simp; refine wpAny_take (i := 18) (v := ?_) rfl (by kernel_rfl) (by kernel_rfl) (by kernel_rfl) (fun _ _ _ h => h) (Or.inl ⟨by rfl, ?_⟩) ?_; rotate_left; (focus (intro w; go_simp; try with_reducible rfl)); go_simp; refine wpAny_ready (rs := [17]) (by kernel_rfl) (by simp) ?_; refine AllReady.cons rfl (fun K hK => ?_) AllReady.nil; go_simp; refine hK _ _ ?_; clear hK K; refine wpAny_take (i := 19) (v := ?_) rfl (by kernel_rfl) (by kernel_rfl) (by kernel_rfl) (fun _ _ _ h => h) (Or.inl ⟨by rfl, ?_⟩) ?_; rotate_left; (focus (intro w; go_simp; try with_reducible rfl)); go_simp; refine wpAny_ready (rs := [20]) (by kernel_rfl) (by simp) ?_; refine AllReady.cons rfl (fun K hK => ?_) AllReady.nil; go_simp; refine hK _ _ ?_; clear hK K; refine wpAny_ready (rs := [21]) (by kernel_rfl) (by simp) ?_; refine AllReady.cons rfl (fun K hK => ?_) AllReady.nil; go_simp; go_wp2_with (go_at_call 56; (with_reducible refine (HSG.out _ hc).mono ?_); rintro e w6 ⟨rfl, hw6⟩); refine wpAny_take (i := 22) (v := ?_) rfl (by kernel_rfl) (by kernel_rfl) (by kernel_rfl) (fun _ _ _ h => h) (Or.inl ⟨by rfl, ?_⟩) ?_; rotate_left; (focus (intro w; go_simp; try with_reducible rfl)); go_simp; refine wpAny_take (i := 23) (v := ?_) rfl (by kernel_rfl) (by kernel_rfl) (by kernel_rfl) (fun _ _ _ h => h) (Or.inl ⟨by rfl, ?_⟩) ?_; rotate_left; (focus (intro w; go_simp; try with_reducible rfl)); go_simp; refine wpAny_take (i := 24) (v := ?_) rfl (by kernel_rfl) (by kernel_rfl) (by kernel_rfl) (fun _ _ _ h => h) (Or.inl ⟨by rfl, ?_⟩) ?_; rotate_left; (focus (intro w; go_simp; try with_reducible rfl)); go_simp; refine wpAny_take (i := 25) (v := ?_) rfl (by kernel_rfl) (by kernel_rfl) (by kernel_rfl) (fun _ _ _ h => h) (Or.inl ⟨by rfl, ?_⟩) ?_; rotate_left; (focus (intro w; go_simp; try with_reducible rfl)); go_simp; refine wpAny_take (i := 26) (v := undef) rfl (by kernel_rfl) (by kernel_rfl) (by kernel_rfl) (fun _ _ _ h => h) (Or.inr ⟨by rfl, rfl⟩) ?_; go_simp; refine wpAny_take (i := 27) (v := undef) rfl (by kernel_rfl) (by kernel_rfl) (by kernel_rfl) (fun _ _ _ h => h) (Or.inr ⟨by rfl, rfl⟩) ?_; go_simp; refine wpAny_take (i := 28) (v := undef) rfl (by kernel_rfl) (by kernel_rfl) (by kernel_rfl) (fun _ _ _ h => h) (Or.inr ⟨by rfl, rfl⟩) ?_; go_simp; refine wpAny_take (i := 29) (v := undef) rfl (by kernel_rfl) (by kernel_rfl) (by kernel_rfl) (fun _ _ _ h => h) (Or.inr ⟨by rfl, rfl⟩) ?_; go_simp; refine wpAny_take (i := 30) (v := undef) rfl (by kernel_rfl) (by kernel_rfl) (by kernel_rfl) (fun _ _ _ h => h) (Or.inr ⟨by rfl, rfl⟩) ?_; go_simp; refine wpAny_take (i := 31) (v := undef) rfl (by kernel_rfl) (by kernel_rfl) (by kernel_rfl) (fun _ _ _ h => h) (Or.inr ⟨by rfl, rfl⟩) ?_; go_simp; refine wpAny_take (i := 32) (v := undef) rfl (by kernel_rfl) (by kernel_rfl) (by kernel_rfl) (fun _ _ _ h => h) (Or.inr ⟨by rfl, rfl⟩) ?_; go_simp; refine wpAny_take (i := 33) (v := undef) rfl (by kernel_rfl) (by kernel_rfl) (by kernel_rfl) (fun _ _ _ h => h) (Or.inr ⟨by rfl, rfl⟩) ?_; go_simp; refine wpAny_take (i := 34) (v := undef) rfl (by kernel_rfl) (by kernel_rfl) (by kernel_rfl) (fun _ _ _ h => h) (Or.inr ⟨by rfl, rfl⟩) ?_; go_simp; refine wpAny_take (i := 35) (v := undef) rfl (by kernel_rfl) (by kernel_rfl) (by kernel_rfl) (fun _ _ _ h => h) (Or.inr ⟨by rfl, rfl⟩) ?_; go_simp; refine wpAny_take (i := 36) (v := undef) rfl (by kernel_rfl) (by kernel_rfl) (by kernel_rfl) (fun _ _ _ h => h) (Or.inr ⟨by rfl, rfl⟩) ?_; go_simp; refine wpAny_take (i := 37) (v := undef) rfl (by kernel_rfl) (by kernel_rfl) (by kernel_rfl) (fun _ _ _ h => h) (Or.inr ⟨by rfl, rfl⟩) ?_; go_simp; refine wpAny_take (i := 38) (v := undef) rfl (by kernel_rfl) (by kernel_rfl) (by kernel_rfl) (fun _ _ _ h => h) (Or.inr ⟨by rfl, rfl⟩) ?_; go_simp; refine wpAny_take (i := 39) (v := undef) rfl (by kernel_rfl) (by kernel_rfl) (by kernel_rfl) (fun _ _ _ h => h) (Or.inr ⟨by rfl, rfl⟩) ?_; go_simp; refine wpAny_take (i := 40) (v := undef) rfl (by kernel_rfl) (by kernel_rfl) (by kernel_rfl) (fun _ _ _ h => h) (Or.inr ⟨by rfl, rfl⟩) ?_; go_simp; refine wpAny_take (i := 41) (v := undef) rfl (by kernel_rfl) (by kernel_rfl) (by kernel_rfl) (fun _ _ _ h => h) (Or.inr ⟨by rfl, rfl⟩) ?_; go_simp; refine wpAny_take (i := 42) (v := ?_) rfl (by kernel_rfl) (by kernel_rfl) (by kernel_rfl) (fun _ _ _ h => h) (Or.inl ⟨by rfl, ?_⟩) ?_; rotate_left; (focus (intro w; go_simp; try with_reducible rfl)); go_simp; refine wpAny_done (by kernel_rfl) ?_ _
         go_wp2
         go_ret
         exact ⟨by rw [HE.out]; rfl, HBW.out.trans ((bthen hc hw6).mono HBW.out.size)⟩
       ·have q2 : ¬ (a : Int) = (b : Int) := by omega
        have q4 : ((a : Int) == (b : Int)) = false := by simp; omega
        have q4' : (a == b) = false := beq_eq_false_iff_ne.2 hab
        by_cases hneg : sg = -1
        ·subst hneg
         have HE := Lib.hid (checkFar_bad hr64 HR.out (i := a) (k := b) (by omega) (by omega) (by rw [HBD.out]; simp [HSN.out.1 (by decide)]))
         go_upto_region 14 with fail
         obtain ⟨y0, -⟩ := b3.c2
         obtain ⟨x0, x1, x2⟩ := b1.c3
         simp only [] at x0 x1 x2
         clear b1 b2 b3 b4 HCM HBD HSN HSZ HCZ hP2 hP4
         refine wp_region_any (by kernel_rfl) ?_; (try (change wpAny _ _ _ _ _ _ _ (World.drew _))); refine wpAny_take (i := 0) (v := ?_) rfl (by kernel_rfl) (by kernel_rfl) (by kernel_rfl) (fun _ _ _ h => h) (Or.inl ⟨by rfl, ?_⟩) ?_; rotate_left; (focus (intro w; go_simp; try with_reducible rfl)); go_simp; refine wpAny_take (i := 1) (v := ?_) rfl (by kernel_rfl) (by kernel_rfl) (by kernel_rfl) (fun _ _ _ h => h) (Or.inl ⟨by rfl, ?_⟩) ?_; rotate_left; (focus (intro w; go_simp; try with_reducible rfl)); go_simp; refine wpAny_take (i := 2) (v := ?_) rfl (by kernel_rfl) (by kernel_rfl) (by kernel_rfl) (fun _ _ _ h => h) (Or.inl ⟨by rfl, ?_⟩) ?_; rotate_left; (focus (intro w; go_simp; try with_reducible rfl)); go_simp; refine wpAny_take (i := 4) (v := ?_) rfl (by kernel_rfl) (by kernel_rfl) (by kernel_rfl) (fun _ _ _ h => h) (Or.inl ⟨by rfl, ?_⟩) ?_; rotate_left; (focus (intro w; go_simp; try with_reducible rfl)); go_simp; refine wpAny_ready (rs := [3]) (by kernel_rfl) (by simp) ?_; refine AllReady.cons rfl (fun K hK => ?_) AllReady.nil; go_simp; refine hK _ _ ?_; clear hK K; refine wpAny_take (i := 5) (v := ?_) rfl (by kernel_rfl) (by kernel_rfl) (by kernel_rfl) (fun _ _ _ h => h) (Or.inl ⟨by rfl, ?_⟩) ?_; rotate_left; (focus (intro w; go_simp; try with_reducible rfl)); go_simp; refine wpAny_ready (rs := [6]) (by kernel_rfl) (by simp) ?_; refine AllReady.cons rfl (fun K hK => ?_) AllReady.nil; go_simp; refine hK _ _ ?_; clear hK K; refine wpAny_ready (rs := [7]) (by kernel_rfl) (by simp) ?_; refine AllReady.cons rfl (fun K hK => ?_) AllReady.nil; go_simp; go_wp2_with (go_at_call 56; (with_reducible refine (HSG.out _ (bdrew0 w2)).mono ?_); rintro e w5 ⟨rfl, hw5⟩); refine wpAny_take (i := 8) (v := ?_) rfl (by kernel_rfl) (by kernel_rfl) (by kernel_rfl) (fun _ _ _ h => h) (Or.inl ⟨by rfl, ?_⟩) ?_; rotate_left; (focus (intro w; go_simp; try with_reducible rfl)); go_simp; refine wpAny_take (i := 9) (v := ?_) rfl (by kernel_rfl) (by kernel_rfl) (by kernel_rfl) (fun _ _ _ h => h) (Or.inl ⟨by rfl, ?_⟩) ?_; rotate_left; (focus (intro w; go_simp; try with_reducible rfl)); go_simp; refine wpAny_take (i := 10) (v := undef) rfl (by kernel_rfl) (by kernel_rfl) (by kernel_rfl) (fun _ _ _ h => h) (Or.inr ⟨by rfl, rfl⟩) ?_; go_simp; refine wpAny_take (i := 11) (v := undef) rfl (by kernel_rfl) (by kernel_rfl) (by kernel_rfl) (fun _ _ _ h => h) (Or.inr ⟨by rfl, rfl⟩) ?_; go_simp; refine wpAny_take (i := 12) (v := undef) rfl (by kernel_rfl) (by kernel_rfl) (by kernel_rfl) (fun _ _ _ h => h) (Or.inr ⟨by rfl, rfl⟩) ?_; go_simp; refine wpAny_take (i := 13) (v := undef) rfl (by kernel_rfl) (by kernel_rfl) (by kernel_rfl) (fun _ _ _ h => h) (Or.inr ⟨by rfl, rfl⟩) ?_; go_simp; refine wpAny_take (i := 14) (v := undef) rfl (by kernel_rfl) (by kernel_rfl) (by kernel_rfl) (fun _ _ _ h => h) (Or.inr ⟨by rfl, rfl⟩) ?_; go_simp; refine wpAny_take (i := 15) (v := undef) rfl (by kernel_rfl) (by kernel_rfl) (by kernel_rfl) (fun _ _ _ h => h) (Or.inr ⟨by rfl, rfl⟩) ?_; go_simp; refine wpAny_take (i := 16) (v := undef) rfl (by kernel_rfl) (by kernel_rfl) (by kernel_rfl) (fun _ _ _ h => h) (Or.inr ⟨by rfl, rfl⟩) ?_; go_simp; refine wpAny_take (i := 17) (v := undef) rfl (by kernel_rfl) (by kernel_rfl) (by kernel_rfl) (fun _ _ _ h => h) (Or.inr ⟨by rfl, rfl⟩) ?_; go_simp; refine wpAny_take (i := 18) (v := undef) rfl (by kernel_rfl) (by kernel_rfl) (by kernel_rfl) (fun _ _ _ h => h) (Or.inr ⟨by rfl, rfl⟩) ?_; go_simp; refine wpAny_take (i := 19) (v := undef) rfl (by kernel_rfl) (by kernel_rfl) (by kernel_rfl) (fun _ _ _ h => h) (Or.inr ⟨by rfl, rfl⟩) ?_; go_simp; refine wpAny_take (i := 20) (v := undef) rfl (by kernel_rfl) (by kernel_rfl) (by kernel_rfl) (fun _ _ _ h => h) (Or.inr ⟨by rfl, rfl⟩) ?_; go_simp; refine wpAny_take (i := 21) (v := undef) rfl (by kernel_rfl) (by kernel_rfl) (by kernel_rfl) (fun _ _ _ h => h) (Or.inr ⟨by rfl, rfl⟩) ?_; go_simp; refine wpAny_take (i := 22) (v := undef) rfl (by kernel_rfl) (by kernel_rfl) (by kernel_rfl) (fun _ _ _ h => h) (Or.inr ⟨by rfl, rfl⟩) ?_; go_simp; refine wpAny_take (i := 23) (v := undef) rfl (by kernel_rfl) (by kernel_rfl) (by kernel_rfl) (fun _ _ _ h => h) (Or.inr ⟨by rfl, rfl⟩) ?_; go_simp; refine wpAny_take (i := 24) (v := ?_) rfl (by kernel_rfl) (by kernel_rfl) (by kernel_rfl) (fun _ _ _ h => h) (Or.inl ⟨by rfl, ?_⟩) ?_; rotate_left; (focus (intro w; go_simp; try with_reducible rfl)); go_simp; refine wpAny_take (i := 25) (v := ?_) rfl (by kernel_rfl) (by kernel_rfl) (by kernel_rfl) (fun _ _ _ h => h) (Or.inl ⟨by rfl, ?_⟩) ?_; rotate_left; (focus (intro w; go_simp; try with_reducible rfl)); go_simp; refine wpAny_take (i := 26) (v := undef) rfl (by kernel_rfl) (by kernel_rfl) (by kernel_rfl) (fun _ _ _ h => h) (Or.inr ⟨by rfl, rfl⟩) ?_; go_simp; refine wpAny_take (i := 27) (v := undef) rfl (by kernel_rfl) (by kernel_rfl) (by kernel_rfl) (fun _ _ _ h => h) (Or.inr ⟨by rfl, rfl⟩) ?_; go_simp; refine wpAny_take (i := 28) (v := undef) rfl (by kernel_rfl) (by kernel_rfl) (by kernel_rfl) (fun _ _ _ h => h) (Or.inr ⟨by rfl, rfl⟩) ?_; go_simp; refine wpAny_take (i := 29) (v := undef) rfl (by kernel_rfl) (by kernel_rfl) (by kernel_rfl) (fun _ _ _ h => h) (Or.inr ⟨by rfl, rfl⟩) ?_; go_simp; refine wpAny_take (i := 30) (v := undef) rfl (by kernel_rfl) (by kernel_rfl) (by kernel_rfl) (fun _ _ _ h => h) (Or.inr ⟨by rfl, rfl⟩) ?_; go_simp; refine wpAny_take (i := 31) (v := undef) rfl (by kernel_rfl) (by kernel_rfl) (by kernel_rfl) (fun _ _ _ h => h) (Or.inr ⟨by rfl, rfl⟩) ?_; go_simp; refine wpAny_take (i := 32) (v := undef) rfl (by kernel_rfl) (by kernel_rfl) (by kernel_rfl) (fun _ _ _ h => h) (Or.inr ⟨by rfl, rfl⟩) ?_; go_simp; refine wpAny_take (i := 33) (v := undef) rfl (by kernel_rfl) (by kernel_rfl) (by kernel_rfl) (fun _ _ _ h => h) (Or.inr ⟨by rfl, rfl⟩) ?_; go_simp; refine wpAny_take (i := 34) (v := undef) rfl (by kernel_rfl) (by kernel_rfl) (by kernel_rfl) (fun _ _ _ h => h) (Or.inr ⟨by rfl, rfl⟩) ?_; go_simp; refine wpAny_take (i := 35) (v := undef) rfl (by kernel_rfl) (by kernel_rfl) (by kernel_rfl) (fun _ _ _ h => h) (Or.inr ⟨by rfl, rfl⟩) ?_; go_simp; refine wpAny_take (i := 36) (v := undef) rfl (by kernel_rfl) (by kernel_rfl) (by kernel_rfl) (fun _ _ _ h => h) (Or.inr ⟨by rfl, rfl⟩) ?_; go_simp; refine wpAny_take (i := 37) (v := undef) rfl (by kernel_rfl) (by kernel_rfl) (by kernel_rfl) (fun _ _ _ h => h) (Or.inr ⟨by rfl, rfl⟩) ?_; go_simp; refine wpAny_take (i := 38) (v := undef) rfl (by kernel_rfl) (by kernel_rfl) (by kernel_rfl) (fun _ _ _ h => h) (Or.inr ⟨by rfl, rfl⟩) ?_; go_simp; refine wpAny_take (i := 39) (v := undef) rfl (by kernel_rfl) (by kernel_rfl) (by kernel_rfl) (fun _ _ _ h => h) (Or.inr ⟨by rfl, rfl⟩) ?_; go_simp; refine wpAny_take (i := 40) (v := undef) rfl (by kernel_rfl) (by kernel_rfl) (by kernel_rfl) (fun _ _ _ h => h) (Or.inr ⟨by rfl, rfl⟩) ?_; go_simp; refine wpAny_take (i := 41) (v := undef) rfl (by kernel_rfl) (by kernel_rfl) (by kernel_rfl) (fun _ _ _ h => h) (Or.inr ⟨by rfl, rfl⟩) ?_; go_simp; refine wpAny_take (i := 42) (v := ?_) rfl (by kernel_rfl) (by kernel_rfl) (by kernel_rfl) (fun _ _ _ h => h) (Or.inl ⟨by rfl, ?_⟩) ?_; rotate_left; (focus (intro w; go_simp; try with_reducible rfl)); go_simp; refine wpAny_done (by kernel_rfl) ?_ _
         go_wp2
         go_ret
         exact ⟨by rw [HE.out]; rfl, HBW.out.trans ((bthen (bdrew0 w2) hw5).mono HBW.out.size)⟩
        ·have hng : ¬ sg < 0 := by omega
         have q1 : decide (sg < 0) = false := decide_eq_false hng
         have hnn : Hid (¬ x < 0) := Lib.hid fun e => hng (HSN.out.2 e)
         clear hs3
         go_upto_region 14 with fail
         go_cut [82] (fun v wc => v = .bool (cv != 0) ∧ Below w2.heap.size w2 wc)
         case first =>
          have c1 := b1
          have c2 := b2
          have c3 := b3
          have c4 := b4
          obtain ⟨y0, -⟩ := b3.c2
          obtain ⟨x0, x1, x2⟩ := b1.c3
          simp only [] at x0 x1 x2
          clear b1 b2 b3 b4
          refine wp_region_any (by kernel_rfl) ?_; (try (change wpAny _ _ _ _ _ _ _ (World.drew _))); refine wpAny_take (i := 0) (v := ?_) rfl (by kernel_rfl) (by kernel_rfl) (by kernel_rfl) (fun _ _ _ h => h) (Or.inl ⟨by rfl, ?_⟩) ?_; rotate_left; (focus (intro w; go_simp; try with_reducible rfl)); go_simp; refine wpAny_take (i := 1) (v := ?_) rfl (by kernel_rfl) (by kernel_rfl) (by kernel_rfl) (fun _ _ _ h => h) (Or.inl ⟨by rfl, ?_⟩) ?_; rotate_left; (focus (intro w; go_simp; try with_reducible rfl)); go_simp; refine wpAny_take (i := 2) (v := ?_) rfl (by kernel_rfl) (by kernel_rfl) (by kernel_rfl) (fun _ _ _ h => h) (Or.inl ⟨by rfl, ?_⟩) ?_; rotate_left; (focus (intro w; go_simp; try with_reducible rfl)); go_simp; refine wpAny_take (i := 4) (v := ?_) rfl (by kernel_rfl) (by kernel_rfl) (by kernel_rfl) (fun _ _ _ h => h) (Or.inl ⟨by rfl, ?_⟩) ?_; rotate_left; (focus (intro w; go_simp; try with_reducible rfl)); go_simp; refine wpAny_ready (rs := [3]) (by kernel_rfl) (by simp) ?_; refine AllReady.cons rfl (fun K hK => ?_) AllReady.nil; go_simp; refine hK _ _ ?_; clear hK K; refine wpAny_take (i := 5) (v := ?_) rfl (by kernel_rfl) (by kernel_rfl) (by kernel_rfl) (fun _ _ _ h => h) (Or.inl ⟨by rfl, ?_⟩) ?_; rotate_left; (focus (intro w; go_simp; try with_reducible rfl)); go_simp; refine wpAny_ready (rs := [6]) (by kernel_rfl) (by simp) ?_; refine AllReady.cons rfl (fun K hK => ?_) AllReady.nil; go_simp; refine hK _ _ ?_; clear hK K; refine wpAny_ready (rs := [7]) (by kernel_rfl) (by simp) ?_; refine AllReady.cons rfl (fun K hK => ?_) AllReady.nil; go_simp; go_wp2_with (go_at_call 56; (with_reducible refine (HSG.out _ (bdrew0 w2)).mono ?_); rintro e w5 ⟨rfl, hw5⟩; have hc := bthen (bdrew0 w2) hw5; have c1 := c1.drew.below hw5 c1.drew.lt; have c2 := c2.drew.below hw5 c2.drew.lt; have c3 := c3.drew.below hw5 c3.drew.lt; have c4 := c4.drew.below hw5 c4.drew.lt; clear y0 x0 x1 x2; obtain ⟨y0, -⟩ := c3.c2; obtain ⟨z0, -⟩ := c4.c2; obtain ⟨x0, x1, x2⟩ := c1.c3; obtain ⟨v0, v1, v2⟩ := c2.c3; simp only [] at x0 x1 x2 v0 v1 v2); refine wpAny_take (i := 8) (v := ?_) rfl (by kernel_rfl) (by kernel_rfl) (by kernel_rfl) (fun _ _ _ h => h) (Or.inl ⟨by rfl, ?_⟩) ?_; rotate_left; (focus (intro w; go_simp; try with_reducible rfl)); go_simp; refine wpAny_take (i := 9) (v := ?_) rfl (by kernel_rfl) (by kernel_rfl) (by kernel_rfl) (fun _ _ _ h => h) (Or.inl ⟨by rfl, ?_⟩) ?_; rotate_left; (focus (intro w; go_simp; try with_reducible rfl)); go_simp; refine wpAny_take (i := 10) (v := ?_) rfl (by kernel_rfl) (by kernel_rfl) (by kernel_rfl) (fun _ _ _ h => h) (Or.inl ⟨by rfl, ?_⟩) ?_; rotate_left; (focus (intro w; go_simp; try with_reducible rfl)); go_simp; refine wpAny_take (i := 11) (v := ?_) rfl (by kernel_rfl) (by kernel_rfl) (by kernel_rfl) (fun _ _ _ h => h) (Or.inl ⟨by rfl, ?_⟩) ?_; rotate_left; (focus (intro w; go_simp; try with_reducible rfl)); go_simp; refine wpAny_take (i := 12) (v := ?_) rfl (by kernel_rfl) (by kernel_rfl) (by kernel_rfl) (fun _ _ _ h => h) (Or.inl ⟨by rfl, ?_⟩) ?_; rotate_left; (focus (intro w; go_simp; try with_reducible rfl)); go_simp; refine wpAny_take (i := 13) (v := ?_) rfl (by kernel_rfl) (by kernel_rfl) (by kernel_rfl) (fun _ _ _ h => h) (Or.inl ⟨by rfl, ?_⟩) ?_; rotate_left; (focus (intro w; go_simp; try with_reducible rfl)); go_simp; refine wpAny_take (i := 14) (v := undef) rfl (by kernel_rfl) (by kernel_rfl) (by kernel_rfl) (fun _ _ _ h => h) (Or.inr ⟨by rfl, rfl⟩) ?_; go_simp; refine wpAny_take (i := 15) (v := undef) rfl (by kernel_rfl) (by kernel_rfl) (by kernel_rfl) (fun _ _ _ h => h) (Or.inr ⟨by rfl, rfl⟩) ?_; go_simp; refine wpAny_take (i := 16) (v := undef) rfl (by kernel_rfl) (by kernel_rfl) (by kernel_rfl) (fun _ _ _ h => h) (Or.inr ⟨by rfl, rfl⟩) ?_; go_simp; refine wpAny_take (i := 17) (v := undef) rfl (by kernel_rfl) (by kernel_rfl) (by kernel_rfl) (fun _ _ _ h => h) (Or.inr ⟨by rfl, rfl⟩) ?_; go_simp; refine wpAny_take (i := 18) (v := undef) rfl (by kernel_rfl) (by kernel_rfl) (by kernel_rfl) (fun _ _ _ h => h) (Or.inr ⟨by rfl, rfl⟩) ?_; go_simp; refine wpAny_take (i := 19) (v := undef) rfl (by kernel_rfl) (by kernel_rfl) (by kernel_rfl) (fun _ _ _ h => h) (Or.inr ⟨by rfl, rfl⟩) ?_; go_simp; refine wpAny_take (i := 20) (v := undef) rfl (by kernel_rfl) (by kernel_rfl) (by kernel_rfl) (fun _ _ _ h => h) (Or.inr ⟨by rfl, rfl⟩) ?_; go_simp; refine wpAny_take (i := 21) (v := undef) rfl (by kernel_rfl) (by kernel_rfl) (by kernel_rfl) (fun _ _ _ h => h) (Or.inr ⟨by rfl, rfl⟩) ?_; go_simp; refine wpAny_take (i := 22) (v := undef) rfl (by kernel_rfl) (by kernel_rfl) (by kernel_rfl) (fun _ _ _ h => h) (Or.inr ⟨by rfl, rfl⟩) ?_; go_simp; refine wpAny_take (i := 23) (v := ?_) rfl (by kernel_rfl) (by kernel_rfl) (by kernel_rfl) (fun _ _ _ h => h) (Or.inl ⟨by rfl, ?_⟩) ?_; rotate_left; (focus (intro w; go_simp; try with_reducible rfl)); go_simp; refine wpAny_take (i := 24) (v := ?_) rfl (by kernel_rfl) (by kernel_rfl) (by kernel_rfl) (fun _ _ _ h => h) (Or.inl ⟨by rfl, ?_⟩) ?_; rotate_left; (focus (intro w; go_simp; try with_reducible rfl)); go_simp; refine wpAny_take (i := 25) (v := ?_) rfl (by kernel_rfl) (by kernel_rfl) (by kernel_rfl) (fun _ _ _ h => h) (Or.inl ⟨by rfl, ?_⟩) ?_; rotate_left; (focus (intro w; go_simp; try with_reducible rfl)); go_simp; refine wpAny_take (i := 26) (v := ?_) rfl (by kernel_rfl) (by kernel_rfl) (by kernel_rfl) (fun _ _ _ h => h) (Or.inl ⟨by rfl, ?_⟩) ?_; rotate_left; (focus (intro w; go_simp; try with_reducible rfl)); go_simp; refine wpAny_take (i := 27) (v := ?_) rfl (by kernel_rfl) (by kernel_rfl) (by kernel_rfl) (fun _ _ _ h => h) (Or.inl ⟨by rfl, ?_⟩) ?_; rotate_left; (focus (intro w; go_simp; try with_reducible rfl)); go_simp; refine wpAny_take (i := 28) (v := ?_) rfl (by kernel_rfl) (by kernel_rfl) (by kernel_rfl) (fun _ _ _ h => h) (Or.inl ⟨by rfl, ?_⟩) ?_; rotate_left; (focus (intro w; go_simp; try with_reducible rfl)); go_simp; refine wpAny_take (i := 30) (v := ?_) rfl (by kernel_rfl) (by kernel_rfl) (by kernel_rfl) (fun _ _ _ h => h) (Or.inl ⟨by rfl, ?_⟩) ?_; rotate_left; (focus (intro w; go_simp; try with_reducible rfl)); go_simp; refine wpAny_take (i := 33) (v := ?_) rfl (by kernel_rfl) (by kernel_rfl) (by kernel_rfl) (fun _ _ _ h => h) (Or.inl ⟨by rfl, ?_⟩) ?_; rotate_left; (focus (intro w; go_simp; try with_reducible rfl)); go_simp; refine wpAny_take (i := 34) (v := ?_) rfl (by kernel_rfl) (by kernel_rfl) (by kernel_rfl) (fun _ _ _ h => h) (Or.inl ⟨by rfl, ?_⟩) ?_; rotate_left; (focus (intro w; go_simp; try with_reducible rfl)); go_simp; refine wpAny_take (i := 35) (v := ?_) rfl (by kernel_rfl) (by kernel_rfl) (by kernel_rfl) (fun _ _ _ h => h) (Or.inl ⟨by rfl, ?_⟩) ?_; rotate_left; (focus (intro w; go_simp; try with_reducible rfl)); go_simp; refine wpAny_take (i := 37) (v := ?_) rfl (by kernel_rfl) (by kernel_rfl) (by kernel_rfl) (fun _ _ _ h => h) (Or.inl ⟨by rfl, ?_⟩) ?_; rotate_left; (focus (intro w; go_simp; try with_reducible rfl)); go_simp; refine wpAny_ready (rs := [29, 36]) (by kernel_rfl) (by simp) ?_; refine AllReady.cons rfl (fun K hK => ?_) (AllReady.cons rfl (fun K hK => ?_) AllReady.nil); (focus (go_simp; refine hK _ _ ?_; clear hK K; refine wpAny_take (i := 31) (v := ?_) rfl (by kernel_rfl) (by kernel_rfl) (by kernel_rfl) (fun _ _ _ h => h) (Or.inl ⟨by rfl, ?_⟩) ?_; rotate_left; (focus (intro w; go_simp; try with_reducible rfl)); go_simp; refine wpAny_ready (rs := [32, 36]) (by kernel_rfl) (by simp) ?_; refine AllReady.cons rfl (fun K hK => ?_) (AllReady.cons rfl (fun K hK => ?_) AllReady.nil); (focus (go_simp; refine hK _ _ ?_; clear hK K; refine wpAny_ready (rs := [36]) (by kernel_rfl) (by simp) ?_; refine AllReady.cons rfl (fun K hK => ?_) AllReady.nil; go_simp; refine hK _ _ ?_; clear hK K; refine wpAny_take (i := 38) (v := ?_) rfl (by kernel_rfl) (by kernel_rfl) (by kernel_rfl) (fun _ _ _ h => h) (Or.inl ⟨by rfl, ?_⟩) ?_; rotate_left; (focus (intro w; go_simp; try with_reducible rfl)); go_simp; refine wpAny_ready (rs := [39]) (by kernel_rfl) (by simp) ?_; refine AllReady.cons rfl (fun K hK => ?_) AllReady.nil; go_simp; refine hK _ _ ?_; clear hK K; refine wpAny_ready (rs := [40]) (by kernel_rfl) (by simp) ?_; refine AllReady.cons rfl (fun K hK => ?_) AllReady.nil; go_simp; go_wp2_with (go_at_call 57; (with_reducible refine (HCM.out _ hc).mono ?_); rintro e w6 ⟨rfl, hw6⟩; have hc := bthen hc hw6); refine wpAny_take (i := 41) (v := ?_) rfl (by kernel_rfl) (by kernel_rfl) (by kernel_rfl) (fun _ _ _ h => h) (Or.inl ⟨by rfl, ?_⟩) ?_; rotate_left; (focus (intro w; go_simp; try with_reducible rfl)); go_simp; refine wpAny_take (i := 42) (v := ?_) rfl (by kernel_rfl) (by kernel_rfl) (by kernel_rfl) (fun _ _ _ h => h) (Or.inl ⟨by rfl, ?_⟩) ?_; rotate_left; (focus (intro w; go_simp; try with_reducible rfl)); go_simp; refine wpAny_done (by kernel_rfl) ?_ _; go_wp2; go_meet; exact ⟨by first | rfl | trivial, hc⟩)); (focus (go_simp; refine hK _ _ ?_; clear hK K; refine wpAny_take (i := 38) (v := ?_) rfl (by kernel_rfl) (by kernel_rfl) (by kernel_rfl) (fun _ _ _ h => h) (Or.inl ⟨by rfl, ?_⟩) ?_; rotate_left; (focus (intro w; go_simp; try with_reducible rfl)); go_simp; refine wpAny_ready (rs := [32, 39]) (by kernel_rfl) (by simp) ?_; refine AllReady.cons rfl (fun K hK => ?_) (AllReady.cons rfl (fun K hK => ?_) AllReady.nil); (focus (go_simp; refine hK _ _ ?_; clear hK K; refine wpAny_ready (rs := [39]) (by kernel_rfl) (by simp) ?_; refine AllReady.cons rfl (fun K hK => ?_) AllReady.nil; go_simp; refine hK _ _ ?_; clear hK K; refine wpAny_ready (rs := [40]) (by kernel_rfl) (by simp) ?_; refine AllReady.cons rfl (fun K hK => ?_) AllReady.nil; go_simp; go_wp2_with (go_at_call 57; (with_reducible refine (HCM.out _ hc).mono ?_); rintro e w6 ⟨rfl, hw6⟩; have hc := bthen hc hw6); refine wpAny_take (i := 41) (v := ?_) rfl (by kernel_rfl) (by kernel_rfl) (by kernel_rfl) (fun _ _ _ h => h) (Or.inl ⟨by rfl, ?_⟩) ?_; rotate_left; (focus (intro w; go_simp; try with_reducible rfl)); go_simp; refine wpAny_take (i := 42) (v := ?_) rfl (by kernel_rfl) (by kernel_rfl) (by kernel_rfl) (fun _ _ _ h => h) (Or.inl ⟨by rfl, ?_⟩) ?_; rotate_left; (focus (intro w; go_simp; try with_reducible rfl)); go_simp; refine wpAny_done (by kernel_rfl) ?_ _; go_wp2; go_meet; exact ⟨by first | rfl | trivial, hc⟩)); (focus (go_simp; refine hK _ _ ?_; clear hK K; refine wpAny_ready (rs := [32]) (by kernel_rfl) (by simp) ?_; refine AllReady.cons rfl (fun K hK => ?_) AllReady.nil; go_simp; refine hK _ _ ?_; clear hK K; refine wpAny_ready (rs := [40]) (by kernel_rfl) (by simp) ?_; refine AllReady.cons rfl (fun K hK => ?_) AllReady.nil; go_simp; go_wp2_with (go_at_call 57; (with_reducible refine (HCM.out _ hc).mono ?_); rintro e w6 ⟨rfl, hw6⟩; have hc := bthen hc hw6); refine wpAny_take (i := 41) (v := ?_) rfl (by kernel_rfl) (by kernel_rfl) (by kernel_rfl) (fun _ _ _ h => h) (Or.inl ⟨by rfl, ?_⟩) ?_; rotate_left; (focus (intro w; go_simp; try with_reducible rfl)); go_simp; refine wpAny_take (i := 42) (v := ?_) rfl (by kernel_rfl) (by kernel_rfl) (by kernel_rfl) (fun _ _ _ h => h) (Or.inl ⟨by rfl, ?_⟩) ?_; rotate_left; (focus (intro w; go_simp; try with_reducible rfl)); go_simp; refine wpAny_done (by kernel_rfl) ?_ _; go_wp2; go_meet; exact ⟨by first | rfl | trivial, hc⟩)))))); (focus (go_simp; refine hK _ _ ?_; clear hK K; refine wpAny_take (i := 38) (v := ?_) rfl (by kernel_rfl) (by kernel_rfl) (by kernel_rfl) (fun _ _ _ h => h) (Or.inl ⟨by rfl, ?_⟩) ?_; rotate_left; (focus (intro w; go_simp; try with_reducible rfl)); go_simp; refine wpAny_ready (rs := [29, 39]) (by kernel_rfl) (by simp) ?_; refine AllReady.cons rfl (fun K hK => ?_) (AllReady.cons rfl (fun K hK => ?_) AllReady.nil); (focus (go_simp; refine hK _ _ ?_; clear hK K; refine wpAny_take (i := 31) (v := ?_) rfl (by kernel_rfl) (by kernel_rfl) (by kernel_rfl) (fun _ _ _ h => h) (Or.inl ⟨by rfl, ?_⟩) ?_; rotate_left; (focus (intro w; go_simp; try with_reducible rfl)); go_simp; refine wpAny_ready (rs := [32, 39]) (by kernel_rfl) (by simp) ?_; refine AllReady.cons rfl (fun K hK => ?_) (AllReady.cons rfl (fun K hK => ?_) AllReady.nil); (focus (go_simp; refine hK _ _ ?_; clear hK K; refine wpAny_ready (rs := [39]) (by kernel_rfl) (by simp) ?_; refine AllReady.cons rfl (fun K hK => ?_) AllReady.nil; go_simp; refine hK _ _ ?_; clear hK K; refine wpAny_ready (rs := [40]) (by kernel_rfl) (by simp) ?_; refine AllReady.cons rfl (fun K hK => ?_) AllReady.nil; go_simp; go_wp2_with (go_at_call 57; (with_reducible refine (HCM.out _ hc).mono ?_); rintro e w6 ⟨rfl, hw6⟩; have hc := bthen hc hw6); refine wpAny_take (i := 41) (v := ?_) rfl (by kernel_rfl) (by kernel_rfl) (by kernel_rfl) (fun _ _ _ h => h) (Or.inl ⟨by rfl, ?_⟩) ?_; rotate_left; (focus (intro w; go_simp; try with_reducible rfl)); go_simp; refine wpAny_take (i := 42) (v := ?_) rfl (by kernel_rfl) (by kernel_rfl) (by kernel_rfl) (fun _ _ _ h => h) (Or.inl ⟨by rfl, ?_⟩) ?_; rotate_left; (focus (intro w; go_simp; try with_reducible rfl)); go_simp; refine wpAny_done (by kernel_rfl) ?_ _; go_wp2; go_meet; exact ⟨by first | rfl | trivial, hc⟩)); (focus (go_simp; refine hK _ _ ?_; clear hK K; refine wpAny_ready (rs := [32]) (by kernel_rfl) (by simp) ?_; refine AllReady.cons rfl (fun K hK => ?_) AllReady.nil; go_simp; refine hK _ _ ?_; clear hK K; refine wpAny_ready (rs := [40]) (by kernel_rfl) (by simp) ?_; refine AllReady.cons rfl (fun K hK => ?_) AllReady.nil; go_simp; go_wp2_with (go_at_call 57; (with_reducible refine (HCM.out _ hc).mono ?_); rintro e w6 ⟨rfl, hw6⟩; have hc := bthen hc hw6); refine wpAny_take (i := 41) (v := ?_) rfl (by kernel_rfl) (by kernel_rfl) (by kernel_rfl) (fun _ _ _ h => h) (Or.inl ⟨by rfl, ?_⟩) ?_; rotate_left; (focus (intro w; go_simp; try with_reducible rfl)); go_simp; refine wpAny_take (i := 42) (v := ?_) rfl (by kernel_rfl) (by kernel_rfl) (by kernel_rfl) (fun _ _ _ h => h) (Or.inl ⟨by rfl, ?_⟩) ?_; rotate_left; (focus (intro w; go_simp; try with_reducible rfl)); go_simp; refine wpAny_done (by kernel_rfl) ?_ _; go_wp2; go_meet; exact ⟨by first | rfl | trivial, hc⟩)))); (focus (go_simp; refine hK _ _ ?_; clear hK K; refine wpAny_ready (rs := [29]) (by kernel_rfl) (by simp) ?_; refine AllReady.cons rfl (fun K hK => ?_) AllReady.nil; go_simp; refine hK _ _ ?_; clear hK K; refine wpAny_take (i := 31) (v := ?_) rfl (by kernel_rfl) (by kernel_rfl) (by kernel_rfl) (fun _ _ _ h => h) (Or.inl ⟨by rfl, ?_⟩) ?_; rotate_left; (focus (intro w; go_simp; try with_reducible rfl)); go_simp; refine wpAny_ready (rs := [32]) (by kernel_rfl) (by simp) ?_; refine AllReady.cons rfl (fun K hK => ?_) AllReady.nil; go_simp; refine hK _ _ ?_; clear hK K; refine wpAny_ready (rs := [40]) (by kernel_rfl) (by simp) ?_; refine AllReady.cons rfl (fun K hK => ?_) AllReady.nil; go_simp; go_wp2_with (go_at_call 57; (with_reducible refine (HCM.out _ hc).mono ?_); rintro e w6 ⟨rfl, hw6⟩; have hc := bthen hc hw6); refine wpAny_take (i := 41) (v := ?_) rfl (by kernel_rfl) (by kernel_rfl) (by kernel_rfl) (fun _ _ _ h => h) (Or.inl ⟨by rfl, ?_⟩) ?_; rotate_left; (focus (intro w; go_simp; try with_reducible rfl)); go_simp; refine wpAny_take (i := 42) (v := ?_) rfl (by kernel_rfl) (by kernel_rfl) (by kernel_rfl) (fun _ _ _ h => h) (Or.inl ⟨by rfl, ?_⟩) ?_; rotate_left; (focus (intro w; go_simp; try with_reducible rfl)); go_simp; refine wpAny_done (by kernel_rfl) ?_ _; go_wp2; go_meet; exact ⟨by first | rfl | trivial, hc⟩))))
         case rest =>
         obtain ⟨rfl, hc⟩ := hcut
         have HC := Lib.hid (HBW.out.trans (hc.mono HBW.out.size))
         clear hc b1 b2 b3 b4
         by_cases hcv : cv = 0
         ·subst hcv
          have hxy := HCZ.out.1 rfl
          have hgd2 : Hid (GoodTo f a (b + 1)) := Lib.hid ⟨hgd.out.1, fun j hj => by
           by_cases hjb : j = b
           ·subst hjb
            rw [HBD.out, hxy]
            have e1 : ¬ y < 0 := by rw [← hxy]; exact hnn.out
            simp [e1, hab]
           ·exact hgd.out.2 j (by omega)⟩
          clear hxy
          go_wp2
          exact ⟨⟨b + 1, by omega, by go_num, hgd2, HC.out⟩, by simp [intOf]; omega⟩
         ·have q5 : (cv == 0) = false := by simp [hcv]
          have q6 : (cv != 0) = true := by simp [hcv]
          have HE := Lib.hid (checkFar_bad hr64 HR.out (i := a) (k := b) (by omega) (by omega) (by rw [HBD.out]; have : x ≠ y := fun e => hcv (HCZ.out.2 e); simp [this]))
          go_wp2
          go_ret
          exact ⟨by rw [HE.out]; rfl, HC.out⟩
      ·obtain rfl : b = k := by omega
       have k5 : ¬ (b : Int) < (b : Int) := by omega
       have hg2 : Hid (GoodTo f (a + 1) 0) := Lib.hid ⟨fun i hi j hj => by
        by_cases hia : i = a
        ·subst hia; exact hgd.out.2 j (by omega)
        ·exact hgd.out.1 i (by omega) j hj, fun j hj => absurd hj (by omega)⟩
       have HB2 := Lib.hid hbel
       clear hgd hbel
       go_wp2
       exact ⟨⟨a + 1, by omega, by go_num, hg2, HB2.out⟩, by simp [intOf]; omega⟩
    ·obtain rfl : a = k := by omega
     have k4 : ¬ (a : Int) < (a : Int) := by omega
     have HE := Lib.hid (checkFar_ok hr64 HR.out (fun i hi k hk => hgood.out.1 i (by omega) k hk))
     have HBW := Lib.hid hbel
     clear hbel hgood
     go_wp2
     go_ret
     exact ⟨by rw [HE.out]; rfl, HBW.out⟩
end Go.Proofs.YtecnjlcfoobepaaGreatDoor
