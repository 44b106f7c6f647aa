import Derived.Test.YtecnjlcfoobepaaGreatDoorLinkFine
import Derived.Test.YtecnjlcfoobepaaGreatDoorLinkSteps
import Derived.Test.YtecnjlcfoobepaaGreatDoorLinkMore
namespace Go.Proofs.YtecnjlcfoobepaaGreatDoor
set_option maxRecDepth 100000
set_option maxHeartbeats 8000000
open Go.RowKit
set_option linter.unusedSimpArgs false
set_option linter.unusedVariables false
def upA (n m : Nat) : Array Bool := ((List.range n).map fun j => decide (j < m)).toArray
theorem upA_zero (n : Nat) : Array.replicate n false = upA n 0 := by
 refine Array.ext (by simp [upA]) fun i h1 h2 => by simp [upA]
theorem upA_set {n m : Nat} (h : m < n) : (upA n m).setIfInBounds m true = upA n (m + 1) := by
 unfold upA
 rw [List.setIfInBounds_toArray]
 congr 1
 refine List.ext_getElem (by simp) fun i h1 h2 => ?_
 rw [List.getElem_set]
 simp only [List.getElem_map, List.getElem_range]
 by_cases hi : m = i
 ·subst hi; simp
 rw [if_neg hi]
 by_cases h3 : i < m
 ·simp [h3, show i < m + 1 by omega]
 simp [h3, show ¬ i < m + 1 by omega]
section
variable {P : Program} {ops : Array Oper} {Q : Exit -> Act -> World -> Prop} {S : World -> Prop}
def HeldAt (P : Program) (ops : Array Oper) (Q : Exit -> Act -> World -> Prop) (S : World -> Prop) (m : Nat) (a : Act) (w : World) : Prop := wpAnyH P .any ops Q S (ops.size - m) (upA ops.size m) a w
theorem heldStart {id : Nat} {a : Act} {w : World} (hm : P.follows .mixedOrders = true) (hS : S w.drew) (h : S w.drew -> HeldAt P ops Q S 0 a w.drew) : (Code.region id ops true).wp P Q a w :=
 wp_region_held_drew hm hS fun h1 => by rw [upA_zero]; exact h h1
theorem heldNext {m : Nat} {oi : Oper} {v : Value} {a : Act} {w : World} (hi : ops[m]? = some oi) (hk : (Region.noSelect ops && Region.free .any ops (upA ops.size m) m && (Region.ready .any ops (upA ops.size m)).contains m) = true)
  (hQ : ∀ c a w, Q (.panic c) (a.put oi.dst v) w -> Q (.panic c) a w) (hy : YieldsIf P ops S oi v a) (hS : S w) (h : HeldAt P ops Q S (m + 1) (a.put oi.dst v) w) : HeldAt P ops Q S m a w := by
 have hm : m < ops.size := (Array.getElem?_eq_some_iff.1 hi).1
 simp only [Bool.and_eq_true] at hk
 unfold HeldAt at *
 rw [show ops.size - m = (ops.size - (m + 1)) + 1 by omega]
 refine wpAnyH_take hi hk.1.1 hk.1.2 hk.2 hQ hy hS ?_
 rw [upA_set hm]
 exact h
theorem heldCall {m : Nat} {o : Oper} {a : Act} {w : World} (ho : ops[m]? = some o) (hk : Region.ready .any ops (upA ops.size m) = [m])
  (h : ∀ K' : Act -> World -> Prop, Shut (∀ a w, S w -> (S w -> HeldAt P ops Q S (m + 1) a w) -> K' a w) -> if Region.wanted o (yielded ops a.tmps) = true then Oper.wp P o a w K' Q else K' (a.put o.dst undef) w) : HeldAt P ops Q S m a w := by
 have hm : m < ops.size := (Array.getElem?_eq_some_iff.1 ho).1
 unfold HeldAt at *
 rw [show ops.size - m = (ops.size - (m + 1)) + 1 by omega]
 refine wpAnyH_ready hk (by simp) (AllReadyH.cons ho (fun K' hK => h K' ?_) AllReadyH.nil)
 rw [<- upA_set hm]
 exact hK
theorem heldDone {m : Nat} {a : Act} {w : World} (hr : Region.ready .any ops (upA ops.size m) = []) (h : Q .normal a w) : HeldAt P ops Q S m a w := wpAnyH_done hr h _
end
theorem Tryz.eltM : Elt Tryz.prog 24 97 (.slice none 0 0) 24 := ⟨Tryz.underlying24, by kernel_rfl, by kernel_rfl⟩
theorem ref_fars (A : Option Addr) (n c B m wd : Nat) (x : List (List Rat)) (w : World) (h : ReadsRR w B A n x) (hB : B <= w.heap.size) (hn : n <= 1000) (hm : 1 <= m) (hm2 : m <= 10000000) (hwd : wd <= 1000) (hs : ∀ l ∈ x, l.length = wd /\ ∀ y ∈ l, QS m y) :
  Calls Tryz.prog 23 #[.slice A n c] w fun e w' => ∃ v, e = .returned v /\ OwnSA 97 OwnR w.heap.size w'.heap.size w' v (farsQ x) /\ (∀ b, v.ownBlock = some b -> w.heap.size <= b) /\ Below w.heap.size w w' := by
 have hlen := h.len
 have H := lh h
 have HS := lh hs
 have HLEN := lh hlen
 have HFL := lh (farsQ_len x)
 clear h hs
 go_enter Tryz.func23, Tryz.ntmps23
 go_wp2_with fail
 go_loopw [3, 4] (fun v i wr => ∃ k : Nat, k <= n /\ i = .int .i64 (k : Int) /\ OwnSA 97 OwnR w.heap.size wr.heap.size wr v ((farsQ x).take k) /\ (∀ b, v.ownBlock = some b -> w.heap.size <= b) /\ Below w.heap.size w wr) (fun _ i _ => n - (intOf i).toNat)
 case atStart => exact ⟨0, by omega, rfl, OwnSA.nil _ _ _ _ _, (fun b h => by cases h), Below.refl _ _⟩
 case round =>
  obtain ⟨k, hk, rfl, hown, hfr, hbel⟩ := hrel
  rename World => wr
  by_cases hkn : k < n
  ·have k1 : (k : Int) < (n : Int) := by omega
   obtain ⟨xi, hxi⟩ : ∃ l, x[k]? = some l := ⟨_, List.getElem?_eq_getElem (by omega)⟩
   have hsc : (farsQ x).take (k + 1) = (farsQ x).take k ++ [x.map fun b => farQ xi b] := by
    rw [List.take_add_one, farsQ_at hxi]; rfl
   have HSC := lh hsc
   have HXI := lh hxi
   have HO := lh hown
   have HFR := lh hfr
   have HBL := lh hbel
   have HLK := lh (show ((farsQ x).take k).length <= 1000000 from by rw [List.length_take]; omega)
   clear hsc hxi hown hfr hbel
   go_wp2_with fail
   go_loopw [5, 6] (fun vl j wi => ∃ a : Nat, a <= n /\ j = .int .i64 (a : Int) /\ OwnR wi vl ((x.map fun b => farQ xi b).take a) /\ Hid (∀ b, vl.ownBlock = some b -> wr.heap.size <= b) /\ Below wr.heap.size wr wi) (fun _ j _ => n - (intOf j).toNat)
   case atStart => exact ⟨0, by omega, rfl, OwnR.nil _, lh (fun b h => by cases h), Below.refl _ _⟩
   case round =>
    obtain ⟨a, ha, rfl, hol, hfl, hbi⟩ := hrel
    rename World => wi
    by_cases han : a < n
    ·have k2 : (a : Int) < (n : Int) := by omega
     obtain ⟨xa, hxa⟩ : ∃ l, x[a]? = some l := ⟨_, List.getElem?_eq_getElem (by omega)⟩
     obtain ⟨ad, A1, m1, c1, rfl, hlt, hc1, hr1⟩ := (H.out.below rkindR (HBL.out.mono hB)).at_ HXI.out
     obtain ⟨ad2, A2, m2, c2, hA2, hlt2, hc2, hr2⟩ := (H.out.below rkindR (HBL.out.mono hB)).at_ hxa
     obtain rfl := Option.some.inj hA2
     have s1 := HS.out xi (List.mem_of_getElem? HXI.out)
     have s2 := HS.out xa (List.mem_of_getElem? hxa)
     have e1 : m1 = wd := by rw [<- hr1.len]; exact s1.1
     have e2 : m2 = wd := by rw [<- hr2.len]; exact s2.1
     subst e1
     subst e2
     have hBr := nt hB HBL.out.size
     have HF := lh (fun w' (hb : Below wi.heap.size wi w') => ref_far A1 A2 m2 c1 c2 B m xi xa w' (hr1.below ((hbi.trans (hb.mono hbi.size)).mono hBr)) (hr2.below ((hbi.trans (hb.mono hbi.size)).mono hBr)) (nt hBr (nt hbi.size hb.size)) hwd hm hm2 s1.2 s2.2)
     obtain ⟨g3, o3, hP3, hg3⟩ := plainAdd hc1
     rw [hP3] at hc1
     obtain ⟨g4, o4, hP4, hg4⟩ := plainAdd hc2
     rw [hP4] at hc2
     have d3 := At1.mk' hc1
     have d4 := At1.mk' hc2
     have D3 := lh d3
     have D4 := lh d4
     have b3 := d3.below hbi d3.lt
     have b4 := d4.below hbi d4.lt
     have hsn : (x.map fun b => farQ xi b).take (a + 1) = (x.map fun b => farQ xi b).take a ++ [farQ xi xa] := by
      rw [List.take_add_one, List.getElem?_map, hxa]; rfl
     have HSN := lh hsn
     have HOL := lh hol
     have HBI := lh hbi
     have HLA := lh (show ((x.map fun b => farQ xi b).take a).length <= 1000000 from by rw [List.length_take]; omega)
     clear hr1 hr2 s1 s2 hsn hol hbi hxa hlt hlt2 hc1 hc2 d3 d4 hg3 hg4 hBr
     go_upto_region 9 with fail
     obtain ⟨b3q0, b3q1⟩ := b3.c2; have c3 := b3.drew; have c3l := c3.lt; obtain ⟨b4q0, b4q1⟩ := b4.c2; have c4 := b4.drew; have c4l := c4.lt; have hc := bdrew0 wi; go_region_held3 (fun w' => w'.cell? ⟨g3, o3, none⟩ = some (.slice A1 m2 c1) /\ w'.cell? ⟨g4, o4, none⟩ = some (.slice A2 m2 c2)) (go_keep) (first | (go_at_call 60; (with_reducible refine (HF.out _ hc).mono ?_); rintro e w1 ⟨v1, rfl, hR1, hw1⟩; obtain ⟨g1, A1, l1, c1c, A1', l1', c1c', hv1⟩ := hR1.shape; subst hv1; have c3 := c3.below hw1 c3.lt; (try clear c3q0 c3q1); obtain ⟨c3q0, c3q1⟩ := c3.c2; (try clear c3l); have c3l := c3.lt; have c4 := c4.below hw1 c4.lt; (try clear c4q0 c4q1); obtain ⟨c4q0, c4q1⟩ := c4.c2; (try clear c4l); have c4l := c4.lt; have hc := bthen hc hw1) | (refine stepR rfl (.tmp 19) (.tmp 29) rfl w1 _ ((x.map fun b => farQ xi b).take a) (farQ xi xa) g1 A1 l1 c1c A1' l1' c1c' (by simp [Act.eval, Act.put]) (HOL.out.next hc) hR1 (by simp [Act.eval, Act.put]) HLA.out ?_; intro v7 w7 ho7 hg7; have h7 := (HBI.out.trans (hc.mono HBI.out.size)).trans (hg7.below (nt HBI.out.size hc.size) hfl.out); have HO7 := lh ho7; have HF7 := lh (grewL hg7 hfl.out (nt HBI.out.size hc.size)); have H7 := lh h7; clear c3q0 c4q0; have c3 := D3.out.below h7 D3.out.lt; have c4 := D4.out.below h7 D4.out.lt; obtain ⟨c3q0, -⟩ := c3.c2; obtain ⟨c4q0, -⟩ := c4.c2; clear ho7 hg7 h7))
     all_goals
      go_wp2
      exact ⟨⟨a + 1, by omega, by go_num, by rw [HSN.out]; exact HO7.out, HF7.out, H7.out⟩, by simp [intOf]; omega⟩
    obtain rfl : a = n := by omega
    have k2 : ¬ (a : Int) < (a : Int) := by omega
    rw [List.take_of_length_le (by rw [List.length_map]; omega)] at hol
    obtain ⟨A1, d1, hv1, _, _⟩ := OwnR.form hol
    rw [List.length_map, HLEN.out] at hv1
    subst hv1
    have hfl2 := hol.lt
    have hown1 := OwnSA.next Tryz.kindRR HO.out hbi
    have hbel1 := HBL.out.trans (hbi.mono HBL.out.size)
    have hfrL := hfl.out
    have hsz := hbi.size
    clear hbi
    go_wp2_with (at_builtin; refine appSA Tryz.kindRR Tryz.eltM rfl (.tmp 31) (.tmp 33) rfl w.heap.size wr.heap.size _ _ _ ((farsQ x).take k) A1 _ d1 (x.map fun b => farQ xi b) rfl hown1 hol (fun b hb => ⟨hfrL b hb, hfl2 b hb⟩) hsz HBL.out.size rfl HLK.out ?_; intro v' w2 hown2 hgr)
    have hbel2 := hbel1.trans (hgr.below hbel1.size HFR.out)
    have hfr2 := hgr.fresh hbel1.size HFR.out
    rw [<- HSC.out] at hown2
    exact ⟨⟨k + 1, by omega, by go_num, hown2.more hgr.size, hfr2, hbel2⟩, by simp [intOf]; omega⟩
  obtain rfl : k = n := by omega
  have k1 : ¬ (k : Int) < (k : Int) := by omega
  rw [List.take_of_length_le (by rw [HFL.out]; omega)] at hown
  have HO := lh hown
  have HFR := lh hfr
  have HBL := lh hbel
  clear hown hfr hbel
  go_wp2
  go_ret
  exact ⟨_, rfl, HO.out, HFR.out, HBL.out⟩
theorem ref_checkFars (A : Option Addr) (n c B : Nat) (f : List (List Rat)) (w : World) (h : ReadsRR w B A n f) (hB : B <= w.heap.size) (hn : n <= 1000) (hs : ∀ l ∈ f, ∀ x ∈ l, QS 1000000 x) :
  Calls Tryz.prog 20 #[.slice A n c] w (Ret (.int .i64 (checkFar f : Int)) w) := by
 have hlen := h.len
 have H := lh h
 have HS := lh hs
 clear h hs
 go_enter Tryz.func20, Tryz.ntmps20
 by_cases h1 : n < 1
 ·have k1 : (n : Int) < 1 := by omega
  rw [checkFar_5 (.inl (by omega))]
  go_wp2
  go_ret
  exact ⟨rfl, Below.refl _ _⟩
 by_cases h64 : 64 < n
 ·have k1 : ¬ (n : Int) < 1 := by omega
  have k2 : (64 : Int) < (n : Int) := by omega
  rw [checkFar_5 (.inr (by omega))]
  go_wp2
  go_ret
  exact ⟨rfl, Below.refl _ _⟩
 have k1 : ¬ (n : Int) < 1 := by omega
 have k2 : ¬ (64 : Int) < (n : Int) := by omega
 have hr64 : ¬ (f.length < 1 \/ 64 < f.length) := by omega
 go_wp2_with fail
 go_loopw [3] (fun i wr => ∃ k : Nat, k <= n /\ i = .int .i64 (k : Int) /\ Below w.heap.size w wr /\ Hid (∀ (j : Nat) (l : List Rat), j < k -> f[j]? = some l -> l.length = f.length)) (fun i _ => n - (intOf i).toNat)
 case atStart => exact ⟨0, by omega, rfl, Below.refl _ _, lh (fun j l hj => absurd hj (by omega))⟩
 case round =>
  obtain ⟨k, hk, rfl, hbel, hrow⟩ := hrel
  rename World => wr
  by_cases hkn : k < n
  ·have k3 : (k : Int) < (n : Int) := by omega
   obtain ⟨l, hl⟩ : ∃ l, f[k]? = some l := ⟨_, List.getElem?_eq_getElem (by omega)⟩
   obtain ⟨ad, A1, m1, c1, rfl, hlt, hc1, hr1⟩ := (H.out.below rkindR (hbel.mono hB)).at_ hl
   obtain rfl : l.length = m1 := hr1.len
   obtain ⟨m1, hm1⟩ : ∃ m1, l.length = m1 := ⟨_, rfl⟩
   rw [hm1] at hc1
   have HB1 := lh hbel
   clear hbel
   by_cases hne : m1 = n
   ·subst hne
    have hrow2 : Hid (∀ (j : Nat) (l : List Rat), j < k + 1 -> f[j]? = some l -> l.length = f.length) := lh fun j l' hj hl' => by
     by_cases hjk : j = k
     ·subst hjk
      obtain rfl := Option.some.inj (hl.symm.trans hl')
      omega
     exact hrow.out j l' (by omega) hl'
    clear hrow hr1 hl hm1 hlt
    go_wp2
    exact ⟨⟨k + 1, by omega, by go_num, HB1.out, hrow2⟩, by simp [intOf]; omega⟩
   have q1 : ¬ (m1 : Int) = (n : Int) := by omega
   have q2 : ((m1 : Int) == (n : Int)) = false := by simp; omega
   have q3 : ((m1 : Int) != (n : Int)) = true := by simp; omega
   have HE := lh (checkFar_row hl (by omega))
   clear hrow hr1 hl hlt
   go_wp2
   go_ret
   exact ⟨by rw [HE.out]; rfl, HB1.out⟩
  obtain rfl : k = n := by omega
  have k3 : ¬ (k : Int) < (k : Int) := by omega
  have HR : Hid (∀ (j : Nat) (l : List Rat), f[j]? = some l -> l.length = f.length) := lh fun j l hl => hrow.out j l (by have := (List.getElem?_eq_some_iff.1 hl).1; omega) hl
  have HB0 := lh hbel
  clear hrow hbel
  go_wp2_with fail
  go_loopw [4] (fun i wr => ∃ a : Nat, a <= k /\ i = .int .i64 (a : Int) /\ Hid (GoodTo f a 0) /\ Below w.heap.size w wr) (fun i _ => k - (intOf i).toNat)
  case atStart => exact ⟨0, by omega, rfl, lh ⟨fun a ha => absurd ha (by omega), fun b hb => absurd hb (by omega)⟩, HB0.out⟩
  case round =>
   obtain ⟨a, ha, rfl, hgood, hbel⟩ := hrel
   rename World => w4
   clear HB0
   by_cases hak : a < k
   ·have k4 : (a : Int) < (k : Int) := by omega
    have HB1 := lh hbel
    clear hbel
    go_wp2_with fail
    go_loopw [5] (fun i wr => ∃ b : Nat, b <= k /\ i = .int .i64 (b : Int) /\ Hid (GoodTo f a b) /\ Below w.heap.size w wr) (fun i _ => k - (intOf i).toNat)
    case atStart => exact ⟨0, by omega, rfl, hgood, HB1.out⟩
    case round =>
     obtain ⟨b, hb, rfl, hgd, hbel⟩ := hrel
     rename World => w2
     clear hgood HB1
     by_cases hbk : b < k
     ·have k5 : (b : Int) < (k : Int) := by omega
      obtain ⟨l, hl⟩ : ∃ l, f[a]? = some l := ⟨_, List.getElem?_eq_getElem (by omega)⟩
      obtain ⟨l2, hl2⟩ : ∃ l, f[b]? = some l := ⟨_, List.getElem?_eq_getElem (by omega)⟩
      have hlk := HR.out _ _ hl
      have hlk2 := HR.out _ _ hl2
      have hH := H.out.below rkindR (hbel.mono hB)
      obtain ⟨ad, A1, m1, cp1, rfl, hlt1, hcc1, hr1⟩ := hH.at_ hl
      obtain ⟨ad2, A2, m2, cp2, hA2, hlt, hcc, hr2⟩ := hH.at_ hl2
      obtain rfl := Option.some.inj hA2
      obtain rfl : l.length = m1 := hr1.len
      obtain rfl : l2.length = m2 := hr2.len
      obtain ⟨x, hx⟩ : ∃ x, l[b]? = some x := ⟨_, List.getElem?_eq_getElem (by omega)⟩
      obtain ⟨y, hy⟩ : ∃ y, l2[a]? = some y := ⟨_, List.getElem?_eq_getElem (by omega)⟩
      rw [show l2.length = k by omega] at hr2 hcc
      rw [show l.length = k by omega] at hr1 hcc1
      obtain ⟨ad1, g1, o1, r1, rfl, hP1, hg1, b1, iq1⟩ := ReadsR.at_ hr1 hx hbk
      obtain ⟨ad3, g2, o2, r2, rfl, hP2, hg2, b2, iq2⟩ := ReadsR.at_ hr2 hy hak
      obtain ⟨g3, o3, hP3, hg3⟩ := plainAdd hcc1
      rw [hP3] at hcc1
      obtain ⟨g4, o4, hP4, hg4⟩ := plainAdd hcc
      rw [hP4] at hcc
      have b3 := At1.mk' hcc1
      have b4 := At1.mk' hcc
      have qx := HS.out l (List.mem_of_getElem? hl) x (List.mem_of_getElem? hx)
      have qy := HS.out l2 (List.mem_of_getElem? hl2) y (List.mem_of_getElem? hy)
      have hbd := badAt_eq hl hx hl2 hy
      have hyx : a = b -> y = x := fun e => by
       subst e
       obtain rfl := Option.some.inj (hl.symm.trans hl2)
       exact (Option.some.inj (hx.symm.trans hy)).symm
      have HYX := lh hyx
      have hcx := fun w' (hb : Below w2.heap.size w2 w') => ref_cmpQ x x B r1.v r1.v w' (iq1.below (hb.mono (nt hB hbel.size))) (iq1.below (hb.mono (nt hB hbel.size))) (nt (nt hB hbel.size) hb.size) (qx.mono (by omega)) (qx.mono (by omega))
      rw [show cmpQ x x = 0 from (cmpQ_zero x x).2 rfl] at hcx
      have hsn := sign_neg x
      have hsz := sign_zero x
      have hs3 : x.num.sign = -1 \/ x.num.sign = 0 \/ x.num.sign = 1 := by
       rcases Int.lt_trichotomy x.num 0 with h | h | h
       ·exact .inl (Int.sign_eq_neg_one_of_neg h)
       ·exact .inr (.inl (by rw [h]; rfl))
       exact .inr (.inr (Int.sign_eq_one_of_pos h))
      have hcz : cmpQ x y = 0 ↔ x = y := cmpQ_zero x y
      have hBw := nt hB hbel.size
      have hsg := fun w' (hb : Below w2.heap.size w2 w') => ref_sign x B r1.v w' (iq1.below (hb.mono hBw)) (nt hBw hb.size)
      have hcm := fun w' (hb : Below w2.heap.size w2 w') => ref_cmpQ x y B r1.v r2.v w' (iq1.below (hb.mono hBw)) (iq2.below (hb.mono hBw)) (nt hBw hb.size) (qx.mono (by omega)) (qy.mono (by omega))
      generalize x.num.sign = sg at *
      generalize cmpQ x y = cv at *
      obtain ⟨rg, rA, rl, rc, rA', rl', rc'⟩ := r1
      obtain ⟨yg, yA, yl, yc, yA', yl', yc'⟩ := r2
      unfold RC.v at hsg hcm hcx
      simp only [] at b1 b2 hsg hcm hcx
      have HCX := lh hcx
      clear hcx hyx
      have HSG := lh hsg
      have HCM := lh hcm
      have HBW := lh hbel
      have HBD := lh hbd
      have HSN := lh hsn
      have HSZ := lh hsz
      have HCZ := lh hcz
      clear hsg hcm hbel hbd hsn hcz hsz qx qy hg1 hg2 hg3 hg4 hx hy hl hl2 hlk hlk2 hcc hcc1 hlt hlt1 hr1 hr2 iq1 iq2 hH hBw
      by_cases hab : a = b
      ·have hnn : Hid (sg = 0 -> ¬ x < 0) := lh fun e h => by have := HSN.out.2 h; omega
       subst hab
       rcases hs3 with rfl | rfl | rfl
       ·have HE := lh (checkFar_bad hr64 HR.out (i := a) (k := a) (by omega) (by omega) (by rw [HBD.out]; simp [HSN.out.1 (by decide)]))
        go_upto_region 14 with fail
        clear b2 b4 HCM HBD HSN HSZ HCZ hP2 hP4
        obtain ⟨b1q0, b1q1, b1q2⟩ := b1.c3; have c1 := b1.drew; have c1l := c1.lt; obtain ⟨b3q0, b3q1⟩ := b3.c2; have c3 := b3.drew; have c3l := c3.lt; have hc := bdrew0 w2; refine heldStart (S := (fun w' => w'.cell? ⟨g1, o1, none⟩ = some (.bool rg) /\ w'.cell? ⟨g1, o1 + 1, none⟩ = some (.slice rA rl rc) /\ w'.cell? ⟨g1, o1 + 2, none⟩ = some (.slice rA' rl' rc') /\ w'.cell? ⟨g3, o3, none⟩ = some (.slice (some ad1) k cp1))) (by kernel_rfl) (by first | (dsimp only; go_keep) | go_keep) (fun hHeld => ?_); (iterate 7 ((first | (refine heldNext (v := ?_) (by simp only [List.getElem?_toArray, List.getElem?_cons_succ, List.getElem?_cons_zero]; first | done | rfl) (by kernel_rfl) (by exact fun _ _ _ h => h) (Or.inl ⟨by rfl, ?_⟩) (by assumption) ?_; rotate_left; (focus (intro w hSw; (try dsimp only at hSw); go_simp; try with_reducible rfl))) | (refine heldNext (v := undef) (by simp only [List.getElem?_toArray, List.getElem?_cons_succ, List.getElem?_cons_zero]; first | done | rfl) (by kernel_rfl) (by exact fun _ _ _ h => h) (Or.inr ⟨by rfl, rfl⟩) (by assumption) ?_)); (try simp only [Act.put, List.setIfInBounds_toArray, List.set_cons_zero, List.set_cons_succ, Nat.reduceAdd]))); refine heldCall (by simp only [List.getElem?_toArray, List.getElem?_cons_succ, List.getElem?_cons_zero]; first | done | rfl) (by kernel_rfl) (fun K hK => ?_); go_simp; (go_at_call 56; (with_reducible refine (HSG.out _ hc).mono ?_); rintro e w1 ⟨rfl, hw1⟩; have c1 := c1.below hw1 c1.lt; (try clear c1q0 c1q1 c1q2); obtain ⟨c1q0, c1q1, c1q2⟩ := c1.c3; (try clear c1l); have c1l := c1.lt; have c3 := c3.below hw1 c3.lt; (try clear c3q0 c3q1); obtain ⟨c3q0, c3q1⟩ := c3.c2; (try clear c3l); have c3l := c3.lt; have hc := bthen hc hw1); (try go_wp2_with fail); clear hHeld; refine hK.out _ _ (by first | (dsimp only; go_keep) | go_keep) (fun hHeld => ?_); clear hK K; (try simp only [Act.put, List.setIfInBounds_toArray, List.set_cons_zero, List.set_cons_succ, Nat.reduceAdd]); (iterate 35 ((first | (refine heldNext (v := ?_) (by simp only [List.getElem?_toArray, List.getElem?_cons_succ, List.getElem?_cons_zero]; first | done | rfl) (by kernel_rfl) (by exact fun _ _ _ h => h) (Or.inl ⟨by rfl, ?_⟩) (by assumption) ?_; rotate_left; (focus (intro w hSw; (try dsimp only at hSw); go_simp; try with_reducible rfl))) | (refine heldNext (v := undef) (by simp only [List.getElem?_toArray, List.getElem?_cons_succ, List.getElem?_cons_zero]; first | done | rfl) (by kernel_rfl) (by exact fun _ _ _ h => h) (Or.inr ⟨by rfl, rfl⟩) (by assumption) ?_)); (try simp only [Act.put, List.setIfInBounds_toArray, List.set_cons_zero, List.set_cons_succ, Nat.reduceAdd]))); refine heldDone (by kernel_rfl) ?_
        go_wp2
        go_ret
        exact ⟨by rw [HE.out]; rfl, HBW.out.trans (hc.mono HBW.out.size)⟩
       ·have hx0 := HSZ.out.1 rfl
        have hyx := HYX.out rfl
        have hgd2 : Hid (GoodTo f a (a + 1)) := lh ⟨hgd.out.1, fun j hj => by
         by_cases hjb : j = a
         ·subst hjb
          rw [HBD.out, hyx]
          have e1 : ¬ x < 0 := (hnn.out rfl)
          simp [e1, hx0]
         exact hgd.out.2 j (by omega)⟩
        clear hyx hx0 b2 b4 hP2 hP4
        go_upto_region 14 with fail
        obtain ⟨b1q0, b1q1, b1q2⟩ := b1.c3; have c1 := b1.drew; have c1l := c1.lt; obtain ⟨b3q0, b3q1⟩ := b3.c2; have c3 := b3.drew; have c3l := c3.lt; have hc := bdrew0 w2; go_region_held3 (fun w' => w'.cell? ⟨g1, o1, none⟩ = some (.bool rg) /\ w'.cell? ⟨g1, o1 + 1, none⟩ = some (.slice rA rl rc) /\ w'.cell? ⟨g1, o1 + 2, none⟩ = some (.slice rA' rl' rc') /\ w'.cell? ⟨g3, o3, none⟩ = some (.slice (some ad1) k cp1)) (go_keep) (first | (go_at_call 56; (with_reducible refine (HSG.out _ hc).mono ?_); rintro e w1 ⟨rfl, hw1⟩; have c1 := c1.below hw1 c1.lt; (try clear c1q0 c1q1 c1q2); obtain ⟨c1q0, c1q1, c1q2⟩ := c1.c3; (try clear c1l); have c1l := c1.lt; have c3 := c3.below hw1 c3.lt; (try clear c3q0 c3q1); obtain ⟨c3q0, c3q1⟩ := c3.c2; (try clear c3l); have c3l := c3.lt; have hc := bthen hc hw1) | (go_at_call 57; (with_reducible refine (HCX.out _ hc).mono ?_); rintro e w2 ⟨rfl, hw2⟩; have c1 := c1.below hw2 c1.lt; (try clear c1q0 c1q1 c1q2); obtain ⟨c1q0, c1q1, c1q2⟩ := c1.c3; (try clear c1l); have c1l := c1.lt; have c3 := c3.below hw2 c3.lt; (try clear c3q0 c3q1); obtain ⟨c3q0, c3q1⟩ := c3.c2; (try clear c3l); have c3l := c3.lt; have hc := bthen hc hw2))
        all_goals
         go_wp2
         exact ⟨⟨a + 1, by omega, by go_num, hgd2, HBW.out.trans (hc.mono HBW.out.size)⟩, by simp [intOf]; omega⟩
       skip
       have HE := lh (checkFar_bad hr64 HR.out (i := a) (k := a) (by omega) (by omega) (by rw [HBD.out]; simp [show ¬ x = 0 from fun e => absurd (HSZ.out.2 e) (by decide)]))
       go_upto_region 14 with fail
       clear b2 b4 HCM HCX HBD HSN HSZ HCZ hP2 hP4
       obtain ⟨b1q0, b1q1, b1q2⟩ := b1.c3; have c1 := b1.drew; have c1l := c1.lt; obtain ⟨b3q0, b3q1⟩ := b3.c2; have c3 := b3.drew; have c3l := c3.lt; have hc := bdrew0 w2; refine heldStart (S := (fun w' => w'.cell? ⟨g1, o1, none⟩ = some (.bool rg) /\ w'.cell? ⟨g1, o1 + 1, none⟩ = some (.slice rA rl rc) /\ w'.cell? ⟨g1, o1 + 2, none⟩ = some (.slice rA' rl' rc') /\ w'.cell? ⟨g3, o3, none⟩ = some (.slice (some ad1) k cp1))) (by kernel_rfl) (by first | (dsimp only; go_keep) | go_keep) (fun hHeld => ?_); (iterate 7 ((first | (refine heldNext (v := ?_) (by simp only [List.getElem?_toArray, List.getElem?_cons_succ, List.getElem?_cons_zero]; first | done | rfl) (by kernel_rfl) (by exact fun _ _ _ h => h) (Or.inl ⟨by rfl, ?_⟩) (by assumption) ?_; rotate_left; (focus (intro w hSw; (try dsimp only at hSw); go_simp; try with_reducible rfl))) | (refine heldNext (v := undef) (by simp only [List.getElem?_toArray, List.getElem?_cons_succ, List.getElem?_cons_zero]; first | done | rfl) (by kernel_rfl) (by exact fun _ _ _ h => h) (Or.inr ⟨by rfl, rfl⟩) (by assumption) ?_)); (try simp only [Act.put, List.setIfInBounds_toArray, List.set_cons_zero, List.set_cons_succ, Nat.reduceAdd]))); refine heldCall (by simp only [List.getElem?_toArray, List.getElem?_cons_succ, List.getElem?_cons_zero]; first | done | rfl) (by kernel_rfl) (fun K hK => ?_); go_simp; (go_at_call 56; (with_reducible refine (HSG.out _ hc).mono ?_); rintro e w1 ⟨rfl, hw1⟩; have c1 := c1.below hw1 c1.lt; (try clear c1q0 c1q1 c1q2); obtain ⟨c1q0, c1q1, c1q2⟩ := c1.c3; (try clear c1l); have c1l := c1.lt; have c3 := c3.below hw1 c3.lt; (try clear c3q0 c3q1); obtain ⟨c3q0, c3q1⟩ := c3.c2; (try clear c3l); have c3l := c3.lt; have hc := bthen hc hw1); (try go_wp2_with fail); clear hHeld; refine hK.out _ _ (by first | (dsimp only; go_keep) | go_keep) (fun hHeld => ?_); clear hK K; (try simp only [Act.put, List.setIfInBounds_toArray, List.set_cons_zero, List.set_cons_succ, Nat.reduceAdd]); (iterate 13 ((first | (refine heldNext (v := ?_) (by simp only [List.getElem?_toArray, List.getElem?_cons_succ, List.getElem?_cons_zero]; first | done | rfl) (by kernel_rfl) (by exact fun _ _ _ h => h) (Or.inl ⟨by rfl, ?_⟩) (by assumption) ?_; rotate_left; (focus (intro w hSw; (try dsimp only at hSw); go_simp; try with_reducible rfl))) | (refine heldNext (v := undef) (by simp only [List.getElem?_toArray, List.getElem?_cons_succ, List.getElem?_cons_zero]; first | done | rfl) (by kernel_rfl) (by exact fun _ _ _ h => h) (Or.inr ⟨by rfl, rfl⟩) (by assumption) ?_)); (try simp only [Act.put, List.setIfInBounds_toArray, List.set_cons_zero, List.set_cons_succ, Nat.reduceAdd]))); refine heldCall (by simp only [List.getElem?_toArray, List.getElem?_cons_succ, List.getElem?_cons_zero]; first | done | rfl) (by kernel_rfl) (fun K hK => ?_); go_simp; (go_at_call 56; (with_reducible refine (HSG.out _ hc).mono ?_); rintro e w2 ⟨rfl, hw2⟩; have c1 := c1.below hw2 c1.lt; (try clear c1q0 c1q1 c1q2); obtain ⟨c1q0, c1q1, c1q2⟩ := c1.c3; (try clear c1l); have c1l := c1.lt; have c3 := c3.below hw2 c3.lt; (try clear c3q0 c3q1); obtain ⟨c3q0, c3q1⟩ := c3.c2; (try clear c3l); have c3l := c3.lt; have hc := bthen hc hw2); (try go_wp2_with fail); clear hHeld; refine hK.out _ _ (by first | (dsimp only; go_keep) | go_keep) (fun hHeld => ?_); clear hK K; (try simp only [Act.put, List.setIfInBounds_toArray, List.set_cons_zero, List.set_cons_succ, Nat.reduceAdd]); (iterate 21 ((first | (refine heldNext (v := ?_) (by simp only [List.getElem?_toArray, List.getElem?_cons_succ, List.getElem?_cons_zero]; first | done | rfl) (by kernel_rfl) (by exact fun _ _ _ h => h) (Or.inl ⟨by rfl, ?_⟩) (by assumption) ?_; rotate_left; (focus (intro w hSw; (try dsimp only at hSw); go_simp; try with_reducible rfl))) | (refine heldNext (v := undef) (by simp only [List.getElem?_toArray, List.getElem?_cons_succ, List.getElem?_cons_zero]; first | done | rfl) (by kernel_rfl) (by exact fun _ _ _ h => h) (Or.inr ⟨by rfl, rfl⟩) (by assumption) ?_)); (try simp only [Act.put, List.setIfInBounds_toArray, List.set_cons_zero, List.set_cons_succ, Nat.reduceAdd]))); refine heldDone (by kernel_rfl) ?_
       go_wp2
       go_ret
       exact ⟨by rw [HE.out]; rfl, HBW.out.trans (hc.mono HBW.out.size)⟩
      have q2 : ¬ (a : Int) = (b : Int) := by omega
      have q4 : ((a : Int) == (b : Int)) = false := by simp; omega
      have q4' : (a == b) = false := beq_eq_false_iff_ne.2 hab
      by_cases hneg : sg = -1
      ·subst hneg
       have HE := lh (checkFar_bad hr64 HR.out (i := a) (k := b) (by omega) (by omega) (by rw [HBD.out]; simp [HSN.out.1 (by decide)]))
       go_upto_region 14 with fail
       clear b2 b4 HCM HBD HSN HSZ HCZ hP2 hP4
       obtain ⟨b1q0, b1q1, b1q2⟩ := b1.c3; have c1 := b1.drew; have c1l := c1.lt; obtain ⟨b3q0, b3q1⟩ := b3.c2; have c3 := b3.drew; have c3l := c3.lt; have hc := bdrew0 w2; refine heldStart (S := (fun w' => w'.cell? ⟨g1, o1, none⟩ = some (.bool rg) /\ w'.cell? ⟨g1, o1 + 1, none⟩ = some (.slice rA rl rc) /\ w'.cell? ⟨g1, o1 + 2, none⟩ = some (.slice rA' rl' rc') /\ w'.cell? ⟨g3, o3, none⟩ = some (.slice (some ad1) k cp1))) (by kernel_rfl) (by first | (dsimp only; go_keep) | go_keep) (fun hHeld => ?_); (iterate 7 ((first | (refine heldNext (v := ?_) (by simp only [List.getElem?_toArray, List.getElem?_cons_succ, List.getElem?_cons_zero]; first | done | rfl) (by kernel_rfl) (by exact fun _ _ _ h => h) (Or.inl ⟨by rfl, ?_⟩) (by assumption) ?_; rotate_left; (focus (intro w hSw; (try dsimp only at hSw); go_simp; try with_reducible rfl))) | (refine heldNext (v := undef) (by simp only [List.getElem?_toArray, List.getElem?_cons_succ, List.getElem?_cons_zero]; first | done | rfl) (by kernel_rfl) (by exact fun _ _ _ h => h) (Or.inr ⟨by rfl, rfl⟩) (by assumption) ?_)); (try simp only [Act.put, List.setIfInBounds_toArray, List.set_cons_zero, List.set_cons_succ, Nat.reduceAdd]))); refine heldCall (by simp only [List.getElem?_toArray, List.getElem?_cons_succ, List.getElem?_cons_zero]; first | done | rfl) (by kernel_rfl) (fun K hK => ?_); go_simp; (go_at_call 56; (with_reducible refine (HSG.out _ hc).mono ?_); rintro e w1 ⟨rfl, hw1⟩; have c1 := c1.below hw1 c1.lt; (try clear c1q0 c1q1 c1q2); obtain ⟨c1q0, c1q1, c1q2⟩ := c1.c3; (try clear c1l); have c1l := c1.lt; have c3 := c3.below hw1 c3.lt; (try clear c3q0 c3q1); obtain ⟨c3q0, c3q1⟩ := c3.c2; (try clear c3l); have c3l := c3.lt; have hc := bthen hc hw1); (try go_wp2_with fail); clear hHeld; refine hK.out _ _ (by first | (dsimp only; go_keep) | go_keep) (fun hHeld => ?_); clear hK K; (try simp only [Act.put, List.setIfInBounds_toArray, List.set_cons_zero, List.set_cons_succ, Nat.reduceAdd]); (iterate 35 ((first | (refine heldNext (v := ?_) (by simp only [List.getElem?_toArray, List.getElem?_cons_succ, List.getElem?_cons_zero]; first | done | rfl) (by kernel_rfl) (by exact fun _ _ _ h => h) (Or.inl ⟨by rfl, ?_⟩) (by assumption) ?_; rotate_left; (focus (intro w hSw; (try dsimp only at hSw); go_simp; try with_reducible rfl))) | (refine heldNext (v := undef) (by simp only [List.getElem?_toArray, List.getElem?_cons_succ, List.getElem?_cons_zero]; first | done | rfl) (by kernel_rfl) (by exact fun _ _ _ h => h) (Or.inr ⟨by rfl, rfl⟩) (by assumption) ?_)); (try simp only [Act.put, List.setIfInBounds_toArray, List.set_cons_zero, List.set_cons_succ, Nat.reduceAdd]))); refine heldDone (by kernel_rfl) ?_
       go_wp2
       go_ret
       exact ⟨by rw [HE.out]; rfl, HBW.out.trans (hc.mono HBW.out.size)⟩
      have hng : ¬ sg < 0 := by omega
      have q1 : decide (sg < 0) = false := decide_eq_false hng
      have hnn : Hid (¬ x < 0) := lh fun e => hng (HSN.out.2 e)
      clear hs3
      go_upto_region 14 with fail
      go_cut [82] (fun v wc => v = .bool (cv != 0) /\ Below w2.heap.size w2 wc)
      case first =>
       obtain ⟨b1q0, b1q1, b1q2⟩ := b1.c3; have c1 := b1.drew; have c1l := c1.lt; obtain ⟨b2q0, b2q1, b2q2⟩ := b2.c3; have c2 := b2.drew; have c2l := c2.lt; obtain ⟨b3q0, b3q1⟩ := b3.c2; have c3 := b3.drew; have c3l := c3.lt; obtain ⟨b4q0, b4q1⟩ := b4.c2; have c4 := b4.drew; have c4l := c4.lt; have hc := bdrew0 w2; refine heldStart (S := (fun w' => w'.cell? ⟨g1, o1, none⟩ = some (.bool rg) /\ w'.cell? ⟨g1, o1 + 1, none⟩ = some (.slice rA rl rc) /\ w'.cell? ⟨g1, o1 + 2, none⟩ = some (.slice rA' rl' rc') /\ w'.cell? ⟨g2, o2, none⟩ = some (.bool yg) /\ w'.cell? ⟨g2, o2 + 1, none⟩ = some (.slice yA yl yc) /\ w'.cell? ⟨g2, o2 + 2, none⟩ = some (.slice yA' yl' yc') /\ w'.cell? ⟨g3, o3, none⟩ = some (.slice (some ad1) k cp1) /\ w'.cell? ⟨g4, o4, none⟩ = some (.slice (some ad3) k cp2))) (by kernel_rfl) (by first | (dsimp only; go_keep) | go_keep) (fun hHeld => ?_); (iterate 7 ((first | (refine heldNext (v := ?_) (by simp only [List.getElem?_toArray, List.getElem?_cons_succ, List.getElem?_cons_zero]; first | done | rfl) (by kernel_rfl) (by exact fun _ _ _ h => h) (Or.inl ⟨by rfl, ?_⟩) (by assumption) ?_; rotate_left; (focus (intro w hSw; (try dsimp only at hSw); go_simp; try with_reducible rfl))) | (refine heldNext (v := undef) (by simp only [List.getElem?_toArray, List.getElem?_cons_succ, List.getElem?_cons_zero]; first | done | rfl) (by kernel_rfl) (by exact fun _ _ _ h => h) (Or.inr ⟨by rfl, rfl⟩) (by assumption) ?_)); (try simp only [Act.put, List.setIfInBounds_toArray, List.set_cons_zero, List.set_cons_succ, Nat.reduceAdd]))); refine heldCall (by simp only [List.getElem?_toArray, List.getElem?_cons_succ, List.getElem?_cons_zero]; first | done | rfl) (by kernel_rfl) (fun K hK => ?_); go_simp; (go_at_call 56; (with_reducible refine (HSG.out _ hc).mono ?_); rintro e w1 ⟨rfl, hw1⟩; have c1 := c1.below hw1 c1.lt; (try clear c1q0 c1q1 c1q2); obtain ⟨c1q0, c1q1, c1q2⟩ := c1.c3; (try clear c1l); have c1l := c1.lt; have c2 := c2.below hw1 c2.lt; (try clear c2q0 c2q1 c2q2); obtain ⟨c2q0, c2q1, c2q2⟩ := c2.c3; (try clear c2l); have c2l := c2.lt; have c3 := c3.below hw1 c3.lt; (try clear c3q0 c3q1); obtain ⟨c3q0, c3q1⟩ := c3.c2; (try clear c3l); have c3l := c3.lt; have c4 := c4.below hw1 c4.lt; (try clear c4q0 c4q1); obtain ⟨c4q0, c4q1⟩ := c4.c2; (try clear c4l); have c4l := c4.lt; have hc := bthen hc hw1); (try go_wp2_with fail); clear hHeld; refine hK.out _ _ (by first | (dsimp only; go_keep) | go_keep) (fun hHeld => ?_); clear hK K; (try simp only [Act.put, List.setIfInBounds_toArray, List.set_cons_zero, List.set_cons_succ, Nat.reduceAdd]); (iterate 32 ((first | (refine heldNext (v := ?_) (by simp only [List.getElem?_toArray, List.getElem?_cons_succ, List.getElem?_cons_zero]; first | done | rfl) (by kernel_rfl) (by exact fun _ _ _ h => h) (Or.inl ⟨by rfl, ?_⟩) (by assumption) ?_; rotate_left; (focus (intro w hSw; (try dsimp only at hSw); go_simp; try with_reducible rfl))) | (refine heldNext (v := undef) (by simp only [List.getElem?_toArray, List.getElem?_cons_succ, List.getElem?_cons_zero]; first | done | rfl) (by kernel_rfl) (by exact fun _ _ _ h => h) (Or.inr ⟨by rfl, rfl⟩) (by assumption) ?_)); (try simp only [Act.put, List.setIfInBounds_toArray, List.set_cons_zero, List.set_cons_succ, Nat.reduceAdd]))); refine heldCall (by simp only [List.getElem?_toArray, List.getElem?_cons_succ, List.getElem?_cons_zero]; first | done | rfl) (by kernel_rfl) (fun K hK => ?_); go_simp; (go_at_call 57; (with_reducible refine (HCM.out _ hc).mono ?_); rintro e w2 ⟨rfl, hw2⟩; have c1 := c1.below hw2 c1.lt; (try clear c1q0 c1q1 c1q2); obtain ⟨c1q0, c1q1, c1q2⟩ := c1.c3; (try clear c1l); have c1l := c1.lt; have c2 := c2.below hw2 c2.lt; (try clear c2q0 c2q1 c2q2); obtain ⟨c2q0, c2q1, c2q2⟩ := c2.c3; (try clear c2l); have c2l := c2.lt; have c3 := c3.below hw2 c3.lt; (try clear c3q0 c3q1); obtain ⟨c3q0, c3q1⟩ := c3.c2; (try clear c3l); have c3l := c3.lt; have c4 := c4.below hw2 c4.lt; (try clear c4q0 c4q1); obtain ⟨c4q0, c4q1⟩ := c4.c2; (try clear c4l); have c4l := c4.lt; have hc := bthen hc hw2); (try go_wp2_with fail); clear hHeld; refine hK.out _ _ (by first | (dsimp only; go_keep) | go_keep) (fun hHeld => ?_); clear hK K; (try simp only [Act.put, List.setIfInBounds_toArray, List.set_cons_zero, List.set_cons_succ, Nat.reduceAdd]); (iterate 2 ((first | (refine heldNext (v := ?_) (by simp only [List.getElem?_toArray, List.getElem?_cons_succ, List.getElem?_cons_zero]; first | done | rfl) (by kernel_rfl) (by exact fun _ _ _ h => h) (Or.inl ⟨by rfl, ?_⟩) (by assumption) ?_; rotate_left; (focus (intro w hSw; (try dsimp only at hSw); go_simp; try with_reducible rfl))) | (refine heldNext (v := undef) (by simp only [List.getElem?_toArray, List.getElem?_cons_succ, List.getElem?_cons_zero]; first | done | rfl) (by kernel_rfl) (by exact fun _ _ _ h => h) (Or.inr ⟨by rfl, rfl⟩) (by assumption) ?_)); (try simp only [Act.put, List.setIfInBounds_toArray, List.set_cons_zero, List.set_cons_succ, Nat.reduceAdd]))); refine heldDone (by kernel_rfl) ?_
       go_wp2
       go_meet
       exact ⟨by first | rfl | trivial, hc⟩
      case rest =>
      obtain ⟨rfl, hc⟩ := hcut
      have HC := lh (HBW.out.trans (hc.mono HBW.out.size))
      clear hc b1 b2 b3 b4
      by_cases hcv : cv = 0
      ·subst hcv
       have hxy := HCZ.out.1 rfl
       have hgd2 : Hid (GoodTo f a (b + 1)) := lh ⟨hgd.out.1, fun j hj => by
        by_cases hjb : j = b
        ·subst hjb
         rw [HBD.out, hxy]
         have e1 : ¬ y < 0 := by rw [<- hxy]; exact hnn.out
         simp [e1, hab]
        exact hgd.out.2 j (by omega)⟩
       clear hxy
       go_wp2
       exact ⟨⟨b + 1, by omega, by go_num, hgd2, HC.out⟩, by simp [intOf]; omega⟩
      have q5 : (cv == 0) = false := by simp [hcv]
      have q6 : (cv != 0) = true := by simp [hcv]
      have HE := lh (checkFar_bad hr64 HR.out (i := a) (k := b) (by omega) (by omega) (by rw [HBD.out]; have : x ≠ y := fun e => hcv (HCZ.out.2 e); simp [this]))
      go_wp2
      go_ret
      exact ⟨by rw [HE.out]; rfl, HC.out⟩
     obtain rfl : b = k := by omega
     have k5 : ¬ (b : Int) < (b : Int) := by omega
     have hg2 : Hid (GoodTo f (a + 1) 0) := lh ⟨fun i hi j hj => by
      by_cases hia : i = a
      ·subst hia; exact hgd.out.2 j (by omega)
      exact hgd.out.1 i (by omega) j hj, fun j hj => absurd hj (by omega)⟩
     have HB2 := lh hbel
     clear hgd hbel
     go_wp2
     exact ⟨⟨a + 1, by omega, by go_num, hg2, HB2.out⟩, by simp [intOf]; omega⟩
   obtain rfl : a = k := by omega
   have k4 : ¬ (a : Int) < (a : Int) := by omega
   have HE := lh (checkFar_ok hr64 HR.out (fun i hi k hk => hgood.out.1 i (by omega) k hk))
   have HBW := lh hbel
   clear hbel hgood
   go_wp2
   go_ret
   exact ⟨by rw [HE.out]; rfl, HBW.out⟩
theorem Tryz.kindXRR : KindX 97 OwnR := kindXR (by decide) (by decide)
theorem OwnR.atS {w : World} {g n c : Nat} {ql : List Rat} (h : OwnR w (.slice (some ⟨g, 0, none⟩) n c) ql) {k : Nat} {q : Rat} (hq : ql[k]? = some q) : ∃ r : RC, AtR w g (k * 3) r /\ IsQ w w.heap.size r.v q := by
 obtain ⟨r, h0, h1, h2, h3⟩ := OwnR.cell3 h hq
 exact ⟨r, ⟨h0, h1, h2⟩, h3⟩
theorem bset3' {B g i j k : Nat} {w w' : World} (h : Below B w w') (hg : B <= g) (x y z : Value) : Below B w (((w'.setCell ⟨g, i, none⟩ x).setCell ⟨g, j, none⟩ y).setCell ⟨g, k, none⟩ z) := ((h.setCell (p := ⟨g, i, none⟩) hg x).setCell (p := ⟨g, j, none⟩) hg y).setCell (p := ⟨g, k, none⟩) hg z
theorem OwnSA.storeR {L B : Nat} {w : World} {g n c ga m k : Nat} {bl : List (List Rat)} (h : OwnSA 97 OwnR L B w (.slice (some ⟨g, 0, none⟩) n c) bl) {i : Nat} {b : List Rat} (hb : bl[i]? = some b) (hc : w.cell? ⟨g, i, none⟩ = some (.slice (some ⟨ga, 0, none⟩) m k)) :
  ga ≠ g /\ L <= ga /\ ga < B /\ OwnR w (.slice (some ⟨ga, 0, none⟩) m k) b /\ ∀ (j : Nat) (q : Rat) (r : RC), IsQ w w.heap.size r.v q -> OwnSA 97 OwnR L B (((w.setCell ⟨ga, j * 3, none⟩ (.bool r.g)).setCell ⟨ga, j * 3 + 1, none⟩ (.slice r.A r.l r.c)).setCell ⟨ga, j * 3 + 2, none⟩ (.slice r.A' r.l' r.c')) (.slice (some ⟨g, 0, none⟩) n c) (bl.set i (b.set j q)) := by
 obtain ⟨A', m', k', hc', hr', hL', hst⟩ := OwnSA.at_ Tryz.kindXRR h hb
 have e := Option.some.inj (hc'.symm.trans hc)
 injection e with e1 e2 e3
 subst e1 e2 e3
 obtain ⟨hne, hst⟩ := hst ga rfl
 have hLB := hL' ga rfl
 refine ⟨hne, hLB.1, hLB.2, hr', fun j q r hq => hst _ _ ?_ (OwnR.store hr' j r hq)⟩
 exact (((Exc.refl ga w).set_ _ _).set_ _ _).set_ _ _
theorem ReadsR.cut {w : World} {B n : Nat} {A : Option Addr} {ql : List Rat} (h : ReadsR w B A n ql) {u c : Nat} (hu : u <= n) (hc : n <= c) : ReadsR w B (cutA A c u 3) (n - u) (ql.drop u) := by
 obtain ⟨rl, h1, h2⟩ := h
 refine ⟨rl.drop u, ⟨by rw [List.length_drop, h1.1], ?_⟩, by rw [List.length_drop, List.length_drop, h2.1], fun i r q hr hq => ?_⟩
 ·have h3 := Reads.cut h1.2 hu hc
  have e : (rl.flatMap RC.cs).drop (u * 3) = (rl.drop u).flatMap RC.cs := by
   have : ∀ (l : List RC) u, (l.flatMap RC.cs).drop (u * 3) = (l.drop u).flatMap RC.cs := by
    intro l
    induction l with
    | nil => intro u; simp
    | cons r l ih =>
     intro u
     cases u with
     | zero => simp
     | succ u =>
      rw [List.flatMap_cons, List.drop_succ_cons, <- ih u, show (u + 1) * 3 = (RC.cs r).length + u * 3 from by rw [RC.len]; omega, List.drop_append]
      simp
   exact this rl u
  rw [e] at h3
  exact h3
 rw [List.getElem?_drop] at hr hq
 exact h2.2 _ r q hr hq
theorem OwnS.cutRow {w : World} {g n c m k : Nat} {A : Option Addr} {bl : List (List Rat)} (h : OwnS 97 OwnR w (.slice (some ⟨g, 0, none⟩) n c) bl) {i : Nat} {b : List Rat} (hb : bl[i]? = some b) (hc : w.cell? ⟨g, i, none⟩ = some (.slice A m k)) {u : Nat} (hu : u <= m) (hk : m <= k) :
  ReadsRR (w.setCell ⟨g, i, none⟩ (.slice (cutA A k u 3) (m - u) (k - u))) w.heap.size (some ⟨g, 0, none⟩) n (bl.set i (b.drop u)) := by
 obtain ⟨rl, h1, h2, h3⟩ := h
 have hn : n = rl.length := by
  obtain ⟨A', c', h4, _, _⟩ := Own.form h1
  injection h4
 subst hn
 have hi : i < rl.length := by rw [h2]; exact (List.getElem?_eq_some_iff.1 hb).1
 have hr : rl[i]? = some rl[i] := List.getElem?_eq_getElem hi
 have hcell := Own.cellf h1 hr
 have e := Option.some.inj (hcell.symm.trans hc)
 have hst := World.ownsRow.stored h1 i (.slice (cutA A k u 3) (m - u) (k - u))
 have hex : Exc g w (w.setCell ⟨g, i, none⟩ (.slice (cutA A k u 3) (m - u) (k - u))) := (Exc.refl g w).set_ i _
 have ho1 : Only1 w (w.setCell ⟨g, i, none⟩ (.slice (cutA A k u 3) (m - u) (k - u))) (.slice (some ⟨g, 0, none⟩) rl.length c) := Only1.exc hex
 have hz : (w.setCell ⟨g, i, none⟩ (.slice (cutA A k u 3) (m - u) (k - u))).heap.size = w.heap.size := by simp
 have hown : Own (w.setCell ⟨g, i, none⟩ (.slice (cutA A k u 3) (m - u) (k - u))) 97 SW.v (.slice (some ⟨g, 0, none⟩) rl.length c) (rl.set i ⟨cutA A k u 3, m - u, k - u⟩) := by
  unfold Own
  rw [List.length_set, List.map_set]
  exact hst.1
 have hrd := Own.reads hown
 rw [hz, List.length_set] at hrd
 refine ⟨rl.set i ⟨cutA A k u 3, m - u, k - u⟩, hrd, by simp [h2], fun j r b'' hr' hb'' => ?_⟩
 rcases getElem?_set_cases hr' with ⟨rfl, rfl⟩ | ⟨hj, hr2⟩
 ·have e9 : b'' = b.drop u := by
   rw [List.getElem?_set, if_pos rfl] at hb''
   split at hb''
   ·exact (Option.some.inj hb'').symm
   cases hb''
  subst e9
  have h4 := Tryz.kindRR.only (h3 j _ b hr hb) h1 ho1
  have h5 : OwnR (w.setCell ⟨g, j, none⟩ (.slice (cutA A k u 3) (m - u) (k - u))) (.slice A m k) b := by rw [<- e]; exact h4
  have h6 := OwnR.reads_ h5
  rw [hz] at h6
  exact h6.cut hu hk
 rw [List.getElem?_set, if_neg (fun e => hj e.symm)] at hb''
 have h4 := OwnR.reads_ (Tryz.kindRR.only (h3 j r b'' hr2 hb'') h1 ho1)
 rw [hz] at h4
 exact h4
def setAt (f : List (List Rat)) (a b : Nat) (q : Rat) : List (List Rat) := f.set a ((f.getD a []).set b q)
def spoiltF (f : List (List Rat)) (way a b : Nat) (q : Rat) : List (List Rat) :=
 if way = 0 then setAt f a b q else if way = 1 then setAt (setAt f a b q) b a q else if way = 2 then f.set a ((f.getD a []).drop 1) else f
structure Small (f : List (List Rat)) : Prop where
 len : f.length <= 7
 row : ∀ l ∈ f, l.length <= 7 /\ ∀ y ∈ l, QS 47 y
theorem Small.set_ {f : List (List Rat)} (h : Small f) (a : Nat) (l : List Rat) (hl : l.length <= 7 /\ ∀ y ∈ l, QS 47 y) : Small (f.set a l) :=
 ⟨by rw [List.length_set]; exact h.len, fun l' hl' => by
  rcases List.mem_or_eq_of_mem_set hl' with h1 | h1
  ·exact h.row l' h1
  rw [h1]; exact hl⟩
theorem Small.at_ {f : List (List Rat)} (h : Small f) (a : Nat) : (f.getD a []).length <= 7 /\ ∀ y ∈ f.getD a [], QS 47 y := by
 rw [List.getD_eq_getElem?_getD]
 cases hf : f[a]? with
 | none => exact ⟨by simp, fun y hy => by cases hy⟩
 | some l => exact h.row l (List.mem_of_getElem? hf)
theorem Small.setAt {f : List (List Rat)} (h : Small f) (a b : Nat) {q : Rat} (hq : QS 47 q) : Small (setAt f a b q) := by
 refine h.set_ a _ ⟨by rw [List.length_set]; exact (h.at_ a).1, fun y hy => ?_⟩
 rcases List.mem_or_eq_of_mem_set hy with h1 | h1
 ·exact (h.at_ a).2 y h1
 rw [h1]; exact hq
theorem Small.spoilt {f : List (List Rat)} (h : Small f) (way a b : Nat) {q : Rat} (hq : QS 47 q) : Small (spoiltF f way a b q) := by
 unfold spoiltF
 split
 ·exact h.setAt a b hq
 split
 ·exact (h.setAt a b hq).setAt b a hq
 split
 ·exact h.set_ a _ ⟨by rw [List.length_drop]; have := (h.at_ a).1; omega, fun y hy => (h.at_ a).2 y (List.mem_of_mem_drop hy)⟩
 exact h
theorem small_fars {zs : List Int} {m n : Nat} (hm : m <= 2) (hn : n <= 7) : Small (farsQ (rowsOf zs m n)) := by
 have hl : (rowsOf zs m n).length <= 7 := by rw [rowsOf_len]; exact hn
 refine ⟨by rw [farsQ_len]; exact hl, fun l hl' => ⟨?_, fun y hy => ?_⟩⟩
 ·obtain ⟨a, ha, rfl⟩ := List.mem_map.1 hl'
  rw [List.length_map]
  exact hl
 refine (fars_QS (m := 5) (wd := m) (fun l hl => ?_) (by omega) (fun l hl => ?_) l hl' y hy).mono ?_
 ·obtain ⟨zs', rfl⟩ := rowsOf_row hl
  exact rowOf_size zs' m
 ·obtain ⟨zs', rfl⟩ := rowsOf_row hl
  exact rowOf_len zs' m
 omega
theorem ownSA_reads {L B : Nat} {w : World} {g n c : Nat} {f : List (List Rat)} (h : OwnSA 97 OwnR L B w (.slice (some ⟨g, 0, none⟩) n c) f) : ReadsRR w w.heap.size (some ⟨g, 0, none⟩) n f := OwnRR.readsRR h.plain
theorem ownSA_row {L B : Nat} {w : World} {g n c N : Nat} {f : List (List Rat)} (h : OwnSA 97 OwnR L B w (.slice (some ⟨g, 0, none⟩) n c) f) {i : Nat} (hi : i < f.length) (hN : (f.getD i []).length = N) (h1 : 1 <= N) :
  ∃ ga k, f[i]? = some (f.getD i []) /\ N <= k /\ w.cell? ⟨g, i, none⟩ = some (.slice (some ⟨ga, 0, none⟩) N k) /\ L <= ga /\ OwnR w (.slice (some ⟨ga, 0, none⟩) N k) (f.getD i []) := by
 have hf : f[i]? = some (f.getD i []) := by rw [List.getD_eq_getElem?_getD, List.getElem?_eq_getElem hi]; rfl
 obtain ⟨A, m, k, h2, h3, h4, -⟩ := OwnSA.at_ Tryz.kindXRR h hf
 obtain ⟨A', c', hv, hle, -⟩ := OwnR.form h3
 injection hv with e1 e2 e3
 subst e1 e2 e3
 obtain ⟨ga, rfl⟩ := OwnR.addr h3 (by omega)
 rw [hN] at h2 h3 hle
 exact ⟨ga, _, hf, hle, h2, (h4 ga rfl).1, h3⟩
theorem setAt_row {f : List (List Rat)} {a b : Nat} {q : Rat} {N : Nat} (h : ∀ i, i < N -> (f.getD i []).length = N) (hl : f.length = N) : (setAt f a b q).length = N /\ ∀ i, i < N -> ((setAt f a b q).getD i []).length = N := by
 refine ⟨by unfold setAt; rw [List.length_set, hl], fun i hi => ?_⟩
 unfold setAt
 rw [List.getD_eq_getElem?_getD, List.getElem?_set]
 by_cases hai : a = i
 ·subst hai
  rw [if_pos rfl, if_pos (by omega)]
  show ((f.getD a []).set b q).length = N
  rw [List.length_set]
  exact h a hi
 rw [if_neg hai, <- List.getD_eq_getElem?_getD]
 exact h i hi
theorem setAt_at {f : List (List Rat)} {a b : Nat} {q : Rat} (ha : a < f.length) (hb : b < (f.getD a []).length) : ((setAt f a b q).getD a [])[b]? = some q := by
 unfold setAt
 rw [List.getD_eq_getElem?_getD, List.getElem?_set, if_pos rfl, if_pos ha]
 show ((f.getD a []).set b q)[b]? = some q
 rw [List.getElem?_set, if_pos rfl, if_pos hb]
theorem farsQ_rows {x : List (List Rat)} {N : Nat} (hx : x.length = N) : ∀ i, i < N -> ((farsQ x).getD i []).length = N := by
 intro i hi
 rw [List.getD_eq_getElem?_getD, farsQ_at (List.getElem?_eq_getElem (by omega))]
 show (x.map _).length = N
 rw [List.length_map, hx]
theorem law_spoilt (A : Option Addr) (n1 c1 : Nat) (zl : List Int) (zn zw zy za zb zk : Int) (w : World) (h1 : ArgZ w A n1 c1 zl) (hn : I64 zn) (hz : I64 zw) (hy : I64 zy) (ha : I64 za) (hb : I64 zb) (hk : I64 zk) :
  ∃ g, Small g /\ ∀ w', Below w.heap.size w w' -> Calls Tryz.prog 17 #[.slice A n1 c1, .int .i64 zn, .int .i64 zw, .int .i64 zy, .int .i64 za, .int .i64 zb, .int .i64 zk] w' fun e w'' =>
   ∃ A' n' c', e = .returned (.slice A' n' c') /\ ReadsRR w'' w''.heap.size A' n' g /\ Below w'.heap.size w' w'' := by
 obtain ⟨nn, hnn, hp0⟩ := pick_of zn 8 w hn.1 hn.2 (by omega) (by omega)
 obtain ⟨k2, hk2, hp2⟩ := pick_of zw 2 w hz.1 hz.2 (by omega) (by omega)
 obtain ⟨way, hway, hpw⟩ := pick_of zy 8 w hy.1 hy.2 (by omega) (by omega)
 obtain ⟨wd, hwd⟩ : ∃ wd, k2 + 1 = wd := ⟨_, rfl⟩
 have e2 : (k2 : Int) + 1 = (wd : Int) := by omega
 have hSm := small_fars (zs := zl) (m := wd) (n := nn) (by omega) (by omega)
 obtain ⟨a, hpa⟩ : ∃ a, 0 < nn -> a < nn /\ ∀ w, Calls Tryz.prog 14 #[.int .i64 za, .int .i64 (nn : Int)] w fun e w' => e = .returned (.int .i64 (a : Int)) /\ w = w' := by
  by_cases h0 : 0 < nn
  ·obtain ⟨a, h2, h3⟩ := pick_of za nn w ha.1 ha.2 (by omega) (by omega)
   exact ⟨a, fun _ => ⟨h2, h3⟩⟩
  exact ⟨0, fun h => absurd h h0⟩
 obtain ⟨b, hpb⟩ : ∃ b, 0 < nn -> b < nn /\ ∀ w, Calls Tryz.prog 14 #[.int .i64 zb, .int .i64 (nn : Int)] w fun e w' => e = .returned (.int .i64 (b : Int)) /\ w = w' := by
  by_cases h0 : 0 < nn
  ·obtain ⟨a, h2, h3⟩ := pick_of zb nn w hb.1 hb.2 (by omega) (by omega)
   exact ⟨a, fun _ => ⟨h2, h3⟩⟩
  exact ⟨0, fun h => absurd h h0⟩
 obtain ⟨q, hq⟩ : ∃ q, rOf zk = q := ⟨_, rfl⟩
 have hqs : QS 47 q := by rw [<- hq]; exact (rOf_size zk).mono (by omega)
 obtain ⟨g, hg⟩ : ∃ g, (if nn = 0 then farsQ (rowsOf zl wd nn) else spoiltF (farsQ (rowsOf zl wd nn)) way a b q) = g := ⟨_, rfl⟩
 refine ⟨g, ?_, fun w' hbw => ?_⟩
 ·rw [<- hg]
  split
  ·exact hSm
  exact hSm.spoilt way a b hqs
 have hrows := hand_rows A n1 c1 w.heap.size zl nn wd w' ⟨h1.rd.1.below hbw, h1.rd.2⟩ hbw.size h1.cap h1.most (by omega) (by omega)
 have hrow : ∀ l ∈ rowsOf zl wd nn, l.length = wd /\ ∀ x ∈ l, QS 5 x := fun l hl => by
  obtain ⟨zs', rfl⟩ := rowsOf_row hl
  exact ⟨rowOf_len zs' wd, rowOf_size zs' wd⟩
 have hlen := rowsOf_len zl wd nn
 have hrk := fun w' => hand_r zk w' hk.1 hk.2
 rw [hq] at hrk
 have hfl : (farsQ (rowsOf zl wd nn)).length = nn := by rw [farsQ_len, hlen]
 have hfr := farsQ_rows hlen
 generalize rowsOf zl wd nn = x at *
 have HP0 := lh hp0
 have HP2 := lh hp2
 have HPW := lh hpw
 have HR := lh hrows
 have HX := lh hrow
 have HLEN := lh hlen
 have HRK := lh hrk
 have HPA := lh hpa
 have HPB := lh hpb
 have HG := lh hg
 have HFL := lh hfl
 have HFR := lh hfr
 clear hp0 hp2 hpw hrows hrow hlen hrk hpa hpb h1 hn hz hy ha hb hk hbw hwd hg hq hqs hSm hfl hfr
 go_enter Tryz.func17, Tryz.ntmps17
 go_wp2_with fail
 refine (HP0.out _).mono ?_
 rintro e w1 ⟨rfl, rfl⟩
 go_wp2_with fail
 refine (HP2.out _).mono ?_
 rintro e w1 ⟨rfl, rfl⟩
 go_wp2_with fail
 refine HR.out.mono ?_
 rintro e w1 ⟨v, rfl, ho, -, hb1⟩
 obtain ⟨A1, c1', hv⟩ := OwnS.form ho
 rw [HLEN.out] at hv
 subst hv
 have HO := lh (OwnRR.readsRR ho)
 have HB1 := lh hb1
 clear ho hb1 HR HP0 HP2
 go_wp2_with fail
 refine (ref_fars A1 nn c1' w1.heap.size 5 wd x w1 HO.out zd (by omega) (by omega) (by omega) (by omega) HX.out).mono ?_
 rintro e w2 ⟨v, rfl, ho, hfv, hb2⟩
 obtain ⟨A2, c2, hv⟩ := OwnSA.form ho
 rw [HFL.out] at hv
 subst hv
 have HB2 := lh (bthen HB1.out hb2)
 have hL := HB1.out.size
 clear hb2 HO HB1
 by_cases h0 : nn = 0
 ·subst h0
  rw [if_pos rfl] at HG
  have HO := lh (OwnRR.readsRR ho.plain)
  rw [HG.out] at HO
  clear ho HPA HPB
  go_wp2
  go_ret
  exact ⟨_, _, _, rfl, HO.out, HB2.out⟩
 have hn0 : 0 < nn := by omega
 rw [if_neg h0] at HG
 obtain ⟨ha, hpa⟩ := HPA.out hn0
 obtain ⟨hb, hpb⟩ := HPB.out hn0
 have HPA := lh hpa
 have HPB := lh hpb
 obtain ⟨gf, rfl⟩ := OwnSA.addr ho (by rw [HFL.out]; exact hn0)
 have HO := lh ho
 have k0 : ((nn : Int) == 0) = false := by simp; omega
 have k0' : ¬ (nn : Int) = 0 := by omega
 clear hpa hpb ho
 generalize farsQ x = F at *
 go_wp2_with fail
 refine (HPA.out _).mono ?_
 rintro e w3 ⟨rfl, rfl⟩
 go_wp2_with fail
 refine (HPB.out _).mono ?_
 rintro e w3 ⟨rfl, rfl⟩
 go_wp2_with fail
 refine (HPW.out _).mono ?_
 rintro e w3 ⟨rfl, rfl⟩
 clear HPA HPB HPW k0 k0'
 have ka : (a : Int) < (nn : Int) := by omega
 have kb : (b : Int) < (nn : Int) := by omega
 obtain ⟨ga, ca, hfa, hca, hcell, hLa, hra⟩ := ownSA_row HO.out (i := a) (by rw [HFL.out]; exact ha) (HFR.out a ha) hn0
 obtain ⟨r0, hat, hiq0⟩ := OwnR.atS hra (k := b) (q := _) (List.getElem?_eq_getElem (by rw [HFR.out a ha]; exact hb))
 by_cases hw0 : way = 0
 ·subst hw0
  have hsp : setAt F a b q = g := by rw [<- HG.out]; rfl
  have HSP := lh hsp
  have b3 := At1.mk' hcell
  have HRA := lh hra
  have HFA := lh hfa
  have hne := (OwnSA.storeR HO.out hfa hcell).1
  clear hcell hat hiq0 hra hfa hsp HG
  go_upto_region 8 with fail
  obtain ⟨b3q0, b3q1⟩ := b3.c2; have c3 := b3.drew; have c3l := c3.lt; have hc := bdrew0 w2; go_region_with (first | (go_at_call 48; (with_reducible refine (HRK.out _).mono ?_); rintro e w1 ⟨v1, rfl, hR1, hw1⟩; obtain ⟨g1, A1, l1, c1c, A1', l1', c1c', hv1⟩ := hR1.shape; subst hv1; have c3 := c3.below hw1 c3.lt; (try clear c3q0 c3q1); obtain ⟨c3q0, c3q1⟩ := c3.c2; (try clear c3l); have c3l := c3.lt; have hc := bthen hc hw1; have hrn := HRA.out.next hc; obtain ⟨r5, hat5, -⟩ := OwnR.atS hrn (k := b) (List.getElem?_eq_getElem (by rw [HFR.out a ha]; exact hb)); obtain ⟨y0, y1, y2⟩ := hat5.c3; have z0 := OwnR.frozen hrn (b * 3); have z1 := OwnR.frozen hrn (b * 3 + 1); have z2 := OwnR.frozen hrn (b * 3 + 2)))
  all_goals
   have o1 := (OwnSA.next Tryz.kindRR HO.out hc).more hc.size
   obtain ⟨-, -, -, -, hst⟩ := OwnSA.storeR o1 HFA.out c3.c2.1
   have HO2 := lh (ownSA_reads (hst b q ⟨g1, A1, l1, c1c, A1', l1', c1c'⟩ hR1))
   rw [show F.set a ((F.getD a []).set b q) = g from HSP.out] at HO2
   have HB3 := lh (bset3' (i := b * 3) (j := b * 3 + 1) (k := b * 3 + 2) (HB2.out.trans (hc.mono HB2.out.size)) (g := ga) (by omega) (.bool g1) (.slice A1 l1 c1c) (.slice A1' l1' c1c'))
   clear o1 hst
   go_wp2
   go_ret
   first | exact ⟨_, _, _, rfl, HO2.out, HB3.out⟩ | exact ⟨_, _, ⟨_, rfl⟩, HO2.out, HB3.out⟩
 have p0 : ((way : Int) == 0) = false := by simp; omega
 have p0' : ¬ (way : Int) = 0 := by omega
 by_cases hw1 : way = 1
 ·subst hw1
  have hsp : setAt (setAt F a b q) b a q = g := by rw [<- HG.out]; rfl
  have HSP := lh hsp
  have b3 := At1.mk' hcell
  have HRA := lh hra
  have HFA := lh hfa
  have hne := (OwnSA.storeR HO.out hfa hcell).1
  clear hcell hat hiq0 hra hfa hsp HG
  go_upto_region 10 with fail
  go_cut [] (fun wc => OwnSA 97 OwnR w1.heap.size wc.heap.size wc (.slice (some ⟨gf, 0, none⟩) nn c2) (setAt F a b q) /\ Below w'.heap.size w' wc)
  case first =>
   obtain ⟨b3q0, b3q1⟩ := b3.c2; have c3 := b3.drew; have c3l := c3.lt; have hc := bdrew0 w2; go_region_with (first | (go_at_call 48; (with_reducible refine (HRK.out _).mono ?_); rintro e w1 ⟨v1, rfl, hR1, hw1⟩; obtain ⟨g1, A1, l1, c1c, A1', l1', c1c', hv1⟩ := hR1.shape; subst hv1; have c3 := c3.below hw1 c3.lt; (try clear c3q0 c3q1); obtain ⟨c3q0, c3q1⟩ := c3.c2; (try clear c3l); have c3l := c3.lt; have hc := bthen hc hw1; have hrn := HRA.out.next hc; obtain ⟨r5, hat5, -⟩ := OwnR.atS hrn (k := b) (List.getElem?_eq_getElem (by rw [HFR.out a ha]; exact hb)); obtain ⟨y0, y1, y2⟩ := hat5.c3; have z0 := OwnR.frozen hrn (b * 3); have z1 := OwnR.frozen hrn (b * 3 + 1); have z2 := OwnR.frozen hrn (b * 3 + 2)))
   all_goals
    go_wp2
    go_meet
    have o1 := (OwnSA.next Tryz.kindRR HO.out hc).more hc.size
    obtain ⟨-, -, -, -, hst⟩ := OwnSA.storeR o1 HFA.out c3.c2.1
    have o2 := hst b q ⟨g1, A1, l1, c1c, A1', l1', c1c'⟩ hR1
    refine ⟨?_, bset3' (HB2.out.trans (hc.mono HB2.out.size)) (by omega) _ _ _⟩
    rw [World.size_setCell, World.size_setCell, World.size_setCell]
    exact o2
  case rest =>
   obtain ⟨ho2, hb2⟩ := hcut
   rename World => w5
   obtain ⟨hl2, hr2⟩ := setAt_row (f := F) (a := a) (b := b) (q := q) HFR.out HFL.out
   have hq2 := setAt_at (f := F) (a := a) (b := b) (q := q) (by rw [HFL.out]; exact ha) (by rw [HFR.out a ha]; exact hb)
   clear HO HB2 HRA HFA b3
   obtain ⟨gx, cx, hfx, hcx, hcellx, hLx, hrx⟩ := ownSA_row ho2 (i := a) (by rw [hl2]; exact ha) (hr2 a ha) hn0
   obtain ⟨gy, cy, hfy, hcy, hcelly, hLy, hry⟩ := ownSA_row ho2 (i := b) (by rw [hl2]; exact hb) (hr2 b hb) hn0
   obtain ⟨r0, hat, hiq⟩ := OwnR.atS hrx hq2
   obtain ⟨r1, hat1, -⟩ := OwnR.atS hry (k := a) (List.getElem?_eq_getElem (by rw [hr2 b hb]; exact ha))
   obtain ⟨-, -, -, -, hst⟩ := OwnSA.storeR ho2 hfy hcelly
   have o2 := ownSA_reads (hst a q r0 hiq)
   have z0 := OwnR.frozen hry (a * 3)
   have z1 := OwnR.frozen hry (a * 3 + 1)
   have z2 := OwnR.frozen hry (a * 3 + 2)
   obtain ⟨rg, rA, rl, rc, rA', rl', rc'⟩ := r0
   obtain ⟨x0, x1, x2⟩ := hat.c3
   obtain ⟨y0, y1, y2⟩ := hat1.c3
   simp only [] at x0 x1 x2 o2
   have HO2 : Hid (ReadsRR _ _ (some ⟨gf, 0, none⟩) nn g) := lh (by rw [<- HSP.out]; exact o2)
   have HB3 := lh (bset3' (i := a * 3) (j := a * 3 + 1) (k := a * 3 + 2) hb2 (g := gy) (by omega) (.bool rg) (.slice rA rl rc) (.slice rA' rl' rc'))
   clear ho2 hb2 hl2 hr2 hq2 hfx hfy hrx hry hat hat1 hiq hst o2 HSP HFL HFR
   go_upto_region 11 with fail
   go_region
   all_goals
    go_wp2
    go_ret
    exact ⟨_, _, _, rfl, HO2.out, by first | exact HB3.out | exact HB3.out.trans ((bdrew0 _).mono HB3.out.size)⟩
 have p1 : ((way : Int) == 1) = false := by simp; omega
 have p1' : ¬ (way : Int) = 1 := by omega
 by_cases hw2 : way = 2
 ·subst hw2
  have hsp : F.set a ((F.getD a []).drop 1) = g := by rw [<- HG.out]; rfl
  have o2 := OwnS.cutRow HO.out.plain hfa hcell (u := 1) (by omega) hca
  rw [hsp] at o2
  have hs : ∀ w, (Instr.slice 97 (.slice (some ⟨ga, 0, none⟩) nn ca) (some (.int .i64 1)) none none).run Tryz.prog w = .ok (.slice (cutA (some ⟨ga, 0, none⟩) ca 1 3) (nn - 1) (ca - 1)) w := fun w => by
   have := run_cut (P := Tryz.prog) Tryz.underlying97 (Tryz.eltR).info (some ⟨ga, 0, none⟩) nn ca .i64 1 (by omega) (by omega) w
   rw [this]
   rfl
  have z0 := HO.out.frozen a
  have HO2 := lh o2
  have hL2 : w'.heap.size <= gf := nt hL (hfv gf rfl)
  have HB3 := lh (HB2.out.setCell (p := ⟨gf, a, none⟩) hL2 (.slice (cutA (some ⟨ga, 0, none⟩) ca 1 3) (nn - 1) (ca - 1)))
  clear hsp o2 hat hiq0 hra hfa HG HO HB2 HFL HFR
  go_wp2
  go_ret
  exact ⟨_, _, _, rfl, by simpa using HO2.out, HB3.out⟩
 have p2 : ((way : Int) == 2) = false := by simp; omega
 have p2' : ¬ (way : Int) = 2 := by omega
 have hsp : F = g := by rw [<- HG.out]; unfold spoiltF; rw [if_neg hw0, if_neg hw1, if_neg hw2]
 have HO2 := lh (ownSA_reads HO.out)
 rw [hsp] at HO2
 clear hcell hat hiq0 hra hfa HG HO hsp
 go_wp2
 go_ret
 exact ⟨_, _, _, rfl, HO2.out, HB2.out⟩
def insK (s : List Rat) (x : Rat) : Nat -> Nat
 | 0 => 0
 | k + 1 => if x < s.getD k 0 then insK s x k else k + 1
def insQ (s : List Rat) (x : Rat) : List Rat := s.take (insK s x s.length) ++ x :: s.drop (insK s x s.length)
def sortQ (l : List Rat) : List Rat := l.foldl insQ []
theorem insK_le (s : List Rat) (x : Rat) : ∀ k, insK s x k <= k := by
 intro k
 induction k with
 | zero => exact Nat.le_refl _
 | succ k ih =>
  unfold insK
  split
  ·omega
  exact Nat.le_refl _
theorem insQ_len (s : List Rat) (x : Rat) : (insQ s x).length = s.length + 1 := by
 have h := insK_le s x s.length
 unfold insQ
 rw [List.length_append, List.length_take, List.length_cons, List.length_drop]
 omega
theorem sortQ_take {l : List Rat} {k : Nat} {x : Rat} (h : l[k]? = some x) : sortQ (l.take (k + 1)) = insQ (sortQ (l.take k)) x := by
 unfold sortQ
 rw [List.take_add_one, h, List.foldl_append]
 rfl
theorem sortQ_len (l : List Rat) : (sortQ l).length = l.length := by
 have : ∀ (l s : List Rat), (l.foldl insQ s).length = s.length + l.length := by
  intro l
  induction l with
  | nil => intro s; rfl
  | cons x l ih => intro s; rw [List.foldl_cons, ih, insQ_len, List.length_cons]; omega
 unfold sortQ
 rw [this]
 simp
theorem mem_insQ {s : List Rat} {x y : Rat} : y ∈ insQ s x ↔ y = x \/ y ∈ s := by
 unfold insQ
 rw [List.mem_append, List.mem_cons]
 constructor
 ·rintro (h | h | h)
  ·exact .inr (List.mem_of_mem_take h)
  ·exact .inl h
  exact .inr (List.mem_of_mem_drop h)
 rintro (h | h)
 ·exact .inr (.inl h)
 rw [<- List.take_append_drop (insK s x s.length) s, List.mem_append] at h
 rcases h with h | h
 ·exact .inl h
 exact .inr (.inr h)
theorem mem_sortQ {l : List Rat} {y : Rat} : y ∈ sortQ l ↔ y ∈ l := by
 have : ∀ (l s : List Rat), y ∈ l.foldl insQ s ↔ y ∈ l \/ y ∈ s := by
  intro l
  induction l with
  | nil => intro s; simp
  | cons x l ih =>
   intro s
   rw [List.foldl_cons, ih, mem_insQ, List.mem_cons]
   constructor
   ·rintro (h | h | h)
    ·exact .inl (.inr h)
    ·exact .inl (.inl h)
    exact .inr h
   rintro ((h | h) | h)
   ·exact .inr (.inl h)
   ·exact .inl h
   exact .inr (.inr h)
 unfold sortQ
 rw [this]
 simp
def Rising (s : List Rat) : Prop := ∀ i j, i <= j -> j < s.length -> s.getD i 0 <= s.getD j 0
theorem insK_spec (s : List Rat) (x : Rat) : ∀ k, k <= s.length -> (insK s x k = 0 \/ s.getD (insK s x k - 1) 0 <= x) /\ ∀ j, insK s x k <= j -> j < k -> x < s.getD j 0 := by
 intro k
 induction k with
 | zero => intro _; exact ⟨.inl rfl, fun j _ h => absurd h (by omega)⟩
 | succ k ih =>
  intro hk
  unfold insK
  split
  ·rename_i h
   obtain ⟨h1, h2⟩ := ih (by omega)
   refine ⟨h1, fun j hj hj2 => ?_⟩
   by_cases e : j = k
   ·rw [e]; exact h
   exact h2 j hj (by omega)
  rename_i h
  exact ⟨.inr (Rat.not_lt.1 h), fun j hj hj2 => absurd hj2 (by omega)⟩
theorem insQ_at {s : List Rat} {x : Rat} {j : Nat} (hj : j < s.length + 1) : (insQ s x).getD j 0 = if j < insK s x s.length then s.getD j 0 else if j = insK s x s.length then x else s.getD (j - 1) 0 := by
 have hk := insK_le s x s.length
 unfold insQ
 generalize insK s x s.length = k at *
 rw [List.getD_eq_getElem?_getD]
 by_cases h1 : j < k
 ·rw [if_pos h1, List.getElem?_append_left (by rw [List.length_take]; omega), List.getElem?_take, if_pos h1, <- List.getD_eq_getElem?_getD]
 rw [if_neg h1, List.getElem?_append_right (by rw [List.length_take]; omega), List.length_take, Nat.min_eq_left hk]
 by_cases h2 : j = k
 ·rw [if_pos h2, h2, Nat.sub_self]; rfl
 rw [if_neg h2]
 obtain ⟨i, hi⟩ : ∃ i, j - k = i + 1 := ⟨j - k - 1, by omega⟩
 rw [hi, List.getElem?_cons_succ, List.getElem?_drop, show k + i = j - 1 by omega, <- List.getD_eq_getElem?_getD]
theorem insQ_rising {s : List Rat} (h : Rising s) (x : Rat) : Rising (insQ s x) := by
 intro i j hij hj
 rw [insQ_len] at hj
 rw [insQ_at (by omega), insQ_at hj]
 obtain ⟨h1, h2⟩ := insK_spec s x s.length zd
 have hk := insK_le s x s.length
 generalize insK s x s.length = k at *
 by_cases a1 : i < k
 ·rw [if_pos a1]
  by_cases a2 : j < k
  ·rw [if_pos a2]; exact h i j hij (by omega)
  rw [if_neg a2]
  have hx : s.getD i 0 <= x := by
   rcases h1 with h1 | h1
   ·omega
   exact Rat.le_trans (h i (k - 1) (by omega) (by omega)) h1
  by_cases a3 : j = k
  ·rw [if_pos a3]; exact hx
  rw [if_neg a3]; exact Rat.le_trans hx (Rat.le_of_lt (h2 (j - 1) (by omega) (by omega)))
 rw [if_neg a1, if_neg (show ¬ j < k by omega)]
 by_cases a2 : i = k
 ·rw [if_pos a2]
  by_cases a3 : j = k
  ·rw [if_pos a3]; exact Rat.le_refl
  rw [if_neg a3]; exact Rat.le_of_lt (h2 (j - 1) (by omega) (by omega))
 rw [if_neg a2, if_neg (show ¬ j = k by omega)]
 exact h (i - 1) (j - 1) (by omega) (by omega)
theorem sortQ_rising (l : List Rat) : Rising (sortQ l) := by
 have : ∀ (l s : List Rat), Rising s -> Rising (l.foldl insQ s) := by
  intro l
  induction l with
  | nil => intro s h; exact h
  | cons x l ih => intro s h; rw [List.foldl_cons]; exact ih _ (insQ_rising h x)
 exact this l [] (fun i j _ hj => absurd hj (by simp))
theorem mem_getD {l : List Rat} {y : Rat} (h : y ∈ l) : ∃ i, i < l.length /\ l.getD i 0 = y := by
 obtain ⟨i, hi, e⟩ := List.mem_iff_getElem.1 h
 exact ⟨i, hi, by rw [List.getD_eq_getElem?_getD, List.getElem?_eq_getElem hi]; exact e⟩
theorem getD_mem {l : List Rat} {i : Nat} (h : i < l.length) : l.getD i 0 ∈ l := by
 rw [List.getD_eq_getElem?_getD, List.getElem?_eq_getElem h]
 exact List.getElem_mem h
theorem sort_least {l : List Rat} {x : Rat} (h0 : l ≠ []) (h1 : x ∈ l) (h2 : ∀ y ∈ l, x <= y) : (sortQ l).getD 0 0 = x := by
 have hlen : 0 < (sortQ l).length := by rw [sortQ_len]; exact List.length_pos_iff.2 h0
 obtain ⟨i, hi, e⟩ := mem_getD (mem_sortQ.2 h1)
 have h3 := sortQ_rising l 0 i (by omega) hi
 rw [e] at h3
 exact Rat.le_antisymm h3 (h2 _ (mem_sortQ.1 (getD_mem hlen)))
theorem sort_most {l : List Rat} {x : Rat} (h0 : l ≠ []) (h1 : x ∈ l) (h2 : ∀ y ∈ l, y <= x) : (sortQ l).getD (l.length - 1) 0 = x := by
 have hlen : 0 < l.length := List.length_pos_iff.2 h0
 obtain ⟨i, hi, e⟩ := mem_getD (mem_sortQ.2 h1)
 have hl := sortQ_len l
 have h3 := sortQ_rising l i (l.length - 1) (by omega) (by omega)
 rw [e] at h3
 exact Rat.le_antisymm (h2 _ (mem_sortQ.1 (getD_mem (by omega)))) h3
theorem mid_set {s : List Rat} {k : Nat} {y z : Rat} (hk : k <= s.length) : (s.take k ++ y :: s.drop k).set k z = s.take k ++ z :: s.drop k := by
 rw [List.set_append_right _ _ (by rw [List.length_take]; omega), List.length_take, Nat.min_eq_left hk, Nat.sub_self]
 rfl
theorem mid_shift {s : List Rat} {k : Nat} (hk : k < s.length) : s.take (k + 1) ++ s.getD k 0 :: s.drop (k + 1) = s.take k ++ s.getD k 0 :: s.drop k := by
 have e1 : s[k]? = some (s.getD k 0) := by rw [List.getD_eq_getElem?_getD, List.getElem?_eq_getElem hk]; rfl
 have e2 : s.drop k = s.getD k 0 :: s.drop (k + 1) := by
  rw [List.drop_eq_getElem_cons hk, List.getD_eq_getElem?_getD, List.getElem?_eq_getElem hk]
  rfl
 rw [e2, List.take_add_one, e1]
 simp
theorem mid_at {s : List Rat} {k j : Nat} {y : Rat} (hj : j < k) (hk : k <= s.length) : (s.take k ++ y :: s.drop k)[j]? = some (s.getD j 0) := by
 rw [List.getElem?_append_left (by rw [List.length_take]; omega), List.getElem?_take, if_pos hj, List.getElem?_eq_getElem (by omega), List.getD_eq_getElem?_getD, List.getElem?_eq_getElem (by omega)]
 rfl
theorem mid_k {s : List Rat} {k : Nat} {y : Rat} (hk : k <= s.length) : (s.take k ++ y :: s.drop k)[k]? = some y := by
 rw [List.getElem?_append_right (by rw [List.length_take]; omega), List.length_take, Nat.min_eq_left hk, Nat.sub_self]; rfl
theorem ref_sort (A : Option Addr) (n c B m : Nat) (l : List Rat) (w : World) (h : ReadsR w B A n l) (hB : B <= w.heap.size) (hn : n <= 1000000) (hm : m <= 68719476736) (hq : ∀ x ∈ l, QS m x) :
  Calls Tryz.prog 99 #[.slice A n c] w fun e w' => ∃ v, e = .returned v /\ OwnR w' v (sortQ l) /\ (∀ b, v.ownBlock = some b -> w.heap.size <= b) /\ Below w.heap.size w w' := by
 have H := lh h
 have HLN := lh h.len
 have HQ := lh hq
 clear h hq
 go_enter Tryz.func99, Tryz.ntmps99
 go_wp2_with fail
 go_loopw [3, 4] (fun v i wr => ∃ k : Nat, k <= n /\ i = .int .i64 (k : Int) /\ OwnR wr v (sortQ (l.take k)) /\ Hid (∀ b, v.ownBlock = some b -> w.heap.size <= b) /\ Below w.heap.size w wr) (fun _ i _ => n - (intOf i).toNat)
 case atStart => exact ⟨0, by omega, rfl, OwnR.nil _, lh (fun b h => by cases h), Below.refl _ _⟩
 case round =>
  obtain ⟨i, hi, rfl, hown, hfr, hbel⟩ := hrel
  rename World => wr
  by_cases hin : i < n
  ·have k1 : (i : Int) < (n : Int) := by omega
   obtain ⟨x, hx⟩ : ∃ x, l[i]? = some x := ⟨_, List.getElem?_eq_getElem (by have := HLN.out; omega)⟩
   have hst := sortQ_take hx
   have hsl : (sortQ (l.take i)).length = i := by rw [sortQ_len, List.length_take]; have := HLN.out; omega
   have hsq : ∀ y ∈ sortQ (l.take i), QS m y := fun y hy => HQ.out y (List.mem_of_mem_take (mem_sortQ.1 hy))
   have hqx := HQ.out x (List.mem_of_getElem? hx)
   generalize sortQ (l.take i) = s at *
   obtain ⟨ad, gx, ox, r, rfl, hP, hgB, b1, hiq⟩ := (H.out.below (hbel.mono hB)).at_ hx hin
   have hBw := nt hB hbel.size
   have hiq := hiq.more hBw
   obtain ⟨rg, rA, rl, rc, rA', rl', rc'⟩ := r
   replace hiq : IsQ wr wr.heap.size (.agg #[.bool rg, .slice rA rl rc, .slice rA' rl' rc']) x := hiq
   (try simp only [] at b1)
   obtain ⟨As, cs, hv, hle, -⟩ := OwnR.form hown
   rw [hsl] at hv hle
   subst hv
   have HX := lh hx
   have HST := lh hst
   have HSL := lh hsl
   have HSQ := lh hsq
   have HQX := lh hqx
   have HIQ := lh hiq
   have HO := lh hown
   have HBL := lh hbel
   have HB1 := lh b1
   obtain ⟨x0, x1, x2⟩ := b1.c3
   clear hst hsl hsq hqx hiq hown hbel hx hgB b1 hle hBw
   obtain ⟨n9, hn9⟩ : ∃ n9, i + 1 = n9 := ⟨_, rfl⟩
   go_upto_region 6 with fail
   go_cut [3] (fun v wc => ∃ g c', v = .slice (some ⟨g, 0, none⟩) n9 c' /\ w.heap.size <= g /\ OwnR wc v (s ++ [x]) /\ Below w.heap.size w wc)
   case first =>
    go_wp2_with (at_builtin; refine appR rfl (.tmp 14) (.tmp 19) rfl wr _ s x rg rA rl rc rA' rl' rc' rfl HO.out HIQ.out rfl (by rw [HSL.out]; omega) ?_; intro v' w2 hown2 hgr; have HO2 := lh hown2; have HGR := lh hgr; clear hown2 hgr)
    go_meet
    obtain ⟨A2, c2, hv2, -, -⟩ := OwnR.form HO2.out
    rw [List.length_append, HSL.out] at hv2
    have hv2 : _ = Value.slice A2 (i + 1) c2 := hv2
    rw [hn9] at hv2
    have ho2 := HO2.out
    rw [hv2] at ho2
    obtain ⟨g2, rfl⟩ := OwnR.addr ho2 (by rw [List.length_append]; simp)
    exact ⟨g2, c2, hv2, grewL HGR.out hfr.out HBL.out.size g2 (by rw [hv2]; rfl), HO2.out, HBL.out.trans (HGR.out.below HBL.out.size hfr.out)⟩
   case rest =>
   obtain ⟨g, c9, rfl, hg, ho2, hb2⟩ := hcut
   rename World => w2
   have e9 : (i : Int) + 1 = (n9 : Int) := by omega
   rw [hn9] at HST
   have k2 : (i : Int) < (n9 : Int) := by omega
   clear HO hfr x0 x1 x2 HB1 HIQ hP
   have HSLI : Hid (insK s x s.length = insK s x i) := lh (by rw [HSL.out])
   have ho2 : OwnR w2 (.slice (some ⟨g, 0, none⟩) n9 c9) (s.take i ++ x :: s.drop i) := by
    rw [List.take_of_length_le (by rw [HSL.out]; exact Nat.le_refl _), List.drop_of_length_le (by rw [HSL.out]; exact Nat.le_refl _)]
    exact ho2
   have HO2 := lh ho2
   have HB2 := lh hb2
   clear ho2 hb2
   go_wp2_with fail
   go_loopw [5] (fun p wz => ∃ (k : Nat) (y : Rat), k <= i /\ p = .int .i64 (k : Int) /\ Hid (insK s x s.length = insK s x k) /\ OwnR wz (.slice (some ⟨g, 0, none⟩) n9 c9) (s.take k ++ y :: s.drop k) /\ Below w.heap.size w wz) (fun p _ => (intOf p).toNat)
   case atStart => exact ⟨i, x, by omega, rfl, HSLI, HO2.out, HB2.out⟩
   case round =>
    obtain ⟨k, y, hk, rfl, hins, hoz, hbz⟩ := hrel
    rename World => wz
    clear HO2 HB2 HBL
    obtain ⟨ad2, gx2, ox2, r, hA2, hP, hgB, b1, hiq⟩ := (H.out.below (hbz.mono hB)).at_ HX.out hin
    obtain rfl := Option.some.inj hA2
    have hiq := hiq.more (nt hB hbz.size)
    obtain ⟨rg, rA, rl, rc, rA', rl', rc'⟩ := r
    replace hiq : IsQ wz wz.heap.size (.agg #[.bool rg, .slice rA rl rc, .slice rA' rl' rc']) x := hiq
    (try simp only [] at b1)
    have hkl : k <= s.length := by rw [HSL.out]; exact hk
    have k3 : (k : Int) < (n9 : Int) := by omega
    have HIQ := lh hiq
    have HOZ := lh hoz
    have HBZ := lh hbz
    clear hiq hoz hbz hgB
    go_upto_region 7 with fail
    go_cut [35] (fun v wc => ∃ t, v = .bool t /\ Hid (t = true ↔ 0 < k /\ x < s.getD (k - 1) 0) /\ Below wz.heap.size wz wc)
    case first =>
     by_cases hk0 : 0 < k
     ·obtain ⟨k9, hk9⟩ : ∃ k9, k - 1 = k9 := ⟨_, rfl⟩
      have e10 : (k : Int) - 1 = (k9 : Int) := by omega
      have ew : IntKind.i64.wrap (k9 : Int) = (k9 : Int) := IntWalk.i64_in _ (by omega)
      have f0 : (0 : Int) < (k : Int) := by omega
      have f0' : decide ((0 : Int) < (k : Int)) = true := decide_eq_true f0
      have f1 : (k9 : Int) < (n9 : Int) := by omega
      obtain ⟨r2, b2, hiq2⟩ := OwnR.atS HOZ.out (k := k9) (mid_at (by omega) hkl)
      have hq2 := HSQ.out (s.getD k9 0) (getD_mem (by rw [HSL.out]; omega))
      have hz9 : ∃ z, s.getD k9 0 = z := ⟨_, rfl⟩
      obtain ⟨z, hz⟩ := hz9
      rw [hz] at hiq2 hq2
      have HZ := lh (show s.getD (k - 1) 0 = z by rw [hk9]; exact hz)
      obtain ⟨zg, zA, zl, zc, zA', zl', zc'⟩ := r2
      replace hiq2 : IsQ wz wz.heap.size (.agg #[.bool zg, .slice zA zl zc, .slice zA' zl' zc']) z := hiq2
      (try simp only [] at b2)
      have hcm := fun w' (hb : Below wz.heap.size wz w') => ref_cmpQ z x wz.heap.size _ _ w' (hiq2.below hb) (HIQ.out.below hb) hb.size (hq2.mono hm) (HQX.out.mono hm)
      have hgt := cmp_gt x z
      generalize cmpQ z x = cv at *
      have HCM := lh hcm
      have HGT := lh hgt
      clear hcm hgt hiq2 hq2 hz hk9
      obtain ⟨b2q0, b2q1, b2q2⟩ := b2.c3; have c2 := b2.drew; have c2l := c2.lt; obtain ⟨b1q0, b1q1, b1q2⟩ := b1.c3; have c1 := b1.drew; have c1l := c1.lt; have hc := bdrew0 wz; go_region_held3 (fun w' => w'.cell? ⟨g, k9 * 3, none⟩ = some (.bool zg) /\ w'.cell? ⟨g, k9 * 3 + 1, none⟩ = some (.slice zA zl zc) /\ w'.cell? ⟨g, k9 * 3 + 2, none⟩ = some (.slice zA' zl' zc') /\ w'.cell? ⟨gx2, ox2, none⟩ = some (.bool rg) /\ w'.cell? ⟨gx2, ox2 + 1, none⟩ = some (.slice rA rl rc) /\ w'.cell? ⟨gx2, ox2 + 2, none⟩ = some (.slice rA' rl' rc')) (go_keep) (first | (go_at_call 57; (with_reducible refine (HCM.out _ hc).mono ?_); rintro e w1 ⟨rfl, hw1⟩; have c2 := c2.below hw1 c2.lt; (try clear c2q0 c2q1 c2q2); obtain ⟨c2q0, c2q1, c2q2⟩ := c2.c3; (try clear c2l); have c2l := c2.lt; have c1 := c1.below hw1 c1.lt; (try clear c1q0 c1q1 c1q2); obtain ⟨c1q0, c1q1, c1q2⟩ := c1.c3; (try clear c1l); have c1l := c1.lt; have hc := bthen hc hw1))
      all_goals
       go_wp2
       go_meet
       exact ⟨_, rfl, lh (by rw [decide_eq_true_eq, HZ.out]; exact ⟨fun h => ⟨hk0, HGT.out.1 h⟩, fun h => HGT.out.2 h.2⟩), hc⟩
     have f0 : ¬ (0 : Int) < (k : Int) := by omega
     have f0' : decide ((0 : Int) < (k : Int)) = false := decide_eq_false f0
     clear b1
     go_quiet (fail)
     go_wp2
     go_meet
     exact ⟨false, rfl, lh ⟨fun h => absurd h Bool.false_ne_true, fun h => absurd h.1 hk0⟩, by first | exact bdrew0 _ | exact bdrewN (Below.refl _ _) _⟩
    case rest =>
    obtain ⟨t, rfl, ht, hbt⟩ := hcut
    rename World => wy
    have hoy := HOZ.out.next hbt
    have hby := HBZ.out.trans (hbt.mono HBZ.out.size)
    have hiq := (HIQ.out.below hbt).more hbt.size
    have b1 := b1.below hbt b1.lt
    clear HOZ HBZ HIQ hbt
    obtain ⟨r5, b5, -⟩ := OwnR.atS hoy (k := k) (mid_k hkl)
    obtain ⟨y0, y1, y2⟩ := b5.c3
    have z0 := OwnR.frozen hoy (k * 3)
    have z1 := OwnR.frozen hoy (k * 3 + 1)
    have z2 := OwnR.frozen hoy (k * 3 + 2)
    clear b5
    cases t with
    | true =>
     obtain ⟨hk0, hlt⟩ := ht.out.1 rfl
     obtain ⟨k9, hk9⟩ : ∃ k9, k - 1 = k9 := ⟨_, rfl⟩
     have e10 : (k : Int) - 1 = (k9 : Int) := by omega
     have ew : IntKind.i64.wrap (k9 : Int) = (k9 : Int) := IntWalk.i64_in _ (by omega)
     have f1 : (k9 : Int) < (n9 : Int) := by omega
     rw [hk9] at hlt
     obtain ⟨r2, b2, hiq2⟩ := OwnR.atS hoy (k := k9) (mid_at (by omega) hkl)
     have hst := OwnR.store hoy k r2 hiq2
     have hkk : k = k9 + 1 := by omega
     rw [mid_set hkl, hkk, mid_shift (by omega), <- hkk] at hst
     have hin2 : insK s x s.length = insK s x k9 := by
      rw [hins.out, hkk]
      show (if x < s.getD k9 0 then insK s x k9 else k9 + 1) = _
      rw [if_pos hlt]
     obtain ⟨zg, zA, zl, zc, zA', zl', zc'⟩ := r2
     obtain ⟨x0, x1, x2⟩ := b2.c3
     (try simp only [] at x0 x1 x2 hst)
     have HST2 := lh hst
     have HIN2 := lh hin2
     have HBY := lh (bset3' (i := k * 3) (j := k * 3 + 1) (k := k * 3 + 2) hby hg (.bool zg) (.slice zA zl zc) (.slice zA' zl' zc'))
     have hk9i : k9 <= i := by omega
     have hk9k : k9 < k := by omega
     clear hst hin2 hby b1 b2 hiq2 hiq hoy hkk hlt hk9 ht hins hP
     go_wp2
     exact ⟨⟨k9, s.getD k9 0, hk9i, by go_num, HIN2, HST2.out, HBY.out⟩, by simp [intOf]; omega⟩
    | false =>
     have hin2 : insK s x s.length = k := by
      rw [hins.out]
      rcases Nat.eq_zero_or_pos k with h | h
      ·rw [h]; rfl
      obtain ⟨k9, hkk⟩ : ∃ k9, k = k9 + 1 := ⟨k - 1, by omega⟩
      rw [hkk]
      show (if x < s.getD k9 0 then insK s x k9 else k9 + 1) = _
      rw [if_neg (fun hl => by have := ht.out.2 ⟨h, by rw [hkk]; exact hl⟩; cases this)]
     have hst := OwnR.store hoy k ⟨rg, rA, rl, rc, rA', rl', rc'⟩ hiq
     rw [mid_set hkl, <- hin2] at hst
     have hst : OwnR _ _ (insQ s x) := hst
     rw [<- HST.out, hin2] at hst
     obtain ⟨x0, x1, x2⟩ := b1.c3
     (try simp only [] at x0 x1 x2 hst)
     have HST2 := lh hst
     have HBY := lh (bset3' (i := k * 3) (j := k * 3 + 1) (k := k * 3 + 2) hby hg (.bool rg) (.slice rA rl rc) (.slice rA' rl' rc'))
     have HGF : Hid (∀ b, (Value.slice (some ⟨g, 0, none⟩) n9 c9).ownBlock = some b -> w.heap.size <= b) := lh fun b hb => by
      have : g = b := by simpa [Value.ownBlock] using hb
      omega
     clear hst hin2 hby b1 hiq hoy ht hins
     go_wp2
     exact ⟨⟨n9, by omega, by go_num, HST2.out, HGF, HBY.out⟩, by simp [intOf]; omega⟩
  obtain rfl : i = n := by omega
  have k1 : ¬ (i : Int) < (i : Int) := by omega
  rw [List.take_of_length_le (by have := HLN.out; omega)] at hown
  have HO := lh hown
  have HBL := lh hbel
  clear hown hbel
  go_wp2
  go_ret
  exact ⟨_, rfl, HO.out, hfr.out, HBL.out⟩
theorem ref_mean (A : Option Addr) (n c B m : Nat) (l : List Rat) (w : World) (h : ReadsR w B A n l) (hB : B <= w.heap.size) (hn : n <= 10000) (hn0 : 0 < n) (hm : m <= 60000) (hl : ∀ x ∈ l, QS m x) :
  Calls Tryz.prog 100 #[.slice A n c] w (RetQ (sumQ l / ((n : Nat) : Rat)) w) := by
 have hlen := h.len
 have hsum := fun w' (hb : Below w.heap.size w w') => ref_total A n c B m l w' (h.below (hb.mono hB)) (nt hB hb.size) (by omega) hm hl
 have hqs : QS 68719476736 (sumQ l) := by
  have := QS.sum l hl l.length
  rw [List.take_of_length_le zd] at this
  refine this.mono ?_
  have := Nat.mul_le_mul (show l.length <= 10000 by omega) (show m + 1 <= 60001 by omega)
  omega
 have hqn : QS 14 ((n : Nat) : Rat) := QS.nat (by omega) (by omega)
 have hc : (((n : Nat) : Int) : Rat) = ((n : Nat) : Rat) := Rat.intCast_natCast n
 have hof := fun w => ref_of ((n : Nat) : Int) w (by omega) (by omega)
 rw [hc] at hof
 have hn1 : ((n : Nat) : Rat) ≠ 0 := by
  intro e
  have : n = 0 := by exact_mod_cast e
  omega
 have hdv := fun w' V1 V2 (h1 : IsQ w' w'.heap.size V1 (sumQ l)) (h2 : IsQ w' w'.heap.size V2 ((n : Nat) : Rat)) => ref_divQ (sumQ l) ((n : Nat) : Rat) w'.heap.size V1 V2 w' h1 h2 zd hqs (hqn.mono (by omega)) hn1
 generalize sumQ l / ((n : Nat) : Rat) = q at *
 generalize sumQ l = x at *
 generalize ((n : Nat) : Rat) = y at *
 have HS := lh hsum
 have HO := lh hof
 have HD := lh hdv
 clear hsum hof hdv h hl hc hqn hn1 hqs hB
 have b0 := Blk.new w  70 #[.bool false, .slice none 0 0, .slice none 0 0]; have hB := balloc1 w (.cells #[.bool false, .slice none 0 0, .slice none 0 0] 70); have hZ := lh (show (w.alloc (.cells #[.bool false, .slice none 0 0, .slice none 0 0] 70)).heap.size = w.heap.size + 1 from by simp)
 go_enter Tryz.func100, Tryz.ntmps100
 go_wp2_with fail
 generalize (w.alloc (.cells #[.bool false, .slice none 0 0, .slice none 0 0] 70)) = W at *
 refine (HS.out W hB).mono ?_
 rintro e w1 ⟨v1, rfl, hR1, hw1⟩
 obtain ⟨g1, A1, l1, c1c, A1', l1', c1c', rfl⟩ := hR1.shape
 have b0 := b0.below hw1 b0.lt
 have hc := hw1
 go_wp2_with fail
 refine (HO.out w1).mono ?_
 rintro e w2 ⟨v2, rfl, hR2, hw2⟩
 obtain ⟨g2, A2, l2, c2c, A2', l2', c2c', rfl⟩ := hR2.shape
 have b0 := b0.below hw2 b0.lt
 have hR1 := (hR1.next zd hw2).more hw2.size
 have hc := bthen hc hw2
 go_wp2_with fail
 refine (HD.out w2 _ _ hR1 hR2).mono ?_
 rintro e w3 ⟨v3, rfl, hR3, hw3⟩
 obtain ⟨g3, A3, l3, c3c, A3', l3', c3c', rfl⟩ := hR3.shape
 have b0 := b0.below hw3 b0.lt
 have hc := bthen hc hw3
 have HF := lh (retQ_done hB hc hR3 b0 zd)
 obtain ⟨b0q0, b0q1, b0q2, b0f0, b0f1, b0f2, b0s0, b0s1, b0s2⟩ := b0.f3
 clear hR1 hR2 hR3 hc hw1 hw2 hw3
 go_wp2
 refine bodyPost_ret (v := .agg #[.bool g3, .slice A3 l3 c3c, .slice A3' l3' c3c']) (by simp [results, Tryz.results100, go_sem, b0s0, b0s1, b0s2]) rfl ?_
 exact HF.out
def pairsL (d : Nat -> Nat -> Rat) (p q : List Nat) : List Rat := p.flatMap fun i => q.map (d i)
theorem pairsL_take {d : Nat -> Nat -> Rat} {p q : List Nat} {k i : Nat} (h : p[k]? = some i) : pairsL d (p.take (k + 1)) q = pairsL d (p.take k) q ++ q.map (d i) := by
 unfold pairsL
 rw [List.take_add_one, h, List.flatMap_append]
 simp
theorem pairsL_len (d : Nat -> Nat -> Rat) (p q : List Nat) : (pairsL d p q).length = p.length * q.length := by
 unfold pairsL
 induction p with
 | nil => simp
 | cons i p ih => rw [List.flatMap_cons, List.length_append, ih, List.length_map, List.length_cons, Nat.add_mul]; omega
theorem mem_pairsL {d : Nat -> Nat -> Rat} {p q : List Nat} {x : Rat} : x ∈ pairsL d p q ↔ ∃ i, i ∈ p /\ ∃ j, j ∈ q /\ d i j = x := by
 unfold pairsL
 rw [List.mem_flatMap]
 simp only [List.mem_map]
theorem sumQ_append (a b : List Rat) : sumQ (a ++ b) = sumQ a + sumQ b := by
 unfold sumQ
 rw [List.foldl_append]
 have : ∀ (b : List Rat) (z : Rat), b.foldl (· + ·) z = z + b.foldl (· + ·) 0 := by
  intro b
  induction b with
  | nil => intro z; show z = z + 0; rw [Rat.add_zero]
  | cons x b ih => intro z; rw [List.foldl_cons, List.foldl_cons, ih (z + x), ih (0 + x)]; grind
 exact this b _
theorem sumQ_map (g : Nat -> Rat) (q : List Nat) : sumQ (q.map g) = sumOver g q := by
 induction q with
 | nil => rfl
 | cons i q ih =>
  rw [List.map_cons, show g i :: q.map g = [g i] ++ q.map g from rfl, sumQ_append, ih]
  show (0 + g i) + sumOver g q = g i + sumOver g q
  rw [Rat.zero_add]
theorem sumQ_pairs (d : Nat -> Nat -> Rat) (p q : List Nat) : sumQ (pairsL d p q) = sumPP d p q := by
 induction p with
 | nil => rfl
 | cons i p ih =>
  show sumQ (q.map (d i) ++ pairsL d p q) = sumOver (d i) q + sumPP d p q
  rw [sumQ_append, ih, sumQ_map]
theorem betw_is {how : Nat} {d : Nat -> Nat -> Rat} {p q : List Nat} {x : Rat} (hp : p ≠ []) (hq : q ≠ []) (h : LinkIs how d p q x) :
  (how = 1 -> (sortQ (pairsL d p q)).getD 0 0 = x) /\ (how = 2 -> (sortQ (pairsL d p q)).getD ((pairsL d p q).length - 1) 0 = x) /\ (¬ how = 1 -> ¬ how = 2 -> sumQ (pairsL d p q) / (((pairsL d p q).length : Nat) : Rat) = x) := by
 have hne : pairsL d p q ≠ [] := by
  intro e
  have := pairsL_len d p q
  rw [e] at this
  have h1 := List.length_pos_iff.2 hp
  have h2 := List.length_pos_iff.2 hq
  have := Nat.mul_pos h1 h2
  simp at *
  omega
 unfold LinkIs at h
 refine ⟨fun e => ?_, fun e => ?_, fun e1 e2 => ?_⟩
 ·rw [if_pos e] at h
  refine sort_least hne (mem_pairsL.2 h.1) (fun y hy => ?_)
  obtain ⟨i, hi, j, hj, rfl⟩ := mem_pairsL.1 hy
  exact h.2 i hi j hj
 ·rw [if_neg (by omega), if_pos e] at h
  refine sort_most hne (mem_pairsL.2 h.1) (fun y hy => ?_)
  obtain ⟨i, hi, j, hj, rfl⟩ := mem_pairsL.1 hy
  exact h.2 i hi j hj
 rw [if_neg e1, if_neg e2] at h
 rw [sumQ_pairs, pairsL_len, <- h]
 have h1 := List.length_pos_iff.2 hp
 have h2 := List.length_pos_iff.2 hq
 have h3 := Nat.mul_pos h1 h2
 rw [Rat.mul_div_cancel (by intro e; have : p.length * q.length = 0 := (by exact_mod_cast e); omega)]
theorem Reads.ints {w : World} {B n k : Nat} {A : Option Addr} {p : List Nat} (h : Reads w B 1 A n (p.map iv)) (hk : k < n) : ∃ ad x, A = some ad /\ ad.block < B /\ p[k]? = some x /\ w.cell? (ad.add k) = some (.int .i64 ((x : Nat) : Int)) := Reads.atf h hk
theorem farR_reads {w : World} {B n : Nat} {A : Option Addr} {f : List (List Rat)} (h : ReadsRR w B A n f) (hs : SymF f) (hn : f.length = n) {i j : Nat} (hi : i < n) (hj : j < n) :
  ∃ ad g o ad2 g2 o2 c r, A = some ad /\ ad.add i = ⟨g, o, none⟩ /\ At1 w g o (.slice (some ad2) n c) /\ g < B /\ ad2.add (j * 3) = ⟨g2, o2, none⟩ /\ g2 < B /\ AtR w g2 o2 r /\ IsQ w B r.v (dOf f i j) := by
 obtain ⟨l, hl⟩ : ∃ l, f[i]? = some l := ⟨_, List.getElem?_eq_getElem (by omega)⟩
 have hld : f.getD i [] = l := by rw [List.getD_eq_getElem?_getD, hl]; rfl
 have hlen := hs.row i (by omega)
 rw [hld] at hlen
 obtain ⟨ad, A1, m1, c1, rfl, hlt, hc, hr⟩ := h.at_ hl
 obtain rfl : l.length = m1 := hr.len
 obtain ⟨x, hx⟩ : ∃ x, l[j]? = some x := ⟨_, List.getElem?_eq_getElem (by omega)⟩
 obtain ⟨ad2, g2, o2, r, rfl, hP2, hg2, b2, iq2⟩ := ReadsR.at_ hr hx (by omega)
 obtain ⟨g, o, hP, hg⟩ := plainAdd hc
 rw [hP] at hc
 rw [show l.length = n by omega] at hc
 have hd : dOf f i j = x := by
  unfold dOf
  rw [hld, List.getD_eq_getElem?_getD, hx]
  rfl
 rw [hd]
 exact ⟨ad, g, o, ad2, g2, o2, c1, r, rfl, hP, At1.mk' hc, by omega, hP2, hg2, b2, iq2⟩
section
variable {ops : Array Oper} {o : Oper} {a : Act} {Q : Exit -> Act -> World -> Prop} {K : Act -> World -> Prop} {Z : Prop}
theorem stepRd (hgd : o.guard = none) (s x : Operand)
  (ho : o.op = .call { callee := .builtin .append, args := #[s, x], argTypes := #[97, 97] })
  (wr : World) (v : Value) (ql : List Rat) (q : Rat) (g : Bool) (A : Option Addr) (l c : Nat) (A' : Option Addr) (l' c' : Nat) (hs : a.eval s = v) (hown : OwnR wr v ql) (hq : IsQ wr wr.heap.size (.agg #[.bool g, .slice A l c, .slice A' l' c']) q) (hx : a.eval x = .slice (some ⟨wr.heap.size, 0, none⟩) 1 1) (hl : ql.length <= 1000000)
  (h : ∀ v' w1, OwnR w1 v' (ql ++ [q]) -> Grew wr w1 v v' -> K (a.put o.dst v') w1) : if Region.wanted o (yielded ops a.tmps) = true then Oper.wp Tryz.prog o a (wr.alloc (.cells #[.bool g, .slice A l c, .slice A' l' c'] 70)).drew K Q else Z := by
 obtain ⟨rl, hr, he⟩ := hown
 have hrl := he.1
 refine stepW Tryz.eltR (by omega) hgd s x ho (wr.alloc (.cells #[.bool g, .slice A l c, .slice A' l' c'] 70)).drew v rl (wr.heap.size + 1) (some ⟨wr.heap.size, 0, none⟩) 1 1 [⟨g, A, l, c, A', l', c'⟩] hs ((hr.alloc _).drewN 1) hx (readsR1 wr ⟨g, A, l, c, A', l', c'⟩) RC.one (by unfold maxLen; omega) (by omega) ?_
 intro v' w1 h1 h2
 have hg : Grew wr w1 v v' := by
  refine ⟨h2.os, h2.tape, h2.output, nt (by simp) h2.size, fun k hk hne => (h2.block k (by simp; omega) hne).trans (Below.heap_alloc wr _ k hk), fun k hk => ?_⟩
  rcases h2.own k hk with h3 | h3
  ·exact .inl h3
  exact .inr (by simp at h3; omega)
 exact h v' w1 (OwnR.snoc (r := ⟨g, A, l, c, A', l', c'⟩) hr he hq h1 hg) hg
end
theorem ref_between (A A1 A2 : Option Addr) (n c n1 c1 n2 c2 B how m : Nat) (f : List (List Rat)) (p q : List Nat) (x : Rat) (w : World) (h : ReadsRR w B A n f) (hB : B <= w.heap.size) (hs : SymF f) (hfn : f.length = n) (hn : n <= 64) (hm : m <= 60000) (hq : ∀ i j, i < n -> j < n -> QS m (dOf f i j))
  (h1 : Reads w B 1 A1 n1 (p.map iv)) (h2 : Reads w B 1 A2 n2 (q.map iv)) (hp : ∀ i ∈ p, i < n) (hqn : ∀ i ∈ q, i < n) (hn1 : 1 <= n1) (hn1' : n1 <= 64) (hn2 : 1 <= n2) (hn2' : n2 <= 64) (hhow : how = 1 \/ how = 2 \/ how = 3) (hx : LinkIs how (dOf f) p q x) :
  Calls Tryz.prog 63 #[.slice A n c, .slice A1 n1 c1, .slice A2 n2 c2, .int .i64 (how : Int)] w (RetQ x w) := by
 have l1 : p.length = n1 := h1.lenf
 have l2 : q.length = n2 := h2.lenf
 have hbi := betw_is (by intro e; rw [e] at l1; simp at l1; omega) (by intro e; rw [e] at l2; simp at l2; omega) hx
 have hpq : ∀ y ∈ pairsL (dOf f) p q, QS m y := fun y hy => by
  obtain ⟨i, hi, j, hj, rfl⟩ := mem_pairsL.1 hy
  exact hq i j (hp i hi) (hqn j hj)
 have hpl := pairsL_len (dOf f) p q
 rw [l1, l2] at hpl
 have H := lh h
 have HS := lh hs
 have HFN := lh hfn
 have H1 := lh h1
 have H2 := lh h2
 have HP := lh hp
 have HQN := lh hqn
 have HQ := lh hq
 have HBI := lh hbi
 have HPQ := lh hpq
 have HL1 := lh l1
 have HL2 := lh l2
 have HPL := lh hpl
 have HHOW := lh hhow
 have hBB := hB
 clear h hs hfn h1 h2 hp hqn hq hbi hpq l1 l2 hpl hx hB hhow
 have b0 := Blk.new w  70 #[.bool false, .slice none 0 0, .slice none 0 0]; have hB := balloc1 w (.cells #[.bool false, .slice none 0 0, .slice none 0 0] 70); have hZ := lh (show (w.alloc (.cells #[.bool false, .slice none 0 0, .slice none 0 0] 70)).heap.size = w.heap.size + 1 from by simp)
 go_enter Tryz.func63, Tryz.ntmps63
 go_wp2_with fail
 generalize (w.alloc (.cells #[.bool false, .slice none 0 0, .slice none 0 0] 70)) = W at *
 have HW := lh hB
 have HB0 := lh b0
 clear hB b0
 obtain ⟨D, hD⟩ : ∃ D, dOf f = D := ⟨_, rfl⟩
 rw [hD] at HQ HBI HPQ HPL
 have HD := lh hD
 clear hD
 go_loopw [9, 10] (fun v pi wr => ∃ i : Nat, i <= n1 /\ pi = .int .i64 (i : Int) /\ OwnR wr v (pairsL D (p.take i) q) /\ Hid (∀ b, v.ownBlock = some b -> W.heap.size <= b) /\ Below W.heap.size W wr) (fun _ pi _ => n1 - (intOf pi).toNat)
 case atStart => exact ⟨0, by omega, rfl, OwnR.nil _, lh (fun b h => by cases h), Below.refl _ _⟩
 case round =>
  obtain ⟨i, hi, rfl, ho, hfr, hbw⟩ := hrel
  rename World => wr
  by_cases hin : i < n1
  ·have k1 : (i : Int) < (n1 : Int) := by omega
   have HO := lh ho
   have HBW := lh hbw
   clear ho hbw
   obtain ⟨pi, hpi⟩ : ∃ x, p[i]? = some x := ⟨_, List.getElem?_eq_getElem (by rw [HL1.out]; exact hin)⟩
   have HPI := lh hpi
   have HTK := lh (pairsL_take (d := D) (q := q) hpi)
   have hpin := HP.out pi (List.mem_of_getElem? hpi)
   clear hpi
   go_wp2_with fail
   go_loopw [9, 11] (fun v pk wk => ∃ k : Nat, k <= n2 /\ pk = .int .i64 (k : Int) /\ OwnR wk v (pairsL D (p.take i) q ++ (q.take k).map (D pi)) /\ Hid (∀ b, v.ownBlock = some b -> W.heap.size <= b) /\ Below W.heap.size W wk) (fun _ pk _ => n2 - (intOf pk).toNat)
   case atStart => exact ⟨0, by omega, rfl, by simpa using HO.out, hfr, HBW.out⟩
   case round =>
    obtain ⟨k, hk, rfl, ho, hfr2, hbk⟩ := hrel
    rename World => wk
    by_cases hkn : k < n2
    ·have k2 : (k : Int) < (n2 : Int) := by omega
     have hBw : Below w.heap.size w wk := HW.out.trans (hbk.mono HW.out.size)
     obtain ⟨ad1, x1, rfl, hlt1, hx1, hc1⟩ := Reads.ints (H1.out.below (hBw.mono hBB)) hin
     obtain rfl := Option.some.inj (HPI.out.symm.trans hx1)
     obtain ⟨ad2, qk, rfl, hlt2, hqk, hc2⟩ := Reads.ints (H2.out.below (hBw.mono hBB)) hkn
     have hqkn := HQN.out qk (List.mem_of_getElem? hqk)
     obtain ⟨ad, g3, o3, ad4, g4, o4, cq4, r, rfl, hP3, b3, hg3, hP4, hg4, b4, hiq⟩ := farR_reads (i := pi) (j := qk) (H.out.below rkindR (hBw.mono hBB)) HS.out HFN.out hpin hqkn
     obtain ⟨g1, o1, hP1, hg1⟩ := plainAdd hc1
     rw [hP1] at hc1
     obtain ⟨g2, o2, hP2, hg2⟩ := plainAdd hc2
     rw [hP2] at hc2
     have hiq := hiq.more (nt hBB hBw.size)
     rw [HD.out] at hiq
     have hsn : pairsL D (p.take i) q ++ (q.take (k + 1)).map (D pi) = (pairsL D (p.take i) q ++ (q.take k).map (D pi)) ++ [D pi qk] := by
      rw [List.take_add_one, hqk, List.append_assoc, List.map_append]; rfl
     have hlq : (pairsL D (p.take i) q ++ (q.take k).map (D pi)).length <= 1000000 := by
      rw [List.length_append, pairsL_len, List.length_map, List.length_take, List.length_take]
      have := Nat.mul_le_mul (show min i p.length <= 64 by have := HL1.out; omega) (show q.length <= 64 by have := HL2.out; omega)
      omega
     have e1 : (pi : Int) < (n : Int) := by omega
     have e2 : (qk : Int) < (n : Int) := by omega
     generalize D pi qk = y at *
     obtain ⟨rg, rA, rl, rc, rA', rl', rc'⟩ := r
     replace hiq : IsQ wk wk.heap.size (.agg #[.bool rg, .slice rA rl rc, .slice rA' rl' rc']) y := hiq
     (try simp only [] at b4)
     have b1 := At1.mk' hc1
     have b2 := At1.mk' hc2
     have HIQ := lh hiq
     have HO2 := lh ho
     have HBK := lh hbk
     have HSN := lh hsn
     have HLQ := lh hlq
     have hb8 : B <= wk.heap.size := nt hBB hBw.size
     have D1 := lh b1
     have D2 := lh b2
     have D3 := lh b3
     have D4 := lh b4
     have HFW : Hid (∀ b, u9.ownBlock = some b -> w.heap.size <= b) := lh fun b hb => nt HW.out.size (hfr2.out b hb)
     have HLT : Hid (g1 < w.heap.size /\ g2 < w.heap.size /\ g3 < w.heap.size /\ g4 < w.heap.size) := lh (by omega)
     clear hiq ho hbk hsn hlq hqk hx1 hlt1 hlt2 hg1 hg2 hg3 hg4 hc1 hc2 hb8
     go_upto_region 8 with fail
     obtain ⟨b1q0, b1q1⟩ := b1.c2; have c1 := b1.drew; have c1l := c1.lt; obtain ⟨b2q0, b2q1⟩ := b2.c2; have c2 := b2.drew; have c2l := c2.lt; obtain ⟨b3q0, b3q1⟩ := b3.c2; have c3 := b3.drew; have c3l := c3.lt; obtain ⟨b4q0, b4q1, b4q2⟩ := b4.c3; have c4 := b4.drew; have c4l := c4.lt; have hc := bdrew0 wk; go_region_held3 (fun w' => w'.cell? ⟨g1, o1, none⟩ = some (.int .i64 (pi : Int)) /\ w'.cell? ⟨g2, o2, none⟩ = some (.int .i64 (qk : Int)) /\ w'.cell? ⟨g3, o3, none⟩ = some (.slice (some ad4) n cq4) /\ w'.cell? ⟨g4, o4, none⟩ = some (.bool rg) /\ w'.cell? ⟨g4, o4 + 1, none⟩ = some (.slice rA rl rc) /\ w'.cell? ⟨g4, o4 + 2, none⟩ = some (.slice rA' rl' rc')) (go_keep) (first | (refine stepRd rfl (.tmp 25) (.tmp 39) rfl wk _ _ y rg rA rl rc rA' rl' rc' (by simp [Act.eval, Act.put]) HO2.out HIQ.out (by simp [Act.eval, Act.put]) HLQ.out ?_; intro v8 w8 ho8 hg8; have HO8 := lh ho8; have HF8 := lh (grewL hg8 hfr2.out HBK.out.size); have HB8 := lh (HBK.out.trans (hg8.below HBK.out.size hfr2.out)); have h8 := hg8.below hBw.size HFW.out; clear b1q0 b2q0 b3q0 b4q0 b4q1 b4q2; have c1 := D1.out.below h8 HLT.out.1; have c2 := D2.out.below h8 HLT.out.2.1; have c3 := D3.out.below h8 HLT.out.2.2.1; have c4 := D4.out.below h8 HLT.out.2.2.2; obtain ⟨c1q0, -⟩ := c1.c2; obtain ⟨c2q0, -⟩ := c2.c2; obtain ⟨c3q0, -⟩ := c3.c2; obtain ⟨c4q0, c4q1, c4q2⟩ := c4.c3; clear ho8 hg8 h8) | (refine stepR rfl (.tmp 25) (.tmp 39) rfl wk.drew _ _ y rg rA rl rc rA' rl' rc' (by simp [Act.eval, Act.put]) (HO2.out.next hc) ((HIQ.out.next zd hc).more hc.size) (by simp [Act.eval, Act.put]) HLQ.out ?_; intro v8 w8 ho8 hg8; have HO8 := lh ho8; have HF8 := lh (grewL hg8 hfr2.out (nt HBK.out.size hc.size)); have HB8 := lh ((HBK.out.trans (hc.mono HBK.out.size)).trans (hg8.below (nt HBK.out.size hc.size) hfr2.out)); have h8 := (hc.mono hBw.size).trans (hg8.below (nt hBw.size hc.size) HFW.out); clear b1q0 b2q0 b3q0 b4q0 b4q1 b4q2; have c1 := D1.out.below h8 HLT.out.1; have c2 := D2.out.below h8 HLT.out.2.1; have c3 := D3.out.below h8 HLT.out.2.2.1; have c4 := D4.out.below h8 HLT.out.2.2.2; obtain ⟨c1q0, -⟩ := c1.c2; obtain ⟨c2q0, -⟩ := c2.c2; obtain ⟨c3q0, -⟩ := c3.c2; obtain ⟨c4q0, c4q1, c4q2⟩ := c4.c3; clear ho8 hg8 h8))
     all_goals
      go_wp2
      exact ⟨⟨k + 1, by omega, by go_num, by rw [HSN.out]; exact HO8.out, HF8.out, HB8.out⟩, by simp [intOf]; omega⟩
    obtain rfl : k = n2 := by omega
    have k2 : ¬ (k : Int) < (k : Int) := by omega
    rw [List.take_of_length_le (l := q) (by rw [HL2.out]; exact Nat.le_refl _), <- HTK.out] at ho
    have HO2 := lh ho
    have HBK := lh hbk
    clear ho hbk
    go_wp2
    exact ⟨⟨i + 1, by omega, by go_num, HO2.out, hfr2, HBK.out⟩, by simp [intOf]; omega⟩
  obtain rfl : i = n1 := by omega
  have k1 : ¬ (i : Int) < (i : Int) := by omega
  rw [List.take_of_length_le (l := p) (by rw [HL1.out]; exact Nat.le_refl _)] at ho
  obtain ⟨A5, c5, hv, -, -⟩ := OwnR.form ho
  rw [HPL.out] at hv
  obtain ⟨N, hN⟩ : ∃ N, i * n2 = N := ⟨_, rfl⟩
  rw [hN] at hv
  subst hv
  have hN1 : 1 <= N := by rw [<- hN]; exact Nat.mul_pos hn1 hn2
  have hN2 : N <= 4096 := by rw [<- hN]; exact Nat.mul_le_mul hn1' hn2'
  rw [hN] at HPL
  have HN := lh hN
  generalize pairsL D p q = L at *
  rw [HPL.out] at HBI
  have hrd := OwnR.reads_ ho
  have HSORT := lh (ref_sort A5 N c5 wr.heap.size m L wr hrd zd (by omega) (by omega) HPQ.out)
  have HO := lh ho
  have HBW := lh (bthen HW.out hbw)
  have hb0 := HB0.out.below hbw HB0.out.lt
  have HB1 := lh hb0
  clear ho hbw hrd hb0 HB0 hN
  go_wp2_with fail
  refine HSORT.out.mono ?_
  rintro e w2 ⟨v, rfl, hos, hfs, hb2⟩
  obtain ⟨A6, c6, hv, -, -⟩ := OwnR.form hos
  rw [sortQ_len, HPL.out] at hv
  subst hv
  obtain ⟨g6, rfl⟩ := OwnR.addr hos (by rw [sortQ_len, HPL.out]; omega)
  have b0 := HB1.out.below hb2 HB1.out.lt
  have hgw : w.heap.size < wr.heap.size := HB1.out.lt
  have hne : ¬ g6 = w.heap.size := fun e => by have := hfs g6 rfl; omega
  have hB2 := bthen HBW.out hb2
  have hsz2 := hb2.size
  have hlen := sortQ_len L
  rw [HPL.out] at hlen
  have HRD := lh ((OwnR.reads_ HO.out).below hb2)
  clear HSORT HB1 HBW HO hb2
  by_cases hw1 : how = 1
  ·subst hw1
   have hx := HBI.out.1 rfl
   obtain ⟨r, c2, hIx⟩ := OwnR.atS hos (k := 0) (q := x) (by rw [<- hx, List.getD_eq_getElem?_getD, List.getElem?_eq_getElem (by omega)]; rfl)
   obtain ⟨rg, rA, rl, rc, rA', rl', rc'⟩ := r
   have hIx : IsQ w2 w2.heap.size (.agg #[.bool rg, .slice rA rl rc, .slice rA' rl' rc']) x := hIx
   obtain ⟨x0, x1, x2⟩ := c2.c3
   (try simp only [] at x0 x1 x2)
   have HF := lh (retQ_done hB2 (Below.refl _ _) hIx b0 zd)
   have k0 : (0 : Int) < (N : Int) := by omega
   obtain ⟨b0q0, b0q1, b0q2, b0f0, b0f1, b0f2, b0s0, b0s1, b0s2⟩ := b0.f3
   clear hos hfs hx c2 hIx hB2 hlen
   go_wp2
   refine bodyPost_ret (v := .agg #[.bool rg, .slice rA rl rc, .slice rA' rl' rc']) (by simp [results, Tryz.results63, go_sem, b0s0, b0s1, b0s2]) rfl ?_
   exact HF.out
  have p1 : ((how : Int) == 1) = false := by simp; omega
  have p1' : ¬ (how : Int) = 1 := by omega
  by_cases hw2 : how = 2
  ·subst hw2
   have hx := HBI.out.2.1 rfl
   obtain ⟨N1, hN1'⟩ : ∃ N1, N - 1 = N1 := ⟨_, rfl⟩
   rw [hN1'] at hx
   have eN : (N : Int) - 1 = (N1 : Int) := by omega
   have eW : IntKind.i64.wrap (N1 : Int) = (N1 : Int) := IntWalk.i64_in _ (by omega)
   have k0 : (N1 : Int) < (N : Int) := by omega
   obtain ⟨r, c2, hIx⟩ := OwnR.atS hos (k := N1) (q := x) (by rw [<- hx, List.getD_eq_getElem?_getD, List.getElem?_eq_getElem (by omega)]; rfl)
   obtain ⟨rg, rA, rl, rc, rA', rl', rc'⟩ := r
   have hIx : IsQ w2 w2.heap.size (.agg #[.bool rg, .slice rA rl rc, .slice rA' rl' rc']) x := hIx
   obtain ⟨x0, x1, x2⟩ := c2.c3
   (try simp only [] at x0 x1 x2)
   have HF := lh (retQ_done hB2 (Below.refl _ _) hIx b0 zd)
   obtain ⟨b0q0, b0q1, b0q2, b0f0, b0f1, b0f2, b0s0, b0s1, b0s2⟩ := b0.f3
   clear hos hfs hx c2 hIx hB2 hlen hN1'
   go_wp2
   refine bodyPost_ret (v := .agg #[.bool rg, .slice rA rl rc, .slice rA' rl' rc']) (by simp [results, Tryz.results63, go_sem, b0s0, b0s1, b0s2]) rfl ?_
   exact HF.out
  have p2 : ((how : Int) == 2) = false := by simp; omega
  have p2' : ¬ (how : Int) = 2 := by omega
  have hx := HBI.out.2.2 hw1 hw2
  have hme := ref_mean A5 N c5 wr.heap.size m L w2 HRD.out (by omega) (by omega) (by omega) hm HPQ.out
  rw [hx] at hme
  have HME := lh hme
  have HBB := lh hB2
  have HB1 := lh b0
  clear hos hfs hx hme hB2 b0 hlen
  go_wp2_with fail
  refine HME.out.mono ?_
  rintro e w3 ⟨v3, rfl, hR3, hw3⟩
  obtain ⟨g3, A3, l3, c3c, A3', l3', c3c', rfl⟩ := hR3.shape
  have b0 := HB1.out.below hw3 HB1.out.lt
  have HF := lh (retQ_done HBB.out hw3 hR3 b0 (Nat.le_of_lt (Nat.lt_of_lt_of_le hgw zd) |> fun _ => Nat.le_refl _))
  obtain ⟨b0q0, b0q1, b0q2, b0f0, b0f1, b0f2, b0s0, b0s1, b0s2⟩ := b0.f3
  clear hR3 hw3 HME HBB HB1
  go_wp2
  refine bodyPost_ret (v := .agg #[.bool g3, .slice A3 l3 c3c, .slice A3' l3' c3c']) (by simp [results, Tryz.results63, go_sem, b0s0, b0s1, b0s2]) rfl ?_
  exact HF.out
structure JR where
 a : Int
 b : Int
 s : Int
 r : RC
def JR.cs (j : JR) : List Value := [.int .i64 j.a, .int .i64 j.b, .int .i64 j.s, .bool j.r.g, .slice j.r.A j.r.l j.r.c, .slice j.r.A' j.r.l' j.r.c']
theorem JR.len (j : JR) : j.cs.length = 6 := rfl
theorem JR.one (j : JR) : ∀ u ∈ j.cs, u.oneCell' = true := by
 intro u hu
 simp [JR.cs] at hu
 rcases hu with rfl | rfl | rfl | rfl | rfl | rfl <;> rfl
theorem Tryz.eltJR : EltW Tryz.prog 44 111 (.agg #[.int .i64 0, .int .i64 0, .int .i64 0, .bool false, .slice none 0 0, .slice none 0 0]) 6 80 := ⟨Tryz.underlying44, by kernel_rfl, by kernel_rfl⟩
theorem IsN.rowW {α : Type} {w w' : World} {e : TypeId} {k : Nat} {f : α -> List Value} {n : Nat} {v u : Value} {rl : List α} (he : e ≠ 155) (h : IsN w w.heap.size v n) (ho : OwnW w e k f u rl) (hs : w.heap.size <= w'.heap.size) (hg : ∀ k, k < w.heap.size -> some k ≠ u.ownBlock -> w'.heap[k]? = w.heap[k]?) : IsN w' w'.heap.size v n := by
 obtain ⟨A, c, h1, h2, h3, h4, h5⟩ := h
 rcases Nat.eq_zero_or_pos (limbs n).length with h0 | h0
 ·exact ⟨A, c, h1, h2, h3, ⟨h4.1, fun hn => absurd hn (by omega)⟩, fun hn => absurd hn (by omega)⟩
 obtain ⟨ad, hA, hlt, hc⟩ := h4.2 h0
 obtain ⟨cs, fr, hty⟩ := h5 h0 ad hA
 have hne : some ad.block ≠ u.ownBlock := by
  intro e2
  obtain ⟨cs', fr', h7⟩ := OwnW.blk ho e2.symm
  rw [h7] at hty
  injection hty with hty
  injection hty with _ ht
  exact he ht
 have hbk := hg ad.block (by omega) hne
 refine ⟨A, c, h1, h2, h3, ⟨h4.1, fun _ => ⟨ad, hA, by omega, fun j x hx => ?_⟩⟩, fun _ ad' hA' => ?_⟩
 ·rw [World.cell?_of_block (w := w) (by rw [block_of_add]; exact hbk)]
  exact hc j x hx
 rw [hA] at hA'
 obtain rfl := Option.some.inj hA'
 exact ⟨cs, fr, hbk.trans hty⟩
theorem IsQ.rowW {α : Type} {w w' : World} {e : TypeId} {k : Nat} {f : α -> List Value} {V u : Value} {q : Rat} {rl : List α} (he : e ≠ 155) (h : IsQ w w.heap.size V q) (ho : OwnW w e k f u rl) (hs : w.heap.size <= w'.heap.size) (hg : ∀ k, k < w.heap.size -> some k ≠ u.ownBlock -> w'.heap[k]? = w.heap[k]?) : IsQ w' w'.heap.size V q := by
 obtain ⟨v, v', h1, h2, h3⟩ := h
 exact ⟨v, v', h1, h2.rowW he ho hs hg, h3.rowW he ho hs hg⟩
structure IsJR (w : World) (B : Nat) (r : JR) (j : Jn) : Prop where
 a : r.a = j.a
 b : r.b = j.b
 s : r.s = j.size
 q : IsQ w B r.r.v j.high
def EachJ (w : World) (B : Nat) (rl : List JR) (jl : List Jn) : Prop := rl.length = jl.length /\ ∀ (i : Nat) (r : JR) (j : Jn), rl[i]? = some r -> jl[i]? = some j -> IsJR w B r j
theorem EachJ.mono {w w' : World} {B B' : Nat} {rl : List JR} {jl : List Jn} (h : EachJ w B rl jl) (hf : ∀ V q, IsQ w B V q -> IsQ w' B' V q) : EachJ w' B' rl jl :=
 ⟨h.1, fun i r j h1 h2 => ⟨(h.2 i r j h1 h2).a, (h.2 i r j h1 h2).b, (h.2 i r j h1 h2).s, hf _ _ (h.2 i r j h1 h2).q⟩⟩
theorem EachJ.snoc {w : World} {B : Nat} {rl : List JR} {jl : List Jn} {r : JR} {j : Jn} (h : EachJ w B rl jl) (hq : IsJR w B r j) : EachJ w B (rl ++ [r]) (jl ++ [j]) := by
 refine ⟨by simp [h.1], fun i r' q' h1 h2 => ?_⟩
 rcases Nat.lt_or_ge i rl.length with hi | hi
 ·rw [List.getElem?_append_left hi] at h1
  rw [List.getElem?_append_left (by rw [<- h.1]; exact hi)] at h2
  exact h.2 i r' q' h1 h2
 rw [List.getElem?_append_right hi] at h1
 rw [List.getElem?_append_right (by rw [<- h.1]; exact hi), <- h.1] at h2
 have hi0 : i - rl.length = 0 := by
  have := (List.getElem?_eq_some_iff.1 h1).1
  simpa using this
 rw [hi0] at h1 h2
 simp at h1 h2
 subst h1; subst h2
 exact hq
def OwnJR (w : World) (v : Value) (jl : List Jn) : Prop := ∃ rl, OwnW w 111 6 JR.cs v rl /\ EachJ w w.heap.size rl jl
def ReadsJR (w : World) (B : Nat) (A : Option Addr) (n : Nat) (jl : List Jn) : Prop := ∃ rl, ReadsW w B 6 JR.cs A n rl /\ EachJ w B rl jl
theorem ReadsJR.len {w : World} {B : Nat} {A : Option Addr} {n : Nat} {jl : List Jn} (h : ReadsJR w B A n jl) : jl.length = n := by
 obtain ⟨rl, h1, h2⟩ := h
 rw [<- h2.1, h1.len]
theorem ReadsJR.below {w w' : World} {B : Nat} {A : Option Addr} {n : Nat} {jl : List Jn} (h : ReadsJR w B A n jl) (hb : Below B w w') : ReadsJR w' B A n jl := by
 obtain ⟨rl, h1, h2⟩ := h
 exact ⟨rl, h1.below hb, h2.mono fun V q h => h.below hb⟩
theorem ReadsJR.more {w : World} {B B' : Nat} {A : Option Addr} {n : Nat} {jl : List Jn} (h : ReadsJR w B A n jl) (hB : B <= B') : ReadsJR w B' A n jl := by
 obtain ⟨rl, h1, h2⟩ := h
 exact ⟨rl, h1.more hB, h2.mono fun V q h => h.more hB⟩
theorem OwnJR.nil (w : World) : OwnJR w (.slice none 0 0) [] := ⟨[], OwnW.nil_ _ _ _ _, rfl, fun i r q h => by simp at h⟩
theorem OwnJR.next {w w' : World} {v : Value} {jl : List Jn} (h : OwnJR w v jl) (hb : Below w.heap.size w w') : OwnJR w' v jl := by
 obtain ⟨rl, h1, h2⟩ := h
 exact ⟨rl, h1.next hb, h2.mono fun V q h => (h.next zd hb).more hb.size⟩
theorem OwnJR.lt {w : World} {v : Value} {jl : List Jn} (h : OwnJR w v jl) : ∀ b, v.ownBlock = some b -> b < w.heap.size := by
 obtain ⟨rl, h1, h2⟩ := h
 exact h1.lt
theorem OwnJR.form {w : World} {v : Value} {jl : List Jn} (h : OwnJR w v jl) : ∃ A c, v = .slice A jl.length c /\ jl.length <= c /\ c <= maxLen := by
 obtain ⟨rl, h1, h2⟩ := h
 obtain ⟨A, c, h3, h4, h5⟩ := h1.form
 rw [h2.1] at h3 h4
 exact ⟨A, c, h3, h4, h5⟩
theorem OwnJR.reads {w : World} {A : Option Addr} {n c : Nat} {jl : List Jn} (h : OwnJR w (.slice A n c) jl) : ReadsJR w w.heap.size A n jl := by
 have hn : n = jl.length := by
  obtain ⟨A', c', h4, _, _⟩ := OwnJR.form h
  injection h4
 subst hn
 obtain ⟨rl, h1, h2⟩ := h
 have := h1.reads
 rw [h2.1] at this
 exact ⟨rl, this, h2⟩
structure AtJR (w : World) (g o : Nat) (r : JR) : Prop where
 c6 : w.cell? ⟨g, o, none⟩ = some (.int .i64 r.a) /\ w.cell? ⟨g, o + 1, none⟩ = some (.int .i64 r.b) /\ w.cell? ⟨g, o + 2, none⟩ = some (.int .i64 r.s) /\ w.cell? ⟨g, o + 3, none⟩ = some (.bool r.r.g) /\ w.cell? ⟨g, o + 4, none⟩ = some (.slice r.r.A r.r.l r.r.c) /\ w.cell? ⟨g, o + 5, none⟩ = some (.slice r.r.A' r.r.l' r.r.c')
theorem AtJR.lt {w : World} {g o : Nat} {r : JR} (h : AtJR w g o r) : g < w.heap.size := cell_lt h.c6.1
theorem AtJR.below {w w' : World} {g o B : Nat} {r : JR} (h : AtJR w g o r) (hb : Below B w w') (hg : g < B) : AtJR w' g o r := by
 obtain ⟨h0, h1, h2, h3, h4, h5⟩ := h.c6
 refine ⟨?_⟩
 rw [hb.cell (p := ⟨g, o, none⟩) hg, hb.cell (p := ⟨g, o + 1, none⟩) hg, hb.cell (p := ⟨g, o + 2, none⟩) hg, hb.cell (p := ⟨g, o + 3, none⟩) hg, hb.cell (p := ⟨g, o + 4, none⟩) hg, hb.cell (p := ⟨g, o + 5, none⟩) hg]
 exact ⟨h0, h1, h2, h3, h4, h5⟩
theorem AtJR.drew {w : World} {g o : Nat} {r : JR} (h : AtJR w g o r) : AtJR w.drew g o r := h.below (bdrew0 w) h.lt
theorem AtJR.alloc {w : World} {g o : Nat} {r : JR} (h : AtJR w g o r) (b : Obj) : AtJR (w.alloc b) g o r := h.below (balloc1 w b) h.lt
theorem ReadsJR.at_ {w : World} {B : Nat} {A : Option Addr} {n : Nat} {jl : List Jn} (h : ReadsJR w B A n jl) {k : Nat} {j : Jn} (hj : jl[k]? = some j) :
  ∃ ad g o r, A = some ad /\ ad.add (k * 6) = ⟨g, o, none⟩ /\ g < B /\ AtJR w g o r /\ IsJR w B r j := by
 obtain ⟨rl, h0, he⟩ := h
 have hk : k < n := by rw [<- h0.len, he.1]; exact (List.getElem?_eq_some_iff.1 hj).1
 obtain ⟨ad, x, h1, h2, h3, h4⟩ := h0.at_ JR.len hk
 have c0 := h4 0 _ rfl
 have e0 := spot_none c0
 rw [Nat.add_zero] at c0 e0
 have hb := block_of_add ad (k * 6)
 have hc : ∀ i u, x.cs[i + 1]? = some u -> w.cell? ((ad.add (k * 6)).add (i + 1)) = some u := fun i u hu => by rw [add_of_add]; exact h4 (i + 1) u hu
 cases hP : ad.add (k * 6) with
 | mk g o sp =>
  rw [hP] at c0 e0 hb hc
  obtain rfl : sp = none := e0
  exact ⟨ad, g, o, x, h1, hP, by have : g = ad.block := hb; omega, ⟨⟨c0, hc 0 _ rfl, hc 1 _ rfl, hc 2 _ rfl, hc 3 _ rfl, hc 4 _ rfl⟩⟩, he.2 k x j h3 hj⟩
theorem readsJR1 (wr : World) (r : JR) : ReadsW (wr.alloc (.cells #[.int .i64 r.a, .int .i64 r.b, .int .i64 r.s, .bool r.r.g, .slice r.r.A r.r.l r.r.c, .slice r.r.A' r.r.l' r.r.c'] 111)) (wr.heap.size + 1) 6 JR.cs (some ⟨wr.heap.size, 0, none⟩) 1 [r] :=
 ⟨rfl, by
  have h : Blk (wr.alloc (.cells #[.int .i64 r.a, .int .i64 r.b, .int .i64 r.s, .bool r.r.g, .slice r.r.A r.r.l r.r.c, .slice r.r.A' r.r.l' r.r.c'] 111)) wr.heap.size 111 r.cs.toArray := Blk.new wr 111 #[.int .i64 r.a, .int .i64 r.b, .int .i64 r.s, .bool r.r.g, .slice r.r.A r.r.l r.r.c, .slice r.r.A' r.r.l' r.r.c']
  have := Reads.ofBlk h (JR.len r)
  simpa using this⟩
section
variable {ops : Array Oper} {rest : List Oper} {o : Oper} {a : Act} {Q : Exit -> Act -> World -> Prop}
theorem appJR (hgd : o.guard = none) (s x : Operand)
  (ho : o.op = .call { callee := .builtin .append, args := #[s, x], argTypes := #[44, 44] })
  (wr : World) (v : Value) (jl : List Jn) (j : Jn) (r : JR) (hs : a.eval s = v) (hown : OwnJR wr v jl) (hq : IsJR wr wr.heap.size r j) (hx : a.eval x = .slice (some ⟨wr.heap.size, 0, none⟩) 1 1) (hl : jl.length <= 1000000)
  (h : ∀ v' w1, OwnJR w1 v' (jl ++ [j]) -> Grew wr w1 v v' -> wpList Tryz.prog ops Q rest (a.put o.dst v') w1) : wpList Tryz.prog ops Q (o :: rest) a (wr.alloc (.cells #[.int .i64 r.a, .int .i64 r.b, .int .i64 r.s, .bool r.r.g, .slice r.r.A r.r.l r.r.c, .slice r.r.A' r.r.l' r.r.c'] 111)) := by
 obtain ⟨rl, hr, he⟩ := hown
 have hrl := he.1
 refine appW Tryz.eltJR (by omega) hgd s x ho _ v rl (wr.heap.size + 1) (some ⟨wr.heap.size, 0, none⟩) 1 1 [r] hs (hr.alloc _) hx (readsJR1 wr r) JR.one (by unfold maxLen; omega) (by omega) ?_
 intro v' w1 h1 h2
 have hg : Grew wr w1 v v' := by
  refine ⟨h2.os, h2.tape, h2.output, nt (by simp) h2.size, fun k hk hne => (h2.block k (by simp; omega) hne).trans (Below.heap_alloc wr _ k hk), fun k hk => ?_⟩
  rcases h2.own k hk with h3 | h3
  ·exact .inl h3
  exact .inr (by simp at h3; omega)
 exact h v' w1 ⟨_, h1, (he.snoc hq).mono fun V q h => h.rowW (by decide) hr hg.size fun k hk hne => hg.block k hk hne⟩ hg
end
theorem law_same (A A' : Option Addr) (n c c' B B' : Nat) (jl : List Jn) (w : World) (h : ReadsJ w B A n jl) (h' : ReadsJR w B' A' n jl) (hB : B <= w.heap.size) (hB' : B' <= w.heap.size) (hn : n <= 1000000) (hq : ∀ j ∈ jl, QS 1099511627776 j.high) :
  Calls Tryz.prog 25 #[.slice A n c, .slice A' n c'] w (Ret (.bool true) w) := by
 have H := lh h
 have H' := lh h'
 have HQ := lh hq
 have HLN := lh h.len
 clear h h' hq
 have q0 : ((n : Int) == (n : Int)) = true := by simp
 have q0' : ((n : Int) != (n : Int)) = false := by simp
 go_enter Tryz.func25, Tryz.ntmps25
 go_wp2_with fail
 go_loopw [5] (fun i wr => ∃ k : Nat, k <= n /\ i = .int .i64 (k : Int) /\ Below w.heap.size w wr) (fun i _ => n - (intOf i).toNat)
 case atStart => exact ⟨0, Nat.zero_le _, rfl, Below.refl _ _⟩
 case round =>
  obtain ⟨k, hk, rfl, hbel⟩ := hrel
  rename World => wr
  by_cases hkn : k < n
  ·have k1 : (k : Int) < (n : Int) := by omega
   obtain ⟨j, hj⟩ : ∃ j, jl[k]? = some j := ⟨_, List.getElem?_eq_getElem (by have := HLN.out; omega)⟩
   have hH : ReadsJ wr B A n jl := ReadsW.below H.out (hbel.mono hB)
   obtain ⟨ad, g, o, rfl, hP, hgB, b1⟩ := ReadsJ.at_ hH hj
   obtain ⟨ad', gg, oo, r, rfl, hP', hgB', b2, hir⟩ := (H'.out.below (hbel.mono hB')).at_ hj
   have hsm : ∀ w', Below wr.heap.size wr w' -> Calls Tryz.prog 32 #[qV j.high, r.r.v] w' (Ret (.bool true) w') := fun w' hb => hand_same j.high _ _ w' (hir.q.next (nt hB' hbel.size) hb) (nt (nt hB' hbel.size) hb.size) (HQ.out j (List.mem_of_getElem? hj))
   obtain ⟨xa, xb, xs, xq⟩ := j
   obtain ⟨ra, rb, rs, rg, rA, rl, rc, rA', rl', rc'⟩ := r
   obtain rfl : ra = xa := hir.a
   obtain rfl : rb = xb := hir.b
   obtain rfl : rs = xs := hir.s
   unfold qV RC.v at hsm
   (try simp only [] at hsm)
   have HSM := lh hsm
   have HBL := lh hbel
   clear hsm hj hir hbel hH
   go_upto_region 6 with fail
   obtain ⟨b1q0, b1q1, b1q2, b1q3, b1q4, b1q5, b1q6, b1q7⟩ := b1.c8; have c1 := b1.drew; have c1l := c1.lt; obtain ⟨b2q0, b2q1, b2q2, b2q3, b2q4, b2q5⟩ := b2.c6; have c2 := b2.drew; have c2l := c2.lt; have hc := bdrew0 wr; go_region_held3 (fun w' => w'.cell? ⟨g, o, none⟩ = some (.int .i64 ra) /\ w'.cell? ⟨g, o + 1, none⟩ = some (.int .i64 rb) /\ w'.cell? ⟨g, o + 2, none⟩ = some (.int .i64 rs) /\ w'.cell? ⟨g, o + 3, none⟩ = some (.bool (decide (xq.num < 0))) /\ w'.cell? ⟨g, o + 4, none⟩ = some (.int .u64 (lo xq.num.natAbs : Int)) /\ w'.cell? ⟨g, o + 5, none⟩ = some (.string (mo xq.num.natAbs)) /\ w'.cell? ⟨g, o + 6, none⟩ = some (.int .u64 (lo (qden xq) : Int)) /\ w'.cell? ⟨g, o + 7, none⟩ = some (.string (mo (qden xq))) /\ w'.cell? ⟨gg, oo, none⟩ = some (.int .i64 ra) /\ w'.cell? ⟨gg, oo + 1, none⟩ = some (.int .i64 rb) /\ w'.cell? ⟨gg, oo + 2, none⟩ = some (.int .i64 rs) /\ w'.cell? ⟨gg, oo + 3, none⟩ = some (.bool rg) /\ w'.cell? ⟨gg, oo + 4, none⟩ = some (.slice rA rl rc) /\ w'.cell? ⟨gg, oo + 5, none⟩ = some (.slice rA' rl' rc')) (go_keep) (first | (go_at_call 32; (with_reducible refine (HSM.out _ hc).mono ?_); rintro e w1 ⟨rfl, hw1⟩; have c1 := c1.below hw1 c1.lt; (try clear c1q0 c1q1 c1q2 c1q3 c1q4 c1q5 c1q6 c1q7); obtain ⟨c1q0, c1q1, c1q2, c1q3, c1q4, c1q5, c1q6, c1q7⟩ := c1.c8; (try clear c1l); have c1l := c1.lt; have c2 := c2.below hw1 c2.lt; (try clear c2q0 c2q1 c2q2 c2q3 c2q4 c2q5); obtain ⟨c2q0, c2q1, c2q2, c2q3, c2q4, c2q5⟩ := c2.c6; (try clear c2l); have c2l := c2.lt; have hc := bthen hc hw1))
   all_goals
    go_wp2
    exact ⟨⟨k + 1, by omega, by go_num, HBL.out.trans (hc.mono HBL.out.size)⟩, by simp [intOf]; omega⟩
  obtain rfl : k = n := by omega
  have k1 : ¬ (k : Int) < (k : Int) := by omega
  have HB := lh hbel
  clear hbel
  go_wp2
  go_ret
  exact ⟨rfl, HB.out⟩
def OwnN (w : World) (v : Value) (l : List Nat) : Prop := Own w 3 iv v l
theorem Tryz.kindXN : KindX 22 OwnN := kindXI (by decide)
theorem Tryz.eltNN : Elt Tryz.prog 112 22 (.slice none 0 0) 24 := ⟨Tryz.underlying112, by kernel_rfl, by kernel_rfl⟩
def partsL (f : List (List Rat)) (how k : Nat) : List (List Nat) := (List.range (2 * f.length)).map (partAt f.length (joinAt how f) k)
def initP (n i : Nat) : List (List Nat) := (List.range (2 * n)).map fun j => if j < i then [j] else []
theorem initP_zero (n : Nat) : initP n 0 = List.replicate (2 * n) [] := by
 unfold initP
 refine List.ext_getElem (by simp) fun i h1 h2 => by simp
theorem initP_set {n i : Nat} (h : i < 2 * n) : (initP n i).set i [i] = initP n (i + 1) := by
 unfold initP
 refine List.ext_getElem (by simp) fun j h1 h2 => ?_
 rw [List.getElem_set]
 simp only [List.getElem_map, List.getElem_range]
 by_cases hij : i = j
 ·subst hij; simp
 rw [if_neg hij]
 by_cases h3 : j < i
 ·rw [if_pos h3, if_pos (by omega)]
 rw [if_neg h3, if_neg (by omega)]
theorem initP_all (f : List (List Rat)) (how : Nat) : initP f.length f.length = partsL f how 0 := rfl
theorem partsL_at {f : List (List Rat)} {how k i : Nat} (h : i < 2 * f.length) : (partsL f how k)[i]? = some (partAt f.length (joinAt how f) k i) := by
 unfold partsL
 rw [List.getElem?_map, List.getElem?_range h]
 rfl
theorem partsL_len (f : List (List Rat)) (how k : Nat) : (partsL f how k).length = 2 * f.length := by simp [partsL]
theorem partsL_next {f : List (List Rat)} {how k A B : Nat} (hA : (joinAt how f k).a = (A : Int)) (hB : (joinAt how f k).b = (B : Int)) (hk : f.length + k < 2 * f.length) (hAB : A < f.length + k) (hBB : B < f.length + k) :
  (((partsL f how k).set (f.length + k) (partAt f.length (joinAt how f) k A ++ partAt f.length (joinAt how f) k B)).set A []).set B [] = partsL f how (k + 1) := by
 refine List.ext_getElem? fun i => ?_
 by_cases hi : i < 2 * f.length
 ·rw [partsL_at hi]
  show _ = some (if i = f.length + k then _ else if (i : Int) = (joinAt how f k).a \/ (i : Int) = (joinAt how f k).b then [] else _)
  rw [hA, hB, List.getElem?_set, List.getElem?_set, List.getElem?_set, List.length_set, List.length_set, partsL_len, partsL_at hi]
  by_cases h1 : i = f.length + k
  ·rw [if_neg (by omega), if_neg (by omega), if_pos h1.symm, if_pos (by omega), if_pos h1]
   simp
  rw [if_neg h1]
  by_cases h2 : B = i
  ·rw [if_pos h2, if_pos (by omega), if_pos (.inr (by omega))]
  rw [if_neg h2]
  by_cases h3 : A = i
  ·rw [if_pos h3, if_pos (by omega), if_pos (.inl (by omega))]
  rw [if_neg h3, if_neg (fun e => h1 e.symm), if_neg (by omega)]
 rw [List.getElem?_eq_none (by simp [partsL_len]; omega), List.getElem?_eq_none (by rw [partsL_len]; omega)]
theorem rowS_low {al : Nat -> Bool} {D : Nat -> Nat -> Rat} {a : Nat} (o : Option (Nat × Nat × Rat)) : ∀ b, b <= a + 1 -> rowS al D a o b = o := by
 intro b
 induction b with
 | zero => intro _; rfl
 | succ b ih =>
  intro hb
  show stepS al D a b (rowS al D a o b) = o
  rw [ih (by omega)]
  unfold stepS
  rw [if_neg (by omega)]
def BoxJ (P : Nat -> List Nat) (o : Option (Nat × Nat × Rat)) (g : Nat) (w : World) : Prop :=
 match o with
 | none => Blk w g 111 #[.int .i64 (-1), .int .i64 0, .int .i64 0, .bool false, .slice none 0 0, .slice none 0 0]
 | some (x, y, h) => ∃ r : RC, Blk w g 111 #[.int .i64 (x : Int), .int .i64 (y : Int), .int .i64 (((P x).length + (P y).length : Nat) : Int), .bool r.g, .slice r.A r.l r.c, .slice r.A' r.l' r.c'] /\ IsQ w w.heap.size r.v h /\ QS 5528 h
theorem BoxJ.next {P : Nat -> List Nat} {o : Option (Nat × Nat × Rat)} {g : Nat} {w w' : World} (h : BoxJ P o g w) (hb : Below w.heap.size w w') : BoxJ P o g w' := by
 unfold BoxJ at *
 match o with
 | none => exact Blk.below h hb (Blk.lt h)
 | some (x, y, z) =>
  obtain ⟨r, h1, h2, h3⟩ := h
  exact ⟨r, h1.below hb h1.lt, (h2.next zd hb).more hb.size, h3⟩
theorem own1_eq {g y n c : Nat} (h : (Value.slice (some ⟨g, 0, none⟩) n c).ownBlock = some y) : g <= y /\ y < g + 1 := by
 have : g = y := by simpa [Value.ownBlock] using h
 omega
theorem alive_of {l : List Nat} (h : l.length ≠ 0) : (!l.isEmpty) = true := by
 cases l with
 | nil => exact absurd rfl h
 | cons a l => rfl
theorem Blk.c6 {w : World} {g : Nat} {t : TypeId} {a b c d e f : Value} (h : Blk w g t #[a, b, c, d, e, f]) : w.cell? ⟨g, 0, none⟩ = some a /\ w.cell? ⟨g, 1, none⟩ = some b /\ w.cell? ⟨g, 2, none⟩ = some c /\ w.cell? ⟨g, 3, none⟩ = some d /\ w.cell? ⟨g, 4, none⟩ = some e /\ w.cell? ⟨g, 5, none⟩ = some f := ⟨h.cell 0, h.cell 1, h.cell 2, h.cell 3, h.cell 4, h.cell 5⟩
theorem jbox_ne {a b c : Int} {g : Bool} {A A' : Option Addr} {l k l' k' : Nat} : ∀ i x : Nat, (#[Value.int .i64 a, .int .i64 b, .int .i64 c, .bool g, .slice A l k, .slice A' l' k'])[i]? ≠ some (u32v x) := by
 intro i x
 match i with
 | 0 => simp [u32v]
 | 1 => simp [u32v]
 | 2 => simp [u32v]
 | 3 => simp [u32v]
 | 4 => simp [u32v]
 | 5 => simp [u32v]
 | i + 6 => simp
abbrev set6 (w : World) (g : Nat) (x y z t u v : Value) : World := (((((w.setCell ⟨g, 0, none⟩ x).setCell ⟨g, 1, none⟩ y).setCell ⟨g, 2, none⟩ z).setCell ⟨g, 3, none⟩ t).setCell ⟨g, 4, none⟩ u).setCell ⟨g, 5, none⟩ v
theorem bset6 {B g i : Nat} {w w' : World} (h : Below B w w') (hg : B <= g) (x y z t u v : Value) : Below B w (set6 w' g x y z t u v) :=
 (((((h.setCell (p := ⟨g, 0, none⟩) hg x).setCell (p := ⟨g, 1, none⟩) hg y).setCell (p := ⟨g, 2, none⟩) hg z).setCell (p := ⟨g, 3, none⟩) hg t).setCell (p := ⟨g, 4, none⟩) hg u).setCell (p := ⟨g, 5, none⟩) hg v
theorem Blk.set6 {w : World} {g : Nat} {T : TypeId} {a b c d e f : Value} (h : Blk w g T #[a, b, c, d, e, f]) (x y z t u v : Value) : Blk (Go.Proofs.YtecnjlcfoobepaaGreatDoor.set6 w g x y z t u v) g T #[x, y, z, t, u, v] := by
 simpa using ((((((h.set_ 0 x).set_ 1 y).set_ 2 z).set_ 3 t).set_ 4 u).set_ 5 v)
theorem IsQ.set6 {w : World} {g : Nat} {V : Value} {q : Rat} {T : TypeId} {cs : Array Value} (h : IsQ w w.heap.size V q) (hb : Blk w g T cs) (hcs : ∀ i x : Nat, cs[i]? ≠ some (u32v x)) (x y z t u v : Value) : IsQ (Go.Proofs.YtecnjlcfoobepaaGreatDoor.set6 w g x y z t u v) (Go.Proofs.YtecnjlcfoobepaaGreatDoor.set6 w g x y z t u v).heap.size V q :=
 h.excB hb hcs ((((((Exc.refl g w).set_ _ _).set_ _ _).set_ _ _).set_ _ _).set_ _ _ |>.set_ _ _)
theorem BoxJ.drewN {P : Nat -> List Nat} {o : Option (Nat × Nat × Rat)} {g : Nat} {w : World} (h : BoxJ P o g w) : BoxJ P o g w.drew := h.next (bdrew0 w)
theorem below_drew {w w' : World} (h : Below w.heap.size w w') : Below w.heap.size w w'.drew := h.trans ((bdrew0 _).mono h.size)
theorem blk_beside {w : World} {g : Nat} {T : TypeId} {cs : Array Value} (h : Blk w g T cs) {p : Addr} (u : Value) (hne : g ≠ p.block) : Blk (w.setCell p u) g T cs := (Below.heap_setCell w p u g hne).trans h
theorem cell_beside {w : World} {g i j : Nat} {v : Value} (h : w.cell? ⟨g, i, none⟩ = some v) (u : Value) (hne : i ≠ j) : (w.setCell ⟨g, j, none⟩ u).cell? ⟨g, i, none⟩ = some v := by
 rw [World.cell?_setCell_other _ _ _ _ (fun e => hne (by injection e with _ e2 _; exact e2.symm))]
 exact h
theorem OwnSA.beside {α : Type} {w w' : World} {L B : Nat} {v u u' : Value} {bl : List (List Nat)} {e : TypeId} {k : Nat} {f : α -> List Value} {rl' : List α} (h : OwnSA 22 OwnN L B w v bl) (ho : OwnW w e k f u rl') (h1 : e ≠ 22) (h2 : e ≠ 3) (hg : Grew w w' u u') : OwnSA 22 OwnN L B w' v bl := by
 obtain ⟨rl, g1, g2, g3, g4, g5⟩ := h
 have key : ∀ {T : TypeId} {β : Type} {F : β -> Value} {x : Value} {l : List β}, T ≠ e -> Own w T F x l -> Own w' T F x l := fun {T β F x l} hT hx => by
  refine ⟨hx.1, ?_⟩
  rcases hx.2 with h3 | ⟨g, cap, cur, h3, h4, h5, h6⟩
  ·exact .inl h3
  refine .inr ⟨g, cap, cur, h3, h4, (hg.block g (hx.lt g (by rw [h3]; rfl)) (fun e2 => ?_)).trans h5, h6⟩
  obtain ⟨cs, fr, h7⟩ := OwnW.blk ho e2.symm
  rw [h5] at h7
  injection h7 with h7
  injection h7 with _ h7 _
  exact hT h7
 exact ⟨rl, key h1.symm g1, g2, fun i r b hr hb => key (F := iv) h2.symm (g3 i r b hr hb), g4, g5⟩
theorem OwnJR.only {β : Type} {w w' : World} {T : TypeId} {f' : β -> Value} {u v : Value} {rl : List β} {jl : List Jn} (h : OwnJR w v jl) (h' : Own w T f' u rl) (hne : T ≠ 155) (hne2 : 111 ≠ T) (ho : Only1 w w' u) : OwnJR w' v jl := by
 obtain ⟨l, h1, h2⟩ := h
 exact ⟨l, OwnW.only h1 h' hne2 ho, h2.mono fun V q hq => hq.only h' hne ho⟩
theorem isJR_of {w : World} {B : Nat} {j : Jn} {a b s : Int} {r : RC} (ha : a = j.a) (hb : b = j.b) (hs : s = j.size) (h : IsQ w B r.v j.high) : IsJR w B ⟨a, b, s, r⟩ j := ⟨ha, hb, hs, h⟩
theorem ownN_of {w : World} {v : Value} {l : List Nat} (h : Own w 3 iv v ([] ++ l)) : Own w 3 iv v l := h
def lenV : Value -> Nat
 | .slice _ n _ => n
 | _ => 0
theorem ref_joins (A : Option Addr) (n c B how : Nat) (f : List (List Rat)) (w : World) (h : ReadsRR w B A n f) (hB : B <= w.heap.size) (hn : n <= 7) (hq : ∀ l ∈ f, ∀ x ∈ l, QS 47 x) (hck : checkFar f = 0) (hh : how = 1 \/ how = 2 \/ how = 3) :
  Calls Tryz.prog 26 #[.slice A n c, .int .i64 (how : Int)] w fun e w' => ∃ v, e = .returned v /\ OwnJR w' v (buildJ how f) /\ (∀ b, v.ownBlock = some b -> w.heap.size <= b) /\ Below w.heap.size w w' := by
 obtain ⟨hsym, hpos, hdiag, h1, -⟩ := symF_of hck
 have hlen : f.length = n := h.len
 rw [hlen] at h1
 have H := lh h
 have HS := lh hsym
 have HQ := lh hq
 have HLEN := lh hlen
 have HH := lh hh
 obtain ⟨N2, hN2⟩ : ∃ N2, 2 * n = N2 := ⟨_, rfl⟩
 have e2 : (2 : Int) * (n : Int) = (N2 : Int) := by omega
 have w2 : IntKind.i64.wrap (N2 : Int) = (N2 : Int) := IntWalk.i64_in _ (by omega)
 clear h hsym hpos hdiag hlen hq hck hh
 obtain ⟨i0, hi0, hz0, hz1, hz2⟩ := info_parts (Tryz.eltNN).info
 have hmk := make_row (P := Tryz.prog) SW.v ⟨none, 0, 0⟩ 112 22 24 (Tryz.eltNN).under (Tryz.eltNN).info rfl .i64 .i64 N2 (by omega) (by omega) w
 have hmd := ownSA_made (T := 22) Tryz.kindXN (e := []) (fun w => Own.nil_ _ _ _) w.heap.size (w.heap.size + 1) N2 w (by unfold maxLen; omega)
 have hbw := balloc1 w (.cells ((List.replicate N2 (⟨none, 0, 0⟩ : SW)).map SW.v).toArray 22)
 have hsz : (w.alloc (.cells ((List.replicate N2 (⟨none, 0, 0⟩ : SW)).map SW.v).toArray 22)).heap.size = w.heap.size + 1 := by simp
 generalize w.alloc (.cells ((List.replicate N2 (⟨none, 0, 0⟩ : SW)).map SW.v).toArray 22) = W at *
 go_enter Tryz.func26, Tryz.ntmps26
 go_wp2_with fail
 clear hmk hi0 hz0 hz1 hz2
 obtain ⟨g6, hg6⟩ : ∃ g6, w.heap.size = g6 := ⟨_, rfl⟩
 rw [hg6]
 have hI : OwnSA 22 OwnN w.heap.size W.heap.size W (.slice (some ⟨g6, 0, none⟩) N2 N2) (initP n 0) := by
  rw [initP_zero, hN2, hsz, <- hg6]; exact hmd
 have HI := lh hI
 have HBW := lh hbw
 have hgw : w.heap.size <= g6 := by omega
 clear hmd hbw hsz hI
 go_loopw [7] (fun p wr => ∃ i : Nat, i <= n /\ p = .int .i64 (i : Int) /\ OwnSA 22 OwnN w.heap.size wr.heap.size wr (.slice (some ⟨g6, 0, none⟩) N2 N2) (initP n i) /\ Below w.heap.size w wr) (fun p _ => n - (intOf p).toNat)
 case atStart => exact ⟨0, by omega, rfl, HI.out, HBW.out⟩
 case round =>
  obtain ⟨i, hi, rfl, ho, hbw⟩ := hrel
  rename World => wr
  clear HI HBW
  by_cases hin : i < n
  ·have k1 : (i : Int) < (n : Int) := by omega
   have k2 : (i : Int) < (N2 : Int) := by omega
   have hl := Own.lit wr 3 iv [i] (by unfold maxLen; simp)
   have hb1 := balloc1 wr (.cells (([i] : List Nat).map iv).toArray 3)
   have hs1 : (wr.alloc (.cells (([i] : List Nat).map iv).toArray 3)).heap.size = wr.heap.size + 1 := by simp
   have hcs : (([i] : List Nat).map iv).toArray = #[.int .i64 (i : Int)] := rfl
   rw [hcs] at hl hb1 hs1
   have o1 := OwnSA.next Tryz.kindXN.toKind ho hb1
   have hfz := o1.frozen i
   obtain ⟨A9, m9, cp9, hc9, -, -, -⟩ := OwnSA.at_ Tryz.kindXN o1 (b := []) (i := i) (by unfold initP; rw [List.getElem?_map, List.getElem?_range (by omega)]; simp)
   have o2 := OwnSA.put Tryz.kindXN (i := i) (B' := wr.heap.size + 1) o1 hl (fun y hy => own1_eq hy) (by omega) hbw.size
   rw [initP_set (by omega)] at o2
   have hb2 := (hbw.trans (hb1.mono hbw.size)).setCell (p := ⟨g6, i, none⟩) hgw (.slice (some ⟨wr.heap.size, 0, none⟩) 1 1)
   have hz2 : ((wr.alloc (.cells #[.int .i64 (i : Int)] 3)).setCell ⟨g6, i, none⟩ (.slice (some ⟨wr.heap.size, 0, none⟩) 1 1)).heap.size = wr.heap.size + 1 := by simp
   rw [<- hz2] at o2
   have HO2 := lh o2
   have HB2 := lh hb2
   clear hl hb1 hs1 hcs o1 o2 hb2 hz2 ho hbw
   go_wp2
   exact ⟨⟨i + 1, by omega, by go_num, HO2.out, HB2.out⟩, by simp [intOf]; omega⟩
  obtain rfl : i = n := by omega
  have k1 : ¬ (i : Int) < (i : Int) := by omega
  have HO := lh ho
  have HBW := lh hbw
  clear ho hbw
  go_wp2_with fail
  have HP0 : Hid (OwnSA 22 OwnN w.heap.size wr.heap.size wr (.slice (some ⟨g6, 0, none⟩) N2 N2) (partsL f how 0)) := lh (by
   rw [<- initP_all, HLEN.out]; exact HO.out)
  clear HO k1 hi
  go_loopw [8] (fun v wk => ∃ k : Nat, k + 1 <= i /\ OwnSA 22 OwnN w.heap.size wk.heap.size wk (.slice (some ⟨g6, 0, none⟩) N2 N2) (partsL f how k) /\ OwnJR wk v ((List.range k).map (joinAt how f)) /\ Hid (∀ b, v.ownBlock = some b -> w.heap.size <= b) /\ Below w.heap.size w wk) (fun v _ => i - lenV v)
  case atStart => exact ⟨0, by omega, HP0.out, OwnJR.nil _, lh (fun b h => by cases h), HBW.out⟩
  case round =>
   obtain ⟨k, hk, hop, hoj, hfj, hbk⟩ := hrel
   rename World => wk
   clear HP0 HBW
   obtain ⟨Aj, cj, hv, -, -⟩ := OwnJR.form hoj
   rw [List.length_map, List.length_range] at hv
   subst hv
   obtain ⟨i1, hi1⟩ : ∃ i1, i - 1 = i1 := ⟨_, rfl⟩
   have e3 : (i : Int) - 1 = (i1 : Int) := by omega
   have w3 : IntKind.i64.wrap (i1 : Int) = (i1 : Int) := IntWalk.i64_in _ (by omega)
   by_cases hki : k < i1
   ·have k1 : (k : Int) < (i1 : Int) := by omega
    obtain ⟨N, hN⟩ : ∃ N, i + k = N := ⟨_, rfl⟩
    have e4 : (i : Int) + (k : Int) = (N : Int) := by omega
    have w4 : IntKind.i64.wrap (N : Int) = (N : Int) := IntWalk.i64_in _ (by omega)
    have hNN : N < N2 := by omega
    obtain ⟨JA, JB9, hjk, hcl⟩ := joined_at (how := how) (k := k) HS.out (by rw [HLEN.out]; omega)
    have hinv := inv_at (how := how) HS.out k (by rw [HLEN.out]; omega)
    have hwk := walkC_at (how := how) (m := 47) (k := k) HS.out (by omega) HQ.out (by omega) (by rw [HLEN.out]; omega)
    have hcz := (cls_size (how := how) (m := 47) HS.out (by omega) HQ.out k (by omega) (by rw [HLEN.out]; omega)).2
    obtain ⟨P, hP⟩ : ∃ P, (fun j => partAt f.length (joinAt how f) k j) = P := ⟨_, rfl⟩
    obtain ⟨D, hD⟩ : ∃ D, betw (clsAt how f k).far = D := ⟨_, rfl⟩
    have hPj : ∀ j, partAt f.length (joinAt how f) k j = P j := fun j => by rw [<- hP]
    have hDQ : ∀ a b, QS 5528 (D a b) := fun a b => by rw [<- hD]; exact hwk.qs.betw (by omega) a b
    have hPn : ∀ j, j < N -> ∀ r ∈ P j, r < i := fun j hj r hr => by
     rw [<- hPj] at hr
     have := ((hinv.mem j r).1 hr).1
     rw [HLEN.out] at this
     exact this
    have hPl : ∀ j, j < N -> (P j).length <= 64 := fun j hj => by
     by_cases he : P j = []
     ·rw [he]; simp
     have h2 := hinv.sz j (by rw [HLEN.out]; omega) (by rw [hPj]; exact he)
     rw [hPj] at h2
     rw [<- h2]
     exact nt (hcz j) (nt (Nat.pow_le_pow_right (by omega) (show k <= 6 by omega)) (by decide))
    have hdist : ∀ a b, a < b -> b < N -> P a ≠ [] -> P b ≠ [] -> LinkIs how (dOf f) (P a) (P b) (D a b) := fun a b hab hb ha hb' => by
     have := hinv.dist a b hab (by rw [HLEN.out]; omega) (by rw [hPj]; exact ha) (by rw [hPj]; exact hb')
     rw [hPj, hPj, hD] at this
     exact this
    obtain ⟨al, hal⟩ : ∃ al : Nat -> Bool, (fun j => !(P j).isEmpty) = al := ⟨_, rfl⟩
    have halj : ∀ j, al j = !(P j).isEmpty := fun j => by rw [<- hal]
    have hscan : scanS al D N N = some (JA, JB9, D JA JB9) := by
     have h2 := hjk.scan
     unfold scanC at h2
     rw [hinv.lens, HLEN.out, hN, hD] at h2
     rw [<- h2]
     exact scanS_congr (fun j hj => by rw [halj, <- hPj, <- hinv.al j (by rw [HLEN.out]; omega)]) (fun _ _ _ _ _ _ => rfl) N zd
    have hparts : ∀ j, j < N -> ∃ Ap cp, wk.cell? ⟨g6, j, none⟩ = some (.slice Ap (P j).length cp) /\ Reads wk wk.heap.size 1 Ap (P j).length ((P j).map iv) := fun j hj => by
     have h2 := partsL_at (f := f) (how := how) (k := k) (i := j) (by rw [HLEN.out]; omega)
     rw [hPj] at h2
     obtain ⟨Ap, m9, cp, h3, h4, -, -⟩ := OwnSA.at_ Tryz.kindXN hop h2
     obtain ⟨A', c', h5, -, -⟩ := Own.form h4
     injection h5 with e5 e6 e7
     rw [<- e6]
     refine ⟨Ap, cp, h3, ?_⟩
     have h7 := Own.reads h4
     rw [<- e6] at h7
     exact h7
    have hg6 : g6 < wk.heap.size := hop.plain.lt g6 rfl
    have HJK := lh hjk
    have HPJ := lh hPj
    have HDQ := lh hDQ
    have HPN := lh hPn
    have HPL := lh hPl
    have HDI := lh hdist
    have HAL := lh halj
    have HSC := lh hscan
    have HPT := lh hparts
    have HOP := lh hop
    have HOJ := lh hoj
    have HBK := lh hbk
    have HDD := lh hD
    clear hcz hjk hcl hinv hwk hP hPj hDQ hPn hPl hdist hal halj hscan hparts hop hoj hbk hD
    have hbx : BoxJ P none wk.heap.size (wk.alloc (.cells #[.int .i64 (-1), .int .i64 0, .int .i64 0, .bool false, .slice none 0 0, .slice none 0 0] 111)) := Blk.new _ _ _
    have hb9 := balloc1 wk (.cells #[.int .i64 (-1), .int .i64 0, .int .i64 0, .bool false, .slice none 0 0, .slice none 0 0] 111)
    have HBX := lh hbx
    have HB9 := lh hb9
    clear hbx hb9
    go_wp2_with fail
    generalize wk.alloc (.cells #[.int .i64 (-1), .int .i64 0, .int .i64 0, .bool false, .slice none 0 0, .slice none 0 0] 111) = w9 at *
    go_loopw [10] (fun p wz => ∃ a : Nat, a <= N /\ p = .int .i64 (a : Int) /\ BoxJ P (scanS al D N a) wk.heap.size wz /\ Below wk.heap.size wk wz) (fun p _ => N - (intOf p).toNat)
    case atStart => exact ⟨0, by omega, rfl, HBX.out, HB9.out⟩
    case round =>
     obtain ⟨a, ha, rfl, hbx, hbz⟩ := hrel
     rename World => wz
     clear HBX HB9
     by_cases haN : a < N
     ·have k2 : (a : Int) < (N : Int) := by omega
      have ea : (a : Int) + 1 = ((a + 1 : Nat) : Int) := by omega
      obtain ⟨a1, ha1⟩ : ∃ a1, a + 1 = a1 := ⟨_, rfl⟩
      rw [ha1] at ea
      have wa : IntKind.i64.wrap (a1 : Int) = (a1 : Int) := IntWalk.i64_in _ (by omega)
      have HBZ := lh hbz
      have HB0 : Hid (BoxJ P (rowS al D a (scanS al D N a) a1) wk.heap.size wz) := lh (by rw [rowS_low _ _ (by omega)]; exact hbx)
      clear hbx hbz
      go_wp2_with fail
      go_loopw [11] (fun p wq => ∃ b : Nat, a1 <= b /\ b <= N /\ p = .int .i64 (b : Int) /\ BoxJ P (rowS al D a (scanS al D N a) b) wk.heap.size wq /\ Below wk.heap.size wk wq) (fun p _ => N - (intOf p).toNat)
      case atStart => exact ⟨a1, Nat.le_refl _, by omega, rfl, HB0.out, HBZ.out⟩
      case round =>
       obtain ⟨b, hb1, hb, rfl, hbx, hbq⟩ := hrel
       rename World => wq
       clear HB0 HBZ
       by_cases hbN : b < N
       ·have k3 : (b : Int) < (N : Int) := by omega
        have k4 : (a : Int) < (N2 : Int) := by omega
        have k5 : (b : Int) < (N2 : Int) := by omega
        have hab : a < b := by omega
        obtain ⟨Aa, ca, hca, hra⟩ := HPT.out a haN
        obtain ⟨Ab, cb, hcb, hrb⟩ := HPT.out b hbN
        have d1 : At1 wk g6 a (.slice Aa (P a).length ca) := At1.mk' hca
        have d2 : At1 wk g6 b (.slice Ab (P b).length cb) := At1.mk' hcb
        have d1 := d1.below hbq hg6
        have d2 := d2.below hbq hg6
        have hstep : rowS al D a (scanS al D N a) (b + 1) = stepS al D a b (rowS al D a (scanS al D N a) b) := rfl
        have hra := hra.below hbq
        have hrb := hrb.below hbq
        obtain ⟨la, hla⟩ : ∃ la, (P a).length = la := ⟨_, rfl⟩
        obtain ⟨lb, hlb⟩ : ∃ lb, (P b).length = lb := ⟨_, rfl⟩
        rw [hla] at d1 hra
        rw [hlb] at d2 hrb
        have hla64 := HPL.out a haN
        have hlb64 := HPL.out b hbN
        rw [hla] at hla64
        rw [hlb] at hlb64
        have HRA := lh hra
        have HRB := lh hrb
        have HST := lh hstep
        have HLA := lh hla
        have HLB := lh hlb
        have HX := lh hbx
        have HBQ := lh hbq
        clear hra hrb hstep hla hlb hbx hbq hca hcb
        obtain ⟨x0, -⟩ := d1.c2
        obtain ⟨y0, -⟩ := d2.c2
        by_cases hz : la = 0 \/ lb = 0
        ·have hst : stepS al D a b (rowS al D a (scanS al D N a) b) = rowS al D a (scanS al D N a) b := by
          unfold stepS
          rw [if_neg (fun h => by
           rw [HAL.out, HAL.out] at h
           rcases hz with hz | hz
           ·have : P a = [] := List.length_eq_zero_iff.1 (HLA.out.trans hz)
            rw [this] at h
            simp at h
           have : P b = [] := List.length_eq_zero_iff.1 (HLB.out.trans hz)
           rw [this] at h
           simp at h)]
         have HX2 : Hid (BoxJ P (rowS al D a (scanS al D N a) (b + 1)) wk.heap.size wq) := lh (by rw [HST.out, hst]; exact HX.out)
         clear hst d1 d2
         by_cases hz1 : la = 0
         ·subst hz1
          go_wp2
          exact ⟨⟨b + 1, by omega, by omega, by go_num, HX2.out, HBQ.out⟩, by simp [intOf]; omega⟩
         have hz2 : lb = 0 := by omega
         subst hz2
         have q1 : ((la : Int) == 0) = false := by simp; omega
         have q2 : ¬ (la : Int) = 0 := by omega
         go_wp2
         exact ⟨⟨b + 1, by omega, by omega, by go_num, HX2.out, HBQ.out⟩, by simp [intOf]; omega⟩
        have q1 : ((la : Int) == 0) = false := by simp; omega
        have q2 : ¬ (la : Int) = 0 := by omega
        have q3 : ((lb : Int) == 0) = false := by simp; omega
        have q4 : ¬ (lb : Int) = 0 := by omega
        have q5 : ¬ la = 0 := by omega
        have q6 : ¬ lb = 0 := by omega
        have hBq : Below w.heap.size w wq := HBK.out.trans (HBQ.out.mono HBK.out.size)
        have HBT := lh (fun w' (hb : Below wq.heap.size wq w') => ref_between A Aa Ab i c la ca lb cb wq.heap.size how 47 f (P a) (P b) (D a b) w' (((H.out.below rkindR (hBq.mono hB)).more rkindR (nt hB hBq.size)).below rkindR hb) hb.size HS.out HLEN.out (by omega) (by omega) (fun u v _ _ => dOf_QS HQ.out (by omega) u v)
         ((HRA.out.more HBQ.out.size).below hb) ((HRB.out.more HBQ.out.size).below hb) (HPN.out a haN) (HPN.out b hbN) (by omega) hla64 (by omega) hlb64 HH.out (HDI.out a b hab hbN (fun e => q5 (by rw [<- HLA.out, e]; rfl)) (fun e => q6 (by rw [<- HLB.out, e]; rfl))))
        have hst : stepS al D a b (rowS al D a (scanS al D N a) b) = (match rowS al D a (scanS al D N a) b with
          | none => some (a, b, D a b)
          | some (x, y, h) => if D a b < h then some (a, b, D a b) else some (x, y, h)) := by
         unfold stepS
         rw [if_pos ⟨hab, by rw [HAL.out]; exact alive_of (by rw [HLA.out]; exact q5), by rw [HAL.out]; exact alive_of (by rw [HLB.out]; exact q6)⟩]
         generalize rowS al D a (scanS al D N a) b = o
         cases o with
         | none => rfl
         | some t => rfl
        rw [hst] at HST
        have hdq := HDQ.out a b
        obtain ⟨o, ho⟩ : ∃ o, rowS al D a (scanS al D N a) b = o := ⟨_, rfl⟩
        rw [ho] at HX HST
        obtain ⟨dab, hdab⟩ : ∃ d, D a b = d := ⟨_, rfl⟩
        rw [hdab] at HBT HST hdq
        have HDQ2 := lh hdq
        have hgq : wk.heap.size < wq.heap.size := by
         have := HX.out
         unfold BoxJ at this
         match o, this with
         | none, h => exact Blk.lt h
         | some (x, y, z), ⟨r, h, _⟩ => exact h.lt
        clear hst hdq ho hdab hBq
        go_upto_region 17 with fail
        clear x0 y0
        go_cut [12] (fun v wc => BornR wq dab v wc)
        case first =>
         obtain ⟨d1q0, d1q1⟩ := d1.c2; have c1 := d1.drew; have c1l := c1.lt; obtain ⟨d2q0, d2q1⟩ := d2.c2; have c2 := d2.drew; have c2l := c2.lt; have hc := bdrew0 wq; go_region_held3 (fun w' => w'.cell? ⟨g6, a, none⟩ = some (.slice Aa la ca) /\ w'.cell? ⟨g6, b, none⟩ = some (.slice Ab lb cb)) (go_keep) (first | (go_at_call 63; (first | with_reducible refine (HBT.out _ hc).mono ?_ | (have hga : wq.heap.size <= wq.heap.size := hc.size; have ca : Blk _ wq.heap.size _ _ := Blk.new wq.drew 70 #[.bool false, .slice none 0 0, .slice none 0 0]; have c1na := nelt (show _ < wq.heap.size from c1l) zd; have c1 := c1.alloc (.cells #[.bool false, .slice none 0 0, .slice none 0 0] 70); have c2na := nelt (show _ < wq.heap.size from c2l) zd; have c2 := c2.alloc (.cells #[.bool false, .slice none 0 0, .slice none 0 0] 70); have hc := bthen hc (balloc1 _ (.cells #[.bool false, .slice none 0 0, .slice none 0 0] 70)); with_reducible refine (HBT.out _ hc).mono ?_) | (have hga : wq.heap.size <= wq.heap.size := hc.size; have ca : Blk (wq.alloc (.cells #[.bool false, .slice none 0 0, .slice none 0 0] 70)).drew wq.heap.size _ _ := Blk.new wq.drew 70 #[.bool false, .slice none 0 0, .slice none 0 0]; have c1na := nelt (show _ < wq.heap.size from c1l) zd; have c1 : At1 (wq.alloc (.cells #[.bool false, .slice none 0 0, .slice none 0 0] 70)).drew _ _ _ := c1.alloc (.cells #[.bool false, .slice none 0 0, .slice none 0 0] 70); have c2na := nelt (show _ < wq.heap.size from c2l) zd; have c2 : At1 (wq.alloc (.cells #[.bool false, .slice none 0 0, .slice none 0 0] 70)).drew _ _ _ := c2.alloc (.cells #[.bool false, .slice none 0 0, .slice none 0 0] 70); have hc : Below wq.heap.size wq (wq.alloc (.cells #[.bool false, .slice none 0 0, .slice none 0 0] 70)).drew := bthen hc (balloc1 _ (.cells #[.bool false, .slice none 0 0, .slice none 0 0] 70)); with_reducible refine (HBT.out _ hc).mono ?_)); rintro e w1 ⟨v1, rfl, hR1, hw1⟩; obtain ⟨g1, A1, l1, c1c, A1', l1', c1c', hv1⟩ := hR1.shape; subst hv1; (try have ca := ca.below hw1 ca.lt); have c1 := c1.below hw1 c1.lt; (try clear c1q0 c1q1); obtain ⟨c1q0, c1q1⟩ := c1.c2; (try clear c1l); have c1l := c1.lt; have c2 := c2.below hw1 c2.lt; (try clear c2q0 c2q1); obtain ⟨c2q0, c2q1⟩ := c2.c2; (try clear c2l); have c2l := c2.lt; have hc := bthen hc hw1; (try (have cal := ca.lt; obtain ⟨caq0, caq1, caq2, caf0, caf1, caf2, cas0, cas1, cas2⟩ := ca.f3))))
         all_goals
          go_wp2
          go_meet
          first | with_reducible exact bornR_new hc hR1 | with_reducible exact bornR_set hc hR1 ca hga | with_reducible exact bornR_set' hc hR1
        case rest =>
        obtain ⟨g7, ng, A7, l7, c7, A7', l7', c7', rfl, hg7, b7, hQ7, hb7⟩ := hcut
        rename World => W2
        obtain ⟨S, hS9⟩ : ∃ S, la + lb = S := ⟨_, rfl⟩
        have eS : (la : Int) + (lb : Int) = (S : Int) := by omega
        have wS : IntKind.i64.wrap (S : Int) = (S : Int) := IntWalk.i64_in _ (by omega)
        have hPS : (P a).length + (P b).length = S := by rw [HLA.out, HLB.out]; exact hS9
        have hx2 := HX.out.next hb7
        have hbq2 := HBQ.out.trans (hb7.mono HBQ.out.size)
        have d1 := d1.below hb7 d1.lt
        have d2 := d2.below hb7 d2.lt
        have ne1 : ¬ wk.heap.size = g7 := by omega
        have ne2 : ¬ g7 = wk.heap.size := by omega
        have ne3 : ¬ g6 = wk.heap.size := by omega
        have ne4 : ¬ wk.heap.size = g6 := by omega
        clear HX HBT hgq
        cases o with
        | none =>
         have hx2 : Blk W2 wk.heap.size 111 #[.int .i64 (-1), .int .i64 0, .int .i64 0, .bool false, .slice none 0 0, .slice none 0 0] := hx2
         have hST : rowS al D a (scanS al D N a) (b + 1) = some (a, b, dab) := HST.out
         have hS := lh (bset6 (i := 0) hbq2 zd (.int .i64 (a : Int)) (.int .i64 (b : Int)) (.int .i64 (S : Int)) (.bool ng) (.slice A7 l7 c7) (.slice A7' l7' c7'))
         have hB6 := lh (Blk.set6 hx2 (.int .i64 (a : Int)) (.int .i64 (b : Int)) (.int .i64 (S : Int)) (.bool ng) (.slice A7 l7 c7) (.slice A7' l7' c7'))
         have hI6 := lh (IsQ.set6 hQ7 hx2 (by exact jbox_ne) (.int .i64 (a : Int)) (.int .i64 (b : Int)) (.int .i64 (S : Int)) (.bool ng) (.slice A7 l7 c7) (.slice A7' l7' c7'))
         have hBX : Hid (BoxJ P (some (a, b, dab)) wk.heap.size _) := lh ⟨⟨ng, A7, l7, c7, A7', l7', c7'⟩, by rw [hPS]; exact hB6.out, hI6.out, HDQ2.out⟩
         rw [<- hST] at hBX
         obtain ⟨x0, -⟩ := d1.c2
         obtain ⟨y0, -⟩ := d2.c2
         obtain ⟨v0, v1, v2⟩ := b7.c3
         obtain ⟨z0, z1, z2, z3, z4, z5⟩ := Blk.c6 hx2
         have f0 := Blk.frozen hx2 0
         have f1 := Blk.frozen hx2 1
         have f2 := Blk.frozen hx2 2
         have f3 := Blk.frozen hx2 3
         have f4 := Blk.frozen hx2 4
         have f5 := Blk.frozen hx2 5
         clear hx2 hbq2 d1 d2 b7 hQ7 hB6 hI6 hST hPS hb7
         go_upto_region 19 with fail
         go_region
         all_goals
          go_wp2
          exact ⟨⟨b + 1, by omega, by omega, by go_num, BoxJ.drewN hBX.out, below_drew hS.out⟩, by simp [intOf]; omega⟩
        | some t =>
         obtain ⟨x, y, z⟩ := t
         obtain ⟨r, hx2, hIz, hqz⟩ := hx2
         obtain ⟨rg, rA, rl, rc, rA', rl', rc'⟩ := r
         replace hIz : IsQ W2 W2.heap.size (.agg #[.bool rg, .slice rA rl rc, .slice rA' rl' rc']) z := hIz
         have hST : rowS al D a (scanS al D N a) (b + 1) = if dab < z then some (a, b, dab) else some (x, y, z) := HST.out
         have hcm := ref_cmpQ dab z W2.heap.size _ _ W2 hQ7 hIz zd (HDQ2.out.mono (by omega)) (hqz.mono (by omega))
         have hlt := cmp_lt z dab
         generalize cmpQ dab z = cv at *
         have HCM := lh hcm
         have q7 : ¬ (x : Int) < 0 := by omega
         have q7' : decide ((x : Int) < 0) = false := decide_eq_false q7
         obtain ⟨v0, v1, v2⟩ := b7.c3
         (try simp only [] at hx2)
         obtain ⟨z0, z1, z2, z3, z4, z5⟩ := Blk.c6 hx2
         have HX2 := lh hx2
         have HIZ := lh hIz
         have HQ7 := lh hQ7
         have HBQ2 := lh hbq2
         have HLT := lh hlt
         have HB7 := lh b7
         have HD1 := lh d1
         have HD2 := lh d2
         have HST2 := lh hST
         clear hcm hlt hx2 hIz hQ7 hbq2 b7 d1 d2 hST hb7
         go_wp2_with fail
         refine HCM.out.mono ?_
         rintro e W3 ⟨rfl, hw3⟩
         have hx2 := HX2.out.below hw3 (Blk.lt HX2.out)
         have hIz := (HIZ.out.next zd hw3).more hw3.size
         have hQ7 := (HQ7.out.next zd hw3).more hw3.size
         have hbq2 := HBQ2.out.trans (hw3.mono HBQ2.out.size)
         have b7 := HB7.out.below hw3 HB7.out.lt
         have d1 := HD1.out.below hw3 HD1.out.lt
         have d2 := HD2.out.below hw3 HD2.out.lt
         clear z0 z1 z2 z3 z4 z5 v0 v1 v2 HX2 HIZ HQ7 HBQ2 HB7 HD1 HD2 HCM hw3
         by_cases hcv : cv < 0
         ·have q9 : decide (cv < 0) = true := decide_eq_true hcv
          have hST : rowS al D a (scanS al D N a) (b + 1) = some (a, b, dab) := by rw [HST2.out, if_pos (HLT.out.1 hcv)]
          have hS := lh (bset6 (i := 0) hbq2 zd (.int .i64 (a : Int)) (.int .i64 (b : Int)) (.int .i64 (S : Int)) (.bool ng) (.slice A7 l7 c7) (.slice A7' l7' c7'))
          have hB6 := lh (Blk.set6 hx2 (.int .i64 (a : Int)) (.int .i64 (b : Int)) (.int .i64 (S : Int)) (.bool ng) (.slice A7 l7 c7) (.slice A7' l7' c7'))
          have hI6 := lh (IsQ.set6 hQ7 hx2 (by exact jbox_ne) (.int .i64 (a : Int)) (.int .i64 (b : Int)) (.int .i64 (S : Int)) (.bool ng) (.slice A7 l7 c7) (.slice A7' l7' c7'))
          have hBX : Hid (BoxJ P (some (a, b, dab)) wk.heap.size _) := lh ⟨⟨ng, A7, l7, c7, A7', l7', c7'⟩, by rw [hPS]; exact hB6.out, hI6.out, HDQ2.out⟩
          rw [<- hST] at hBX
          obtain ⟨x0, -⟩ := d1.c2
          obtain ⟨y0, -⟩ := d2.c2
          obtain ⟨v0, v1, v2⟩ := b7.c3
          obtain ⟨z0, z1, z2, z3, z4, z5⟩ := Blk.c6 hx2
          have f0 := Blk.frozen hx2 0
          have f1 := Blk.frozen hx2 1
          have f2 := Blk.frozen hx2 2
          have f3 := Blk.frozen hx2 3
          have f4 := Blk.frozen hx2 4
          have f5 := Blk.frozen hx2 5
          clear hx2 hbq2 d1 d2 b7 hQ7 hIz hB6 hI6 hST hPS
          go_upto_region 19 with fail
          go_region
          all_goals
           go_wp2
           exact ⟨⟨b + 1, by omega, by omega, by go_num, BoxJ.drewN hBX.out, below_drew hS.out⟩, by simp [intOf]; omega⟩
         have q9 : decide (cv < 0) = false := decide_eq_false hcv
         have hST : rowS al D a (scanS al D N a) (b + 1) = some (x, y, z) := by rw [HST2.out, if_neg (fun h => hcv (HLT.out.2 h))]
         have hBX : Hid (BoxJ P (some (x, y, z)) wk.heap.size W3) := lh ⟨⟨rg, rA, rl, rc, rA', rl', rc'⟩, hx2, hIz, hqz⟩
         rw [<- hST] at hBX
         have hS := lh hbq2
         clear hx2 hbq2 d1 d2 b7 hQ7 hIz hST hPS
         go_wp2
         exact ⟨⟨b + 1, by omega, by omega, by go_num, hBX.out, hS.out⟩, by simp [intOf]; omega⟩
       obtain rfl : b = N := by omega
       have k3 : ¬ (b : Int) < (b : Int) := by omega
       have HX := lh (show BoxJ P (scanS al D b (a + 1)) wk.heap.size wq from hbx)
       have HBQ := lh hbq
       clear hbx hbq
       go_wp2
       exact ⟨⟨a + 1, by omega, by go_num, HX.out, HBQ.out⟩, by simp [intOf]; omega⟩
     obtain rfl : a = N := by omega
     have k2 : ¬ (a : Int) < (a : Int) := by omega
     rw [HSC.out] at hbx
     obtain ⟨r, hbx, hIz, hqz⟩ := hbx
     obtain ⟨rg, rA, rl, rc, rA', rl', rc'⟩ := r
     replace hIz : IsQ wz wz.heap.size (.agg #[.bool rg, .slice rA rl rc, .slice rA' rl' rc']) (D JA JB9) := hIz
     (try simp only [] at hbx)
     have hAB := HJK.out.ab
     have hBN : JB9 < a := by have := HJK.out.bn; rw [HLEN.out] at this; omega
     obtain ⟨Aa, ca, hca, hra⟩ := HPT.out JA (by omega)
     obtain ⟨Ab, cb, hcb, hrb⟩ := HPT.out JB9 hBN
     have d1 : At1 wk g6 JA (.slice Aa (P JA).length ca) := At1.mk' hca
     have d2 : At1 wk g6 JB9 (.slice Ab (P JB9).length cb) := At1.mk' hcb
     have d1 := d1.below hbz hg6
     have d2 := d2.below hbz hg6
     have hra := hra.below hbz
     have hrb := hrb.below hbz
     have hla64 := HPL.out JA (by omega)
     have hlb64 := HPL.out JB9 hBN
     obtain ⟨la, hla⟩ : ∃ la, (P JA).length = la := ⟨_, rfl⟩
     obtain ⟨lb, hlb⟩ : ∃ lb, (P JB9).length = lb := ⟨_, rfl⟩
     rw [hla] at d1 hra hla64
     rw [hlb] at d2 hrb hlb64
     rw [hla, hlb] at hbx
     obtain ⟨S, hS9⟩ : ∃ S, la + lb = S := ⟨_, rfl⟩
     rw [hS9] at hbx
     have D9 := lh hbx
     have D1 := lh d1
     have D2 := lh d2
     have HRA := lh hra
     have HRB := lh hrb
     have HIZ := lh hIz
     have HBZ := lh hbz
     have HLA := lh hla
     have HLB := lh hlb
     have HS9 := lh hS9
     have HQZ := lh hqz
     have b9 := hbx
     have k4 : (JA : Int) < (N2 : Int) := by omega
     have k5 : (JB9 : Int) < (N2 : Int) := by omega
     have k6 : (a : Int) < (N2 : Int) := by omega
     have HAL1 := lh (bdrewN (balloc1 wz (.cells #[] 3)) 1)
     have hop6 := OwnSA.next Tryz.kindXN.toKind HOP.out hbz
     have HOP6 := lh hop6
     have HPA := lh (partsL_at (f := f) (how := how) (k := k) (i := a) (by rw [HLEN.out]; omega))
     have kindX6 := Tryz.kindXN
     have ne7 : wk.heap.size ≠ g6 := by omega
     have ne8 : JA ≠ a := by omega
     have ne9 : JB9 ≠ a := by omega
     have kindN6 := Tryz.kindXN.toKind
     clear hop6
     have HOW1 := lh (show Own ((wz.alloc (.cells #[] 3)).drew) 3 iv (.slice (some ⟨wz.heap.size, 0, none⟩) 0 0) [] from (Own.lit wz 3 iv [] (by unfold maxLen; simp)).drewN 1)
     have HR1 := lh (HRA.out.below (HAL1.out.mono HBZ.out.size))
     clear hra hrb hIz hbz hla hlb hS9 hqz hca hcb hbx
     go_upto_region 20 with fail
     obtain ⟨b9q0, b9q1, b9q2, b9q3, b9q4, b9q5⟩ := b9.c6; have c9 := b9.drew; have c9l := c9.lt; obtain ⟨d1q0, d1q1⟩ := d1.c2; have c1 := d1.drew; have c1l := c1.lt; obtain ⟨d2q0, d2q1⟩ := d2.c2; have c2 := d2.drew; have c2l := c2.lt; have hc := bdrew0 wz; go_region_held3 (fun w' => w'.cell? ⟨wk.heap.size, 0, none⟩ = some (.int .i64 (JA : Int)) /\ w'.cell? ⟨wk.heap.size, 1, none⟩ = some (.int .i64 (JB9 : Int)) /\ w'.cell? ⟨wk.heap.size, 2, none⟩ = some (.int .i64 (S : Int)) /\ w'.cell? ⟨wk.heap.size, 3, none⟩ = some (.bool rg) /\ w'.cell? ⟨wk.heap.size, 4, none⟩ = some (.slice rA rl rc) /\ w'.cell? ⟨wk.heap.size, 5, none⟩ = some (.slice rA' rl' rc') /\ w'.cell? ⟨g6, JA, none⟩ = some (.slice Aa la ca) /\ w'.cell? ⟨g6, JB9, none⟩ = some (.slice Ab lb cb)) (go_keep) (first | (refine stepN1 (f := iv) Tryz.eltIntR rfl (.tmp 107) (.tmp 112) rfl _ _ [] wk.heap.size Aa la ca (P JA) (by simp [Act.eval, Act.put]) HOW1.out (by simp [Act.eval, Act.put]) HR1.out (fun _ => rfl) (by unfold maxLen; simp; omega) (by simp; omega) ?_; intro v5 w5 ho5 hg5; have h5 := HAL1.out.trans (hg5.below HAL1.out.size (fun y hy => (own1_eq hy).1)); have HF5 := lh (hg5.fresh HAL1.out.size (fun y hy => (own1_eq hy).1)); have HO5 := lh (ownN_of ho5); have H5 := lh h5; clear ho5 hg5 b9q0 b9q1 b9q2 b9q3 b9q4 b9q5 d1q0 d2q0; have c9 := D9.out.below h5 D9.out.lt; have c1 := D1.out.below h5 D1.out.lt; have c2 := D2.out.below h5 D2.out.lt; obtain ⟨c9q0, c9q1, c9q2, c9q3, c9q4, c9q5⟩ := c9.c6; obtain ⟨c1q0, -⟩ := c1.c2; obtain ⟨c2q0, -⟩ := c2.c2; clear h5) | (refine stepN1 (f := iv) Tryz.eltIntR rfl (.tmp 113) (.tmp 118) rfl _ _ (P JA) wk.heap.size Ab lb cb (P JB9) (by simp [Act.eval, Act.put]) HO5.out (by simp [Act.eval, Act.put]) (HRB.out.below (H5.out.mono HBZ.out.size)) (fun _ => rfl) (by have := HLA.out; unfold maxLen; omega) (by have := HLA.out; omega) ?_; intro v6 w6 ho6 hg6; obtain ⟨A6, n6, c6v, hv6⟩ := Own.form3 ho6; subst hv6; have h6 := H5.out.trans (hg6.below H5.out.size HF5.out); have HO6 := lh ho6; have H6 := lh h6; have HF6 := lh (hg6.fresh H5.out.size HF5.out); clear ho6 hg6 c9q0 c9q1 c9q2 c9q3 c9q4 c9q5 c1q0 c2q0; have c9 := D9.out.below h6 D9.out.lt; have c1 := D1.out.below h6 D1.out.lt; have c2 := D2.out.below h6 D2.out.lt; obtain ⟨c9q0, c9q1, c9q2, c9q3, c9q4, c9q5⟩ := c9.c6; obtain ⟨c1q0, -⟩ := c1.c2; obtain ⟨c2q0, -⟩ := c2.c2; have o6 := OwnSA.next kindN6 HOP6.out h6; have z6 := o6.frozen a; obtain ⟨A9, m9, cp9, z7, -, -, -⟩ := OwnSA.at_ kindX6 o6 HPA.out; have u9 := blk_beside c9 (p := ⟨g6, a, none⟩) (.slice A6 n6 c6v) ne7; obtain ⟨u90, u91, u92, u93, u94, u95⟩ := u9.c6; have u1 := cell_beside c1q0 (.slice A6 n6 c6v) ne8; have u2 := cell_beside c2q0 (.slice A6 n6 c6v) ne9; clear h6 o6))
     all_goals
      have o6 := OwnSA.next kindN6 HOP6.out H6.out
      have o7 := OwnSA.put kindX6 (i := a) (B' := w6.heap.size) o6 HO6.out (fun y hy => ⟨nt HBZ.out.size (HF6.out y hy), Own.lt HO6.out y hy⟩) (nt HBZ.out.size H6.out.size) HBK.out.size
      have o8 := OwnSA.put kindX6 (i := JA) (B' := w6.heap.size) o7 (Own.nil_ _ _ _) (fun y hy => by cases hy) zd (nt HBK.out.size (nt HBZ.out.size H6.out.size))
      have o9 := OwnSA.put kindX6 (i := JB9) (B' := w6.heap.size) o8 (Own.nil_ _ _ _) (fun y hy => by cases hy) zd (nt HBK.out.size (nt HBZ.out.size H6.out.size))
      obtain ⟨rl6, hr6, -⟩ := o6.plain
      have hex := lh ((((Exc.refl g6 w6).set_ a (.slice A6 n6 c6v)).set_ JA (.slice none 0 0)).set_ JB9 (.slice none 0 0))
      have hI6 := (HIZ.out.next zd H6.out).more H6.out.size
      have hI9 := hI6.only hr6 (by decide) (Only1.exc (n := N2) (c := N2) hex.out)
      have hj6 := (HOJ.out.next HBZ.out).next H6.out
      have hj9 := hj6.only hr6 (by decide) (by decide) (Only1.exc (n := N2) (c := N2) hex.out)
      have u9a := blk_beside u9 (p := ⟨g6, JA, none⟩) (.slice none 0 0) ne7
      have u9b := blk_beside u9a (p := ⟨g6, JB9, none⟩) (.slice none 0 0) ne7
      have hb0 := (HBK.out.trans (HBZ.out.mono HBK.out.size)).trans (H6.out.mono (nt HBK.out.size HBZ.out.size))
      have hb9 := ((hb0.setCell (p := ⟨g6, a, none⟩) hgw (.slice A6 n6 c6v)).setCell (p := ⟨g6, JA, none⟩) hgw (.slice none 0 0)).setCell (p := ⟨g6, JB9, none⟩) hgw (.slice none 0 0)
      have hnx := partsL_next (f := f) (how := how) (k := k) (A := JA) (B := JB9) (by rw [HJK.out.eq]) (by rw [HJK.out.eq]) (by rw [HLEN.out]; omega) (by rw [HLEN.out]; omega) (by rw [HLEN.out]; omega)
      rw [HPJ.out, HPJ.out, HLEN.out, hN] at hnx
      have zJA := o7.frozen JA
      have zJB := o8.frozen JB9
      have u2b := cell_beside u2 (.slice none 0 0) (show JB9 ≠ JA by omega)
      have o9 : OwnSA 22 OwnN w.heap.size w6.heap.size _ _ (partsL f how (k + 1)) := hnx ▸ o9
      have hhigh : (joinAt how f k).high = D JA JB9 := by rw [HJK.out.eq, HDD.out]
      rw [<- hhigh] at hI9
      have hij := isJR_of (a := (JA : Int)) (b := (JB9 : Int)) (s := (S : Int)) (r := ⟨rg, rA, rl, rc, rA', rl', rc'⟩) (j := joinAt how f k) (by rw [HJK.out.eq]) (by rw [HJK.out.eq]) (by rw [HJK.out.eq, HPJ.out, HPJ.out, HLA.out, HLB.out, HS9.out]) hI9
      obtain ⟨jl9, hw9, -⟩ := id hj9
      have O9 := lh o9
      have HJ9 := lh hj9
      have HIJ := lh hij
      have HW9 := lh hw9
      have HBN := lh hb9
      obtain ⟨p0, p1, p2, p3, p4, p5⟩ := u9a.c6
      obtain ⟨r0, r1, r2, r3, r4, r5⟩ := u9b.c6
      clear hhigh o6 o7 o8 o9 hr6 hI6 hI9 hj6 hj9 u9 u9a u9b hb0 hb9 hnx hij hw9 c9 c1 c2 b9 d1 d2 D9 D1 D2 hex
      go_wp2_with (at_builtin; refine appJR rfl (.tmp 129) (.tmp 131) rfl _ _ ((List.range k).map (joinAt how f)) (joinAt how f k) ⟨(JA : Int), (JB9 : Int), (S : Int), ⟨rg, rA, rl, rc, rA', rl', rc'⟩⟩ rfl HJ9.out HIJ.out (by first | rfl | (show Value.slice (some ⟨w6.heap.size, 0, none⟩) 1 1 = _; simp) | simp [Act.eval, Act.put]) (by rw [List.length_map, List.length_range]; omega) ?_; intro v' w2 hown2 hgr; obtain ⟨A10, c10, hv10, -, -⟩ := OwnJR.form hown2; rw [List.length_append, List.length_map, List.length_range] at hv10; have hv10 : v' = .slice A10 (k + 1) c10 := hv10; have O10 := lh (OwnSA.beside O9.out HW9.out (by decide) (by decide) hgr); have HO10 := lh hown2; have HGR := lh hgr; clear hown2 hgr)
      (try subst hv10)
      have hz9 : w6.heap.size <= w2.heap.size := by have := HGR.out.size; simpa using this
      have hmp : (List.range k).map (joinAt how f) ++ [joinAt how f k] = (List.range (k + 1)).map (joinAt how f) := by rw [List.range_succ, List.map_append]; rfl
      exact ⟨⟨k + 1, by omega, O10.out.more hz9, hmp ▸ HO10.out, lh (HGR.out.fresh HBN.out.size hfj.out), HBN.out.trans (HGR.out.below HBN.out.size hfj.out)⟩, by simp [lenV]; omega⟩
   have k1 : ¬ (k : Int) < (i1 : Int) := by omega
   obtain rfl : i1 = k := by omega
   have HJ : Hid (OwnJR wk (.slice Aj i1 cj) (buildJ how f)) := lh (by
    unfold buildJ
    rw [HLEN.out, hi1]
    exact hoj)
   have HBK := lh hbk
   have HFJ2 := lh (hfj.out)
   clear hop hoj hfj hbk
   go_wp2
   go_ret
   exact ⟨_, rfl, HJ.out, by rw [<- hg6]; exact fun b h => HFJ2.out b h, by rw [<- hg6]; exact HBK.out⟩
theorem link_build_bad (A : Option Addr) (n c how : Nat) (w : World) (hh : how = 0 \/ how = 4) : Calls Tryz.prog 24 #[.slice A n c, .int .i64 (how : Int)] w fun e w' => e = .returned (.tuple #[.slice none 0 0, .int .i64 1]) /\ w = w' := by
 rcases hh with rfl | rfl
 ·go_enter Tryz.func24, Tryz.ntmps24
  go_wp2
  go_returns
  exact ⟨rfl, rfl⟩
 go_enter Tryz.func24, Tryz.ntmps24
 go_wp2
 go_returns
 exact ⟨rfl, rfl⟩
theorem link_build_err (A : Option Addr) (n c how : Nat) (f : List (List Rat)) (w : World) (h : OwnQQ w (.slice A n c) f) (hn : n <= 1000) (hs : ∀ l ∈ f, ∀ x ∈ l, QS 549755813888 x) (hh : how = 1 \/ how = 2 \/ how = 3) (hck : checkFar f ≠ 0) :
  Calls Tryz.prog 24 #[.slice A n c, .int .i64 (how : Int)] w (Ret (.tuple #[.slice none 0 0, .int .i64 (checkFar f : Int)]) w) := by
 have hchk := link_check A n c w.heap.size f w (OwnQQ.readsQQ h) zd hn hs
 generalize checkFar f = e at *
 have HCK := lh hchk
 clear hchk h hs
 have q1 : ((e : Int) == 0) = false := by simp; omega
 have q2 : ((e : Int) != 0) = true := by simp; omega
 have q3 : ¬ (e : Int) = 0 := by omega
 rcases hh with rfl | rfl | rfl
 ·go_enter Tryz.func24, Tryz.ntmps24
  go_wp2_with fail
  refine HCK.out.mono ?_
  rintro e w1 ⟨rfl, hw1⟩
  go_wp2
  go_returns
  exact ⟨rfl, hw1⟩
 ·go_enter Tryz.func24, Tryz.ntmps24
  go_wp2_with fail
  refine HCK.out.mono ?_
  rintro e w1 ⟨rfl, hw1⟩
  go_wp2
  go_returns
  exact ⟨rfl, hw1⟩
 go_enter Tryz.func24, Tryz.ntmps24
 go_wp2_with fail
 refine HCK.out.mono ?_
 rintro e w1 ⟨rfl, hw1⟩
 go_wp2
 go_returns
 exact ⟨rfl, hw1⟩
theorem linkBuilds_walk (A : Option Addr) (n1 c1 : Nat) (zl : List Int) (zn zw zy za zb zk zh : Int) (w : World) (h1 : ArgZ w A n1 c1 zl) (hn : I64 zn) (hz : I64 zw) (h4 : I64 zy) (h5 : I64 za) (h6 : I64 zb) (h7 : I64 zk) (h8 : I64 zh) (hT : Tab w) :
  Calls Tryz.prog 4 #[.slice A n1 c1, .int .i64 zn, .int .i64 zw, .int .i64 zy, .int .i64 za, .int .i64 zb, .int .i64 zk, .int .i64 zh] w (Ret (.bool true) w) := by
 obtain ⟨how, hhow, hph⟩ := pick_of zh 5 w h8.1 h8.2 (by omega) (by omega)
 obtain ⟨g, hg, hsp⟩ := law_spoilt A n1 c1 zl zn zw zy za zb zk w h1 hn hz h4 h5 h6 h7
 have HPH := lh hph
 have HG := lh hg
 have HSP := lh hsp
 have HT := lh hT
 clear hph hg hsp hT h1 hn hz h4 h5 h6 h7 h8
 go_enter Tryz.func4, Tryz.ntmps4
 go_wp2_with fail
 refine (HSP.out w (Below.refl _ _)).mono ?_
 rintro e w4 ⟨A4, n4, c4, rfl, hs4, hb4⟩
 have hn4 : g.length = n4 := hs4.len
 have HB4 := lh hb4
 have HS4 := lh hs4
 have HN4 := lh hn4
 have hn47 : n4 <= 7 := by have := HG.out.len; omega
 clear hs4 hb4 HSP hn4
 go_wp2_with fail
 refine (HPH.out _).mono ?_
 rintro e w5 ⟨rfl, rfl⟩
 go_wp2_with fail
 refine (hand_inRows A4 n4 c4 w4.heap.size g w4 HS4.out zd (by omega) (fun l hl => ⟨by have := (HG.out.row l hl).1; omega, fun y hy => ((HG.out.row l hl).2 y hy).mono (by omega)⟩) (HT.out.next HB4.out)).mono ?_
 rintro e w6 ⟨v, rfl, ho, -, hb6⟩
 obtain ⟨A6, c6, hv⟩ := OwnS.form ho
 rw [HN4.out] at hv
 subst hv
 have HS6 := lh ((HS4.out.below rkindR hb6).more rkindR hb6.size)
 have HB6 := lh (bthen HB4.out hb6)
 have HQ6 := lh ho
 clear hb6 HB4 HS4 ho
 by_cases hbad : how = 0 \/ how = 4
 ·rcases hbad with rfl | rfl
  ·go_wp2_with fail
   refine (link_build_bad A6 n4 c6 0 w6 (.inl rfl)).mono ?_
   rintro e w7 ⟨rfl, rfl⟩
   go_wp2_with fail
   refine (law_known w6 (HT.out.next HB6.out)).mono ?_
   rintro e w8 ⟨rfl, hb8⟩
   have HB8 := lh (bthen HB6.out hb8)
   clear hb8
   go_wp2
   go_ret
   exact ⟨rfl, HB8.out⟩
  go_wp2_with fail
  refine (link_build_bad A6 n4 c6 4 w6 (.inr rfl)).mono ?_
  rintro e w7 ⟨rfl, rfl⟩
  go_wp2_with fail
  refine (law_known w6 (HT.out.next HB6.out)).mono ?_
  rintro e w8 ⟨rfl, hb8⟩
  have HB8 := lh (bthen HB6.out hb8)
  clear hb8
  go_wp2
  go_ret
  exact ⟨rfl, HB8.out⟩
 have hh : how = 1 \/ how = 2 \/ how = 3 := by omega
 have HH := lh hh
 have p1 : ¬ (how : Int) < 1 := by omega
 have p2 : ¬ (3 : Int) < (how : Int) := by omega
 clear hh hbad
 by_cases hck : checkFar g = 0
 ·have hbl := link_build A6 n4 c6 47 how g w6 HQ6.out hn47 (by omega) (by omega) (fun l hl => (HG.out.row l hl).2) hck HH.out (HT.out.next HB6.out)
  obtain ⟨l, hl⟩ : ∃ l, buildJ how g = l := ⟨_, rfl⟩
  rw [hl] at hbl
  have hlen : l.length = n4 - 1 := by rw [<- hl, buildJ_len, HN4.out]
  obtain ⟨nj, hnj⟩ : ∃ nj, n4 - 1 = nj := ⟨_, rfl⟩
  rw [hnj] at hlen
  have HBL := lh hbl
  have HL := lh hl
  have HLEN := lh hlen
  have HCK := lh hck
  clear hbl hl hlen hck
  go_wp2_with fail
  refine HBL.out.mono ?_
  rintro e w7 ⟨v, rfl, hj, -, hb7⟩
  obtain ⟨A7, c7, hv, -⟩ := OwnW.form hj
  subst hv
  rw [HLEN.out] at hj ⊢
  have HS7 := lh ((HS6.out.below rkindR hb7).more rkindR hb7.size)
  have HB7 := lh (bthen HB6.out hb7)
  have HJ7 := lh hj
  clear hb7 HB6 HS6 HQ6 HBL hj
  have hcf := ref_checkFars A4 n4 c4 w7.heap.size g w7 HS7.out zd (by omega) (fun l hl y hy => ((HG.out.row l hl).2 y hy).mono (by omega))
  rw [HCK.out] at hcf
  have HCF := lh hcf
  clear hcf
  go_wp2_with fail
  refine HCF.out.mono ?_
  rintro e w8 ⟨rfl, hb8⟩
  have HS8 := lh ((HS7.out.below rkindR hb8).more rkindR hb8.size)
  have HJ8 := lh (OwnW.next HJ7.out hb8)
  have HB8 := lh (bthen HB7.out hb8)
  clear hb8 HB7 HS7 HJ7 HCF
  go_wp2_with fail
  refine (law_known w8 (HT.out.next HB8.out)).mono ?_
  rintro e w9 ⟨rfl, hb9⟩
  have HS9 := lh ((HS8.out.below rkindR hb9).more rkindR hb9.size)
  have HJ9 := lh (OwnW.next HJ8.out hb9)
  have HB9 := lh (bthen HB8.out hb9)
  clear hb9 HB8 HS8 HJ8
  have hrj := ref_joins A4 n4 c4 w9.heap.size how g w9 HS9.out zd hn47 (fun l hl => (HG.out.row l hl).2) HCK.out HH.out
  rw [HL.out] at hrj
  have HRJ := lh hrj
  clear hrj
  go_wp2_with fail
  refine HRJ.out.mono ?_
  rintro e wa ⟨v, rfl, hjr, -, hba⟩
  obtain ⟨Aa, ca, hv, -, -⟩ := OwnJR.form hjr
  rw [HLEN.out] at hv
  subst hv
  have HJA := lh (OwnW.next HJ9.out hba)
  have HRA := lh hjr
  have HBA := lh (bthen HB9.out hba)
  clear hba hjr HRJ HJ9 HB9 HS9
  have hjq : ∀ j ∈ l, QS 1099511627776 j.high := fun j hj => by
   have hF : FarF g := ⟨HCK.out, (symF_of HCK.out).2.2.2.1, HG.out.len, fun l hl => (HG.out.row l hl).2⟩
   exact ((lj_of how hF).jb j (by rw [HL.out]; exact hj)).high.mono (by omega)
  have hjr : ReadsJ wa wa.heap.size A7 nj l := by
   have := OwnW.reads HJA.out
   rw [HLEN.out] at this
   exact this
  have HSA := lh (law_same A7 Aa nj c7 ca wa.heap.size wa.heap.size l wa hjr (OwnJR.reads HRA.out) zd zd (by omega) hjq)
  clear hjq hjr HJA HRA
  go_wp2_with fail
  refine HSA.out.mono ?_
  rintro e wb ⟨rfl, hbb⟩
  have HBB := lh (bthen HBA.out hbb)
  clear hbb HBA HSA
  go_wp2
  go_ret
  exact ⟨rfl, HBB.out⟩
 have hbl := link_build_err A6 n4 c6 how g w6 HQ6.out (by omega) (fun l hl y hy => ((HG.out.row l hl).2 y hy).mono (by omega)) HH.out hck
 have hcf := fun w' (hb : Below w6.heap.size w6 w') => ref_checkFars A4 n4 c4 w6.heap.size g w' (HS6.out.below rkindR hb) hb.size (by omega) (fun l hl y hy => ((HG.out.row l hl).2 y hy).mono (by omega))
 generalize checkFar g = cf at *
 have HBL := lh hbl
 have HCF := lh hcf
 have q1 : ((cf : Int) == 0) = false := by simp; omega
 have q2 : ((cf : Int) != 0) = true := by simp; omega
 have q3 : ¬ (cf : Int) = 0 := by omega
 have q9 : ((cf : Int) == (cf : Int)) = true := by simp
 clear hbl hcf hck
 go_wp2_with fail
 refine HBL.out.mono ?_
 rintro e w7 ⟨rfl, hb7⟩
 have HB7 := lh hb7
 clear hb7 HBL
 go_wp2_with fail
 refine (HCF.out _ HB7.out).mono ?_
 rintro e w8 ⟨rfl, hb8⟩
 have HB8 := lh (bthen HB7.out hb8)
 clear hb8 HB7
 go_wp2_with fail
 refine (law_known w8 (HT.out.next (bthen HB6.out HB8.out))).mono ?_
 rintro e w9 ⟨rfl, hb9⟩
 have HB9 := lh (bthen HB8.out hb9)
 clear hb9 HB8
 go_wp2_with fail
 refine (HCF.out _ HB9.out).mono ?_
 rintro e wa ⟨rfl, hba⟩
 have HBA := lh (bthen HB6.out (bthen HB9.out hba))
 clear hba HB9
 go_wp2
 go_ret
 exact ⟨rfl, HBA.out⟩
end Go.Proofs.YtecnjlcfoobepaaGreatDoor
