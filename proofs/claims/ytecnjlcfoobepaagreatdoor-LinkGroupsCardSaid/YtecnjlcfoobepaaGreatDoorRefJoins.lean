import Derived.Test.YtecnjlcfoobepaaGreatDoorLinkFine
namespace Go.Proofs.YtecnjlcfoobepaaGreatDoor
set_option maxRecDepth 100000
set_option maxHeartbeats 8000000
open Go.RowKit
set_option linter.all false
def upA (n m : Nat) : Array Bool := ((List.range n).map fun j => decide (j < m)).toArray
theorem Joi (n : Nat) : Array.replicate n false = upA n 0 := by
 refine Array.ext (by simp [upA]) fun i h1 h2 => by simp [upA]
theorem Jl1 {n m : Nat} (h : m < n) : (upA n m).setIfInBounds m true = upA n (m + 1) := by
 unfold upA
 rw [List.setIfInBounds_toArray]
 congr 1
 refine List.ext_getElem (by simp) fun i h1 h2 => ?_
 rw [List.getElem_set]
 simp only [List.getElem_map, List.getElem_range]
 by_cases hi : m = i
 ·subst hi; simp
 rw [if_neg hi]
 by_cases h3 : i < m
 ·simp [h3, show i < m + 1 by omega]
 simp [h3, show ¬ i < m + 1 by omega]
section
variable {P : Program} {ops : Array Oper} {Q : Exit -> Act -> World -> Prop} {S : World -> Prop}
def Ja2 (P : Program) (ops : Array Oper) (Q : Exit -> Act -> World -> Prop) (S : World -> Prop) (m : Nat) (a : Act) (w : World) : Prop := wpAnyH P .any ops Q S (ops.size - m) (upA ops.size m) a w
theorem Jbf {id : Nat} {a : Act} {w : World} (hm : P.follows .mixedOrders = true) (hS : S w.drew) (h : S w.drew -> Ja2 P ops Q S 0 a w.drew) : (Code.region id ops true).wp P Q a w :=
 wp_region_held_drew hm hS fun h1 => by rw [Joi]; exact h h1
theorem Qs {m : Nat} {oi : Oper} {v : Value} {a : Act} {w : World} (hi : ops[m]? = some oi) (hk : (Region.noSelect ops && Region.free .any ops (upA ops.size m) m && (Region.ready .any ops (upA ops.size m)).contains m) = true)
  (hQ : ∀ c a w, Q (.panic c) (a.put oi.dst v) w -> Q (.panic c) a w) (hy : YieldsIf P ops S oi v a) (hS : S w) (h : Ja2 P ops Q S (m + 1) (a.put oi.dst v) w) : Ja2 P ops Q S m a w := by
 have hm : m < ops.size := (Array.getElem?_eq_some_iff.1 hi).1
 simp only [Bool.and_eq_true] at hk
 unfold Ja2 at *
 rw [show ops.size - m = (ops.size - (m + 1)) + 1 by omega]
 refine wpAnyH_take hi hk.1.1 hk.1.2 hk.2 hQ hy hS ?_
 rw [Jl1 hm]
 exact h
theorem Ve {m : Nat} {o : Oper} {a : Act} {w : World} (ho : ops[m]? = some o) (hk : Region.ready .any ops (upA ops.size m) = [m])
  (h : ∀ K' : Act -> World -> Prop, Shut (∀ a w, S w -> (S w -> Ja2 P ops Q S (m + 1) a w) -> K' a w) -> if Region.wanted o (yielded ops a.tmps) = true then Oper.wp P o a w K' Q else K' (a.put o.dst undef) w) : Ja2 P ops Q S m a w := by
 have hm : m < ops.size := (Array.getElem?_eq_some_iff.1 ho).1
 unfold Ja2 at *
 rw [show ops.size - m = (ops.size - (m + 1)) + 1 by omega]
 refine wpAnyH_ready hk (by simp) (AllReadyH.cons ho (fun K' hK => h K' ?_) AllReadyH.nil)
 rw [<- Jl1 hm]
 exact hK
theorem Jcj {m : Nat} {a : Act} {w : World} (hr : Region.ready .any ops (upA ops.size m) = []) (h : Q .normal a w) : Ja2 P ops Q S m a w := wpAnyH_done hr h _
end
theorem Tryz.eltM : Elt Tryz.prog 24 97 (.slice none 0 0) 24 := ⟨Tryz.underlying24, by kernel_rfl, by kernel_rfl⟩
theorem Jo1 (A : Option Addr) (n c B m wd : Nat) (x : List (List Rat)) (w : World) (h : Jcq w B A n x) (hB : B <= w.heap.size) (hn : n <= 1000) (hm : 1 <= m) (kB : m <= 10000000) (kC : wd <= 1000) (hs : ∀ l ∈ x, l.length = wd /\ ∀ y ∈ l, QS m y) :
  Calls Tryz.prog 23 #[.slice A n c] w fun e w' => ∃ v, e = .returned v /\ OwnSA 97 OwnR w.heap.size w'.heap.size w' v (Xr x) /\ (∀ b, v.ownBlock = some b -> w.heap.size <= b) /\ Below w.heap.size w w' := by
 have j6 := h.len
 have H := lh h
 have HS := lh hs
 have HLEN := lh j6
 have HFL := lh (Yu x)
 clear h hs
 go_enter Tryz.func23, Tryz.ntmps23
 go_wp2_with fail
 go_loopw [3, 4] (fun v i wr => ∃ k : Nat, k <= n /\ i = .int .i64 (k : Int) /\ OwnSA 97 OwnR w.heap.size wr.heap.size wr v ((Xr x).take k) /\ (∀ b, v.ownBlock = some b -> w.heap.size <= b) /\ Below w.heap.size w wr) (fun _ i _ => n - (intOf i).toNat)
 case atStart => exact ⟨0, by omega, rfl, OwnSA.nil _ _ _ _ _, (fun b h => by cases h), Below.refl _ _⟩
 case round =>
  obtain ⟨k, hk, rfl, j7, aR, o5⟩ := hrel
  rename World => wr
  by_cases iO : k < n
  ·have k1 : (k : Int) < (n : Int) := by omega
   obtain ⟨xi, fE⟩ : ∃ l, x[k]? = some l := ⟨_, List.getElem?_eq_getElem (by omega)⟩
   have iP : (Xr x).take (k + 1) = (Xr x).take k ++ [x.map fun b => Xt xi b] := by
    rw [List.take_add_one, Jcl fE]; rfl
   have HSC := lh iP
   have HXI := lh fE
   have HO := lh j7
   have HFR := lh aR
   have HBL := lh o5
   have HLK := lh (show ((Xr x).take k).length <= 1000000 from by rw [List.length_take]; omega)
   clear iP fE j7 aR o5
   go_wp2_with fail
   go_loopw [5, 6] (fun vl j wi => ∃ a : Nat, a <= n /\ j = .int .i64 (a : Int) /\ OwnR wi vl ((x.map fun b => Xt xi b).take a) /\ Hid (∀ b, vl.ownBlock = some b -> wr.heap.size <= b) /\ Below wr.heap.size wr wi) (fun _ j _ => n - (intOf j).toNat)
   case atStart => exact ⟨0, by omega, rfl, OwnR.nil _, lh (fun b h => by cases h), Below.refl _ _⟩
   case round =>
    obtain ⟨a, ha, rfl, cU, fF, aD⟩ := hrel
    rename World => wi
    by_cases lI : a < n
    ·have k2 : (a : Int) < (n : Int) := by omega
     obtain ⟨xa, eP⟩ : ∃ l, x[a]? = some l := ⟨_, List.getElem?_eq_getElem (by omega)⟩
     obtain ⟨ad, A1, m1, c1, rfl, bC, bE, fG⟩ := (H.out.below Jcu (HBL.out.mono hB)).at_ HXI.out
     obtain ⟨ad2, A2, m2, c2, fH, bY, bF, fI⟩ := (H.out.below Jcu (HBL.out.mono hB)).at_ eP
     obtain rfl := Option.some.inj fH
     have s1 := HS.out xi (List.mem_of_getElem? HXI.out)
     have s2 := HS.out xa (List.mem_of_getElem? eP)
     have e1 : m1 = wd := by rw [<- fG.len]; exact s1.1
     have e2 : m2 = wd := by rw [<- fI.len]; exact s2.1
     subst e1
     subst e2
     have eQ := nt hB HBL.out.size
     have HF := lh (fun w' (hb : Below wi.heap.size wi w') => Jq4 A1 A2 m2 c1 c2 B m xi xa w' (fG.below ((aD.trans (hb.mono aD.size)).mono eQ)) (fI.below ((aD.trans (hb.mono aD.size)).mono eQ)) (nt eQ (nt aD.size hb.size)) kC hm kB s1.2 s2.2)
     obtain ⟨g3, o3, iQ, fJ⟩ := Kd bE
     rw [iQ] at bE
     obtain ⟨g4, o4, iR, fK⟩ := Kd bF
     rw [iR] at bF
     have d3 := At1.mk' bE
     have d4 := At1.mk' bF
     have D3 := lh d3
     have D4 := lh d4
     have b3 := d3.below aD d3.lt
     have b4 := d4.below aD d4.lt
     have dH : (x.map fun b => Xt xi b).take (a + 1) = (x.map fun b => Xt xi b).take a ++ [Xt xi xa] := by
      rw [List.take_add_one, List.getElem?_map, eP]; rfl
     have HSN := lh dH
     have HOL := lh cU
     have HBI := lh aD
     have HLA := lh (show ((x.map fun b => Xt xi b).take a).length <= 1000000 from by rw [List.length_take]; omega)
     clear fG fI s1 s2 dH cU aD eP bC bY bE bF d3 d4 fJ fK eQ
     go_upto_region 9 with fail
     obtain ⟨bZ, fL⟩ := b3.c2; have c3 := b3.drew; have fM := c3.lt; obtain ⟨cA, cB⟩ := b4.c2; have c4 := b4.drew; have fN := c4.lt; have hc := Jf wi; go_region_held3 (fun w' => w'.cell? ⟨g3, o3, none⟩ = some (.slice A1 m2 c1) /\ w'.cell? ⟨g4, o4, none⟩ = some (.slice A2 m2 c2)) (go_keep) (first | (go_at_call 60; (with_reducible refine (HF.out _ hc).mono ?_); rintro e w1 ⟨v1, rfl, aM, t7⟩; obtain ⟨g1, A1, l1, c1c, A1', l1', c1c', cV⟩ := aM.shape; subst cV; (try clear aS fO); obtain ⟨c3, aS, fO⟩ := c3.zc2 t7; (try clear fM); have fM := c3.lt; (try clear aT cC); obtain ⟨c4, aT, cC⟩ := c4.zc2 t7; (try clear fN); have fN := c4.lt; have hc := Ja hc t7) | (refine Jrw rfl (.tmp 19) (.tmp 29) rfl w1 _ ((x.map fun b => Xt xi b).take a) (Xt xi xa) g1 A1 l1 c1c A1' l1' c1c' (by simp [Act.eval, Act.put]) (HOL.out.next hc) aM (by simp [Act.eval, Act.put]) HLA.out ?_; intro v7 w7 iS eR; have h7 := (HBI.out.trans (hc.mono HBI.out.size)).trans (eR.below (nt HBI.out.size hc.size) fF.out); have HO7 := lh iS; have HF7 := lh (Kx eR fF.out (nt HBI.out.size hc.size)); have H7 := lh h7; clear aS aT; have c3 := D3.out.below h7 D3.out.lt; have c4 := D4.out.below h7 D4.out.lt; obtain ⟨aS, -⟩ := c3.c2; obtain ⟨aT, -⟩ := c4.c2; clear iS eR h7))
     all_goals
      go_wp2
      exact ⟨⟨a + 1, by omega, by go_num, by rw [HSN.out]; exact HO7.out, HF7.out, H7.out⟩, by simp [intOf]; omega⟩
    obtain rfl : a = n := by omega
    have k2 : ¬ (a : Int) < (a : Int) := by omega
    rw [List.take_of_length_le (by rw [List.length_map]; omega)] at cU
    obtain ⟨A1, d1, cV, _, _⟩ := OwnR.form cU
    rw [List.length_map, HLEN.out] at cV
    subst cV
    have fP := cU.lt
    have dI := OwnSA.next Tryz.kindRR HO.out aD
    have aU := HBL.out.trans (aD.mono HBL.out.size)
    have fQ := fF.out
    have eT := aD.size
    clear aD
    go_wp2_with (at_builtin; refine Jth Tryz.kindRR Tryz.eltM rfl (.tmp 31) (.tmp 33) rfl w.heap.size wr.heap.size _ _ _ ((Xr x).take k) A1 _ d1 (x.map fun b => Xt xi b) rfl dI cU (fun b hb => ⟨fQ b hb, fP b hb⟩) eT HBL.out.size rfl HLK.out ?_; intro v' w2 j9 bD)
    have dJ := aU.trans (bD.below aU.size HFR.out)
    have aA := bD.fresh aU.size HFR.out
    rw [<- HSC.out] at j9
    exact ⟨⟨k + 1, by omega, by go_num, j9.more bD.size, aA, dJ⟩, by simp [intOf]; omega⟩
  obtain rfl : k = n := by omega
  have k1 : ¬ (k : Int) < (k : Int) := by omega
  rw [List.take_of_length_le (by rw [HFL.out]; omega)] at j7
  have HO := lh j7
  have HFR := lh aR
  have HBL := lh o5
  clear j7 aR o5
  go_wp2
  go_ret
  exact ⟨_, rfl, HO.out, HFR.out, HBL.out⟩
theorem Jsv {f : List (List Rat)} {m : Nat} (h : ∀ l ∈ f, ∀ x ∈ l, QS m x) (hm : 1 <= m) (a b : Nat) : QS m (dOf f a b) := by
 unfold dOf
 rw [List.getD_eq_getElem?_getD (l := f)]
 cases hl : f[a]? with
 | none => exact QS.getD (fun x hx => by cases hx) hm b
 | some l => exact QS.getD (h l (List.mem_of_getElem? hl)) hm b
theorem OwnR.atS {w : World} {g n c : Nat} {ql : List Rat} (h : OwnR w (.slice (some ⟨g, 0, none⟩) n c) ql) {k : Nat} {q : Rat} (hq : ql[k]? = some q) : ∃ r : RC, AtR w g (k * 3) r /\ IsQ w w.heap.size r.v q := by
 obtain ⟨r, h0, h1, h2, h3⟩ := OwnR.cell3 h hq
 exact ⟨r, ⟨h0, h1, h2⟩, h3⟩
theorem Jlt {B g i j k : Nat} {w w' : World} (h : Below B w w') (hg : B <= g) (x y z : Value) : Below B w (((w'.setCell ⟨g, i, none⟩ x).setCell ⟨g, j, none⟩ y).setCell ⟨g, k, none⟩ z) := ((h.setCell (p := ⟨g, i, none⟩) hg x).setCell (p := ⟨g, j, none⟩) hg y).setCell (p := ⟨g, k, none⟩) hg z
theorem ReadsR.cut {w : World} {B n : Nat} {A : Option Addr} {ql : List Rat} (h : ReadsR w B A n ql) {u c : Nat} (hu : u <= n) (hc : n <= c) : ReadsR w B (Us A c u 3) (n - u) (ql.drop u) := by
 obtain ⟨rl, h1, h2⟩ := h
 refine ⟨rl.drop u, ⟨by rw [List.length_drop, h1.1], ?_⟩, by rw [List.length_drop, List.length_drop, h2.1], fun i r q hr hq => ?_⟩
 ·have h3 := Reads.cut h1.2 hu hc
  have e : (rl.flatMap RC.cs).drop (u * 3) = (rl.drop u).flatMap RC.cs := by
   have : ∀ (l : List RC) u, (l.flatMap RC.cs).drop (u * 3) = (l.drop u).flatMap RC.cs := by
    intro l
    induction l with
    | nil => intro u; simp
    | cons r l ih =>
     intro u
     cases u with
     | zero => simp
     | succ u =>
      rw [List.flatMap_cons, List.drop_succ_cons, <- ih u, show (u + 1) * 3 = (RC.cs r).length + u * 3 from by rw [RC.len]; omega, List.drop_append]
      simp
   exact this rl u
  rw [e] at h3
  exact h3
 rw [List.getElem?_drop] at hr hq
 exact h2.2 _ r q hr hq
def setAt (f : List (List Rat)) (a b : Nat) (q : Rat) : List (List Rat) := f.set a ((f.getD a []).set b q)
def Jl4 (f : List (List Rat)) (way a b : Nat) (q : Rat) : List (List Rat) :=
 if way = 0 then setAt f a b q else if way = 1 then setAt (setAt f a b q) b a q else if way = 2 then f.set a ((f.getD a []).drop 1) else f
structure Small (f : List (List Rat)) : Prop where
 len : f.length <= 7
 row : ∀ l ∈ f, l.length <= 7 /\ ∀ y ∈ l, QS 47 y
theorem Small.set_ {f : List (List Rat)} (h : Small f) (a : Nat) (l : List Rat) (hl : l.length <= 7 /\ ∀ y ∈ l, QS 47 y) : Small (f.set a l) :=
 ⟨by rw [List.length_set]; exact h.len, fun l' kD => by
  rcases List.mem_or_eq_of_mem_set kD with h1 | h1
  ·exact h.row l' h1
  rw [h1]; exact hl⟩
theorem Small.at_ {f : List (List Rat)} (h : Small f) (a : Nat) : (f.getD a []).length <= 7 /\ ∀ y ∈ f.getD a [], QS 47 y := by
 rw [List.getD_eq_getElem?_getD]
 cases hf : f[a]? with
 | none => exact ⟨by simp, fun y hy => by cases hy⟩
 | some l => exact h.row l (List.mem_of_getElem? hf)
theorem Small.setAt {f : List (List Rat)} (h : Small f) (a b : Nat) {q : Rat} (hq : QS 47 q) : Small (setAt f a b q) := by
 refine h.set_ a _ ⟨by rw [List.length_set]; exact (h.at_ a).1, fun y hy => ?_⟩
 rcases List.mem_or_eq_of_mem_set hy with h1 | h1
 ·exact (h.at_ a).2 y h1
 rw [h1]; exact hq
theorem Small.spoilt {f : List (List Rat)} (h : Small f) (way a b : Nat) {q : Rat} (hq : QS 47 q) : Small (Jl4 f way a b q) := by
 unfold Jl4
 split
 ·exact h.setAt a b hq
 split
 ·exact (h.setAt a b hq).setAt b a hq
 split
 ·exact h.set_ a _ ⟨by rw [List.length_drop]; have := (h.at_ a).1; omega, fun y hy => (h.at_ a).2 y (List.mem_of_mem_drop hy)⟩
 exact h
def Kv (s : List Rat) (x : Rat) : Nat -> Nat
 | 0 => 0
 | k + 1 => if x < s.getD k 0 then Kv s x k else k + 1
def Jc3 (s : List Rat) (x : Rat) : List Rat := s.take (Kv s x s.length) ++ x :: s.drop (Kv s x s.length)
def Yn (l : List Rat) : List Rat := l.foldl Jc3 []
theorem Jhu (s : List Rat) (x : Rat) : ∀ k, Kv s x k <= k := by
 intro k
 induction k with
 | zero => exact Nat.le_refl _
 | succ k ih =>
  unfold Kv
  split
  ·omega
  exact Nat.le_refl _
theorem Jjl (s : List Rat) (x : Rat) : (Jc3 s x).length = s.length + 1 := by
 have h := Jhu s x s.length
 unfold Jc3
 rw [List.length_append, List.length_take, List.length_cons, List.length_drop]
 omega
theorem Jkj {l : List Rat} {k : Nat} {x : Rat} (h : l[k]? = some x) : Yn (l.take (k + 1)) = Jc3 (Yn (l.take k)) x := by
 unfold Yn
 rw [List.take_add_one, h, List.foldl_append]
 rfl
theorem Kn (l : List Rat) : (Yn l).length = l.length := by
 have : ∀ (l s : List Rat), (l.foldl Jc3 s).length = s.length + l.length := by
  intro l
  induction l with
  | nil => intro s; rfl
  | cons x l ih => intro s; rw [List.foldl_cons, ih, Jjl, List.length_cons]; omega
 unfold Yn
 rw [this]
 simp
theorem Jpd {s : List Rat} {x y : Rat} : y ∈ Jc3 s x ↔ y = x \/ y ∈ s := by
 unfold Jc3
 rw [List.mem_append, List.mem_cons]
 constructor
 ·rintro (h | h | h)
  ·exact .inr (List.mem_of_mem_take h)
  ·exact .inl h
  exact .inr (List.mem_of_mem_drop h)
 rintro (h | h)
 ·exact .inr (.inl h)
 rw [<- List.take_append_drop (Kv s x s.length) s, List.mem_append] at h
 rcases h with h | h
 ·exact .inl h
 exact .inr (.inr h)
theorem mem_sortQ {l : List Rat} {y : Rat} : y ∈ Yn l ↔ y ∈ l := by
 have : ∀ (l s : List Rat), y ∈ l.foldl Jc3 s ↔ y ∈ l \/ y ∈ s := by
  intro l
  induction l with
  | nil => intro s; simp
  | cons x l ih =>
   intro s
   rw [List.foldl_cons, ih, Jpd, List.mem_cons]
   constructor
   ·rintro (h | h | h)
    ·exact .inl (.inr h)
    ·exact .inl (.inl h)
    exact .inr h
   rintro ((h | h) | h)
   ·exact .inr (.inl h)
   ·exact .inl h
   exact .inr (.inr h)
 unfold Yn
 rw [this]
 simp
def Jfk (s : List Rat) : Prop := ∀ i j, i <= j -> j < s.length -> s.getD i 0 <= s.getD j 0
theorem Jnr (s : List Rat) (x : Rat) : ∀ k, k <= s.length -> (Kv s x k = 0 \/ s.getD (Kv s x k - 1) 0 <= x) /\ ∀ j, Kv s x k <= j -> j < k -> x < s.getD j 0 := by
 intro k
 induction k with
 | zero => intro _; exact ⟨.inl rfl, fun j _ h => absurd h (by omega)⟩
 | succ k ih =>
  intro hk
  unfold Kv
  split
  ·rename_i h
   obtain ⟨h1, h2⟩ := ih (by omega)
   refine ⟨h1, fun j hj iT => ?_⟩
   by_cases e : j = k
   ·rw [e]; exact h
   exact h2 j hj (by omega)
  rename_i h
  exact ⟨.inr (Rat.not_lt.1 h), fun j hj iT => absurd iT (by omega)⟩
theorem Jmf {s : List Rat} {x : Rat} {j : Nat} (hj : j < s.length + 1) : (Jc3 s x).getD j 0 = if j < Kv s x s.length then s.getD j 0 else if j = Kv s x s.length then x else s.getD (j - 1) 0 := by
 have hk := Jhu s x s.length
 unfold Jc3
 generalize Kv s x s.length = k at *
 rw [List.getD_eq_getElem?_getD]
 by_cases h1 : j < k
 ·rw [if_pos h1, List.getElem?_append_left (by rw [List.length_take]; omega), List.getElem?_take, if_pos h1, <- List.getD_eq_getElem?_getD]
 rw [if_neg h1, List.getElem?_append_right (by rw [List.length_take]; omega), List.length_take, Nat.min_eq_left hk]
 by_cases h2 : j = k
 ·rw [if_pos h2, h2, Nat.sub_self]; rfl
 rw [if_neg h2]
 obtain ⟨i, hi⟩ : ∃ i, j - k = i + 1 := ⟨j - k - 1, by omega⟩
 rw [hi, List.getElem?_cons_succ, List.getElem?_drop, show k + i = j - 1 by omega, <- List.getD_eq_getElem?_getD]
theorem Jjk {s : List Rat} (h : Jfk s) (x : Rat) : Jfk (Jc3 s x) := by
 intro i j cD hj
 rw [Jjl] at hj
 rw [Jmf (by omega), Jmf hj]
 obtain ⟨h1, h2⟩ := Jnr s x s.length zd
 have hk := Jhu s x s.length
 generalize Kv s x s.length = k at *
 by_cases a1 : i < k
 ·rw [if_pos a1]
  by_cases a2 : j < k
  ·rw [if_pos a2]; exact h i j cD (by omega)
  rw [if_neg a2]
  have hx : s.getD i 0 <= x := by
   rcases h1 with h1 | h1
   ·omega
   exact Rat.le_trans (h i (k - 1) (by omega) (by omega)) h1
  by_cases a3 : j = k
  ·rw [if_pos a3]; exact hx
  rw [if_neg a3]; exact Rat.le_trans hx (Rat.le_of_lt (h2 (j - 1) (by omega) (by omega)))
 rw [if_neg a1, if_neg (show ¬ j < k by omega)]
 by_cases a2 : i = k
 ·rw [if_pos a2]
  by_cases a3 : j = k
  ·rw [if_pos a3]; exact Rat.le_refl
  rw [if_neg a3]; exact Rat.le_of_lt (h2 (j - 1) (by omega) (by omega))
 rw [if_neg a2, if_neg (show ¬ j = k by omega)]
 exact h (i - 1) (j - 1) (by omega) (by omega)
theorem Jb8 (l : List Rat) : Jfk (Yn l) := by
 have : ∀ (l s : List Rat), Jfk s -> Jfk (l.foldl Jc3 s) := by
  intro l
  induction l with
  | nil => intro s h; exact h
  | cons x l ih => intro s h; rw [List.foldl_cons]; exact ih _ (Jjk h x)
 exact this l [] (fun i j _ hj => absurd hj (by simp))
theorem Ji9 {l : List Rat} {y : Rat} (h : y ∈ l) : ∃ i, i < l.length /\ l.getD i 0 = y := by
 obtain ⟨i, hi, e⟩ := List.mem_iff_getElem.1 h
 exact ⟨i, hi, by rw [List.getD_eq_getElem?_getD, List.getElem?_eq_getElem hi]; exact e⟩
theorem Jey {l : List Rat} {i : Nat} (h : i < l.length) : l.getD i 0 ∈ l := by
 rw [List.getD_eq_getElem?_getD, List.getElem?_eq_getElem h]
 exact List.getElem_mem h
theorem Jki {l : List Rat} {x : Rat} (h0 : l ≠ []) (h1 : x ∈ l) (h2 : ∀ y ∈ l, x <= y) : (Yn l).getD 0 0 = x := by
 have j6 : 0 < (Yn l).length := by rw [Kn]; exact List.length_pos_iff.2 h0
 obtain ⟨i, hi, e⟩ := Ji9 (mem_sortQ.2 h1)
 have h3 := Jb8 l 0 i (by omega) hi
 rw [e] at h3
 exact Rat.le_antisymm h3 (h2 _ (mem_sortQ.1 (Jey j6)))
theorem Jmz {l : List Rat} {x : Rat} (h0 : l ≠ []) (h1 : x ∈ l) (h2 : ∀ y ∈ l, y <= x) : (Yn l).getD (l.length - 1) 0 = x := by
 have j6 : 0 < l.length := List.length_pos_iff.2 h0
 obtain ⟨i, hi, e⟩ := Ji9 (mem_sortQ.2 h1)
 have hl := Kn l
 have h3 := Jb8 l i (l.length - 1) (by omega) (by omega)
 rw [e] at h3
 exact Rat.le_antisymm (h2 _ (mem_sortQ.1 (Jey (by omega)))) h3
theorem Jmb {s : List Rat} {k : Nat} {y z : Rat} (hk : k <= s.length) : (s.take k ++ y :: s.drop k).set k z = s.take k ++ z :: s.drop k := by
 rw [List.set_append_right _ _ (by rw [List.length_take]; omega), List.length_take, Nat.min_eq_left hk, Nat.sub_self]
 rfl
theorem Jnb {s : List Rat} {k : Nat} (hk : k < s.length) : s.take (k + 1) ++ s.getD k 0 :: s.drop (k + 1) = s.take k ++ s.getD k 0 :: s.drop k := by
 have e1 : s[k]? = some (s.getD k 0) := by rw [List.getD_eq_getElem?_getD, List.getElem?_eq_getElem hk]; rfl
 have e2 : s.drop k = s.getD k 0 :: s.drop (k + 1) := by
  rw [List.drop_eq_getElem_cons hk, List.getD_eq_getElem?_getD, List.getElem?_eq_getElem hk]
  rfl
 rw [e2, List.take_add_one, e1]
 simp
theorem Jpc {s : List Rat} {k j : Nat} {y : Rat} (hj : j < k) (hk : k <= s.length) : (s.take k ++ y :: s.drop k)[j]? = some (s.getD j 0) := by
 rw [List.getElem?_append_left (by rw [List.length_take]; omega), List.getElem?_take, if_pos hj, List.getElem?_eq_getElem (by omega), List.getD_eq_getElem?_getD, List.getElem?_eq_getElem (by omega)]
 rfl
theorem Js9 {s : List Rat} {k : Nat} {y : Rat} (hk : k <= s.length) : (s.take k ++ y :: s.drop k)[k]? = some y := by
 rw [List.getElem?_append_right (by rw [List.length_take]; omega), List.length_take, Nat.min_eq_left hk, Nat.sub_self]; rfl
theorem Jow (A : Option Addr) (n c B m : Nat) (l : List Rat) (w : World) (h : ReadsR w B A n l) (hB : B <= w.heap.size) (hn : n <= 1000000) (hm : m <= 68719476736) (hq : ∀ x ∈ l, QS m x) :
  Calls Tryz.prog 99 #[.slice A n c] w fun e w' => ∃ v, e = .returned v /\ OwnR w' v (Yn l) /\ (∀ b, v.ownBlock = some b -> w.heap.size <= b) /\ Below w.heap.size w w' := by
 have H := lh h
 have HLN := lh h.len
 have HQ := lh hq
 clear h hq
 go_enter Tryz.func99, Tryz.ntmps99
 go_wp2_with fail
 go_loopw [3, 4] (fun v i wr => ∃ k : Nat, k <= n /\ i = .int .i64 (k : Int) /\ OwnR wr v (Yn (l.take k)) /\ Hid (∀ b, v.ownBlock = some b -> w.heap.size <= b) /\ Below w.heap.size w wr) (fun _ i _ => n - (intOf i).toNat)
 case atStart => exact ⟨0, by omega, rfl, OwnR.nil _, lh (fun b h => by cases h), Below.refl _ _⟩
 case round =>
  obtain ⟨i, hi, rfl, j7, aR, o5⟩ := hrel
  rename World => wr
  by_cases cZ : i < n
  ·have k1 : (i : Int) < (n : Int) := by omega
   obtain ⟨x, hx⟩ : ∃ x, l[i]? = some x := ⟨_, List.getElem?_eq_getElem (by have := HLN.out; omega)⟩
   have s9 := Jkj hx
   have fR : (Yn (l.take i)).length = i := by rw [Kn, List.length_take]; have := HLN.out; omega
   have iU : ∀ y ∈ Yn (l.take i), QS m y := fun y hy => HQ.out y (List.mem_of_mem_take (mem_sortQ.1 hy))
   have iV := HQ.out x (List.mem_of_getElem? hx)
   generalize Yn (l.take i) = s at *
   obtain ⟨ad, gx, ox, r, rfl, hP, fS, b1, o0⟩ := (H.out.below (o5.mono hB)).at_ hx cZ
   have aV := nt hB o5.size
   have o0 := o0.more aV
   obtain ⟨rg, rA, rl, rc, rA', rl', rc'⟩ := r
   replace o0 : IsQ wr wr.heap.size (.agg #[.bool rg, .slice rA rl rc, .slice rA' rl' rc']) x := o0
   (try simp only [] at b1)
   obtain ⟨As, cs, hv, iW, -⟩ := OwnR.form j7
   rw [fR] at hv iW
   subst hv
   have HX := lh hx
   have HST := lh s9
   have HSL := lh fR
   have HSQ := lh iU
   have HQX := lh iV
   have HIQ := lh o0
   have HO := lh j7
   have HBL := lh o5
   have HB1 := lh b1
   obtain ⟨x0, x1, x2⟩ := b1.c3
   clear s9 fR iU iV o0 j7 o5 hx fS b1 iW aV
   obtain ⟨n9, iX⟩ : ∃ n9, i + 1 = n9 := ⟨_, rfl⟩
   go_upto_region 6 with fail
   go_cut [3] (fun v wc => ∃ g c', v = .slice (some ⟨g, 0, none⟩) n9 c' /\ w.heap.size <= g /\ OwnR wc v (s ++ [x]) /\ Below w.heap.size w wc)
   case first =>
    go_wp2_with (at_builtin; refine Jsx rfl (.tmp 14) (.tmp 19) rfl wr _ s x rg rA rl rc rA' rl' rc' rfl HO.out HIQ.out rfl (by rw [HSL.out]; omega) ?_; intro v' w2 j9 bD; have HO2 := lh j9; have HGR := lh bD; clear j9 bD)
    go_meet
    obtain ⟨A2, c2, cE, -, -⟩ := OwnR.form HO2.out
    rw [List.length_append, HSL.out] at cE
    have cE : _ = Value.slice A2 (i + 1) c2 := cE
    rw [iX] at cE
    have cF := HO2.out
    rw [cE] at cF
    obtain ⟨g2, rfl⟩ := OwnR.addr cF (by rw [List.length_append]; simp)
    exact ⟨g2, c2, cE, Kx HGR.out aR.out HBL.out.size g2 (by rw [cE]; rfl), HO2.out, HBL.out.trans (HGR.out.below HBL.out.size aR.out)⟩
   case rest =>
   obtain ⟨g, c9, rfl, hg, cF, aW⟩ := hcut
   rename World => w2
   have e9 : (i : Int) + 1 = (n9 : Int) := by omega
   rw [iX] at HST
   have k2 : (i : Int) < (n9 : Int) := by omega
   clear HO aR x0 x1 x2 HB1 HIQ hP
   have HSLI : Hid (Kv s x s.length = Kv s x i) := lh (by rw [HSL.out])
   have cF : OwnR w2 (.slice (some ⟨g, 0, none⟩) n9 c9) (s.take i ++ x :: s.drop i) := by
    rw [List.take_of_length_le (by rw [HSL.out]; exact Nat.le_refl _), List.drop_of_length_le (by rw [HSL.out]; exact Nat.le_refl _)]
    exact cF
   have HO2 := lh cF
   have HB2 := lh aW
   clear cF aW
   go_wp2_with fail
   go_loopw [5] (fun p wz => ∃ (k : Nat) (y : Rat), k <= i /\ p = .int .i64 (k : Int) /\ Hid (Kv s x s.length = Kv s x k) /\ OwnR wz (.slice (some ⟨g, 0, none⟩) n9 c9) (s.take k ++ y :: s.drop k) /\ Below w.heap.size w wz) (fun p _ => (intOf p).toNat)
   case atStart => exact ⟨i, x, by omega, rfl, HSLI, HO2.out, HB2.out⟩
   case round =>
    obtain ⟨k, y, hk, rfl, bG, iY, aI⟩ := hrel
    rename World => wz
    clear HO2 HB2 HBL
    obtain ⟨ad2, gx2, ox2, r, fH, hP, fS, b1, o0⟩ := (H.out.below (aI.mono hB)).at_ HX.out cZ
    obtain rfl := Option.some.inj fH
    have o0 := o0.more (nt hB aI.size)
    obtain ⟨rg, rA, rl, rc, rA', rl', rc'⟩ := r
    replace o0 : IsQ wz wz.heap.size (.agg #[.bool rg, .slice rA rl rc, .slice rA' rl' rc']) x := o0
    (try simp only [] at b1)
    have dK : k <= s.length := by rw [HSL.out]; exact hk
    have k3 : (k : Int) < (n9 : Int) := by omega
    have HIQ := lh o0
    have HOZ := lh iY
    have HBZ := lh aI
    clear o0 iY aI fS
    go_upto_region 7 with fail
    go_cut [35] (fun v wc => ∃ t, v = .bool t /\ Hid (t = true ↔ 0 < k /\ x < s.getD (k - 1) 0) /\ Below wz.heap.size wz wc)
    case first =>
     by_cases fT : 0 < k
     ·obtain ⟨k9, dL⟩ : ∃ k9, k - 1 = k9 := ⟨_, rfl⟩
      have e10 : (k : Int) - 1 = (k9 : Int) := by omega
      have ew : IntKind.i64.wrap (k9 : Int) = (k9 : Int) := IntWalk.i64_in _ (by omega)
      have f0 : (0 : Int) < (k : Int) := by omega
      have f0' : decide ((0 : Int) < (k : Int)) = true := decide_eq_true f0
      have f1 : (k9 : Int) < (n9 : Int) := by omega
      obtain ⟨r2, b2, aB⟩ := OwnR.atS HOZ.out (k := k9) (Jpc (by omega) dK)
      have fU := HSQ.out (s.getD k9 0) (Jey (by rw [HSL.out]; omega))
      have fV : ∃ z, s.getD k9 0 = z := ⟨_, rfl⟩
      obtain ⟨z, hz⟩ := fV
      rw [hz] at aB fU
      have HZ := lh (show s.getD (k - 1) 0 = z by rw [dL]; exact hz)
      obtain ⟨zg, zA, zl, zc, zA', zl', zc'⟩ := r2
      replace aB : IsQ wz wz.heap.size (.agg #[.bool zg, .slice zA zl zc, .slice zA' zl' zc']) z := aB
      (try simp only [] at b2)
      have dM := fun w' (hb : Below wz.heap.size wz w') => Jcb z x wz.heap.size _ _ w' (aB.below hb) (HIQ.out.below hb) hb.size (fU.mono hm) (HQX.out.mono hm)
      have iZ := Jh3 x z
      generalize Yw z x = cv at *
      have HCM := lh dM
      have HGT := lh iZ
      clear dM iZ aB fU hz dL
      obtain ⟨cG, fW, kE⟩ := b2.c3; have c2 := b2.drew; have bH := c2.lt; obtain ⟨cH, fX, kF⟩ := b1.c3; have c1 := b1.drew; have bI := c1.lt; have hc := Jf wz; go_region_held3 (fun w' => w'.cell? ⟨g, k9 * 3, none⟩ = some (.bool zg) /\ w'.cell? ⟨g, k9 * 3 + 1, none⟩ = some (.slice zA zl zc) /\ w'.cell? ⟨g, k9 * 3 + 2, none⟩ = some (.slice zA' zl' zc') /\ w'.cell? ⟨gx2, ox2, none⟩ = some (.bool rg) /\ w'.cell? ⟨gx2, ox2 + 1, none⟩ = some (.slice rA rl rc) /\ w'.cell? ⟨gx2, ox2 + 2, none⟩ = some (.slice rA' rl' rc')) (go_keep) (first | (go_at_call 57; (with_reducible refine (HCM.out _ hc).mono ?_); rintro e w1 ⟨rfl, t7⟩; (try clear t8 cI fY); obtain ⟨c2, t8, cI, fY⟩ := c2.zc3 t7; (try clear bH); have bH := c2.lt; (try clear x8 cJ fZ); obtain ⟨c1, x8, cJ, fZ⟩ := c1.zc3 t7; (try clear bI); have bI := c1.lt; have hc := Ja hc t7))
      all_goals
       go_wp2
       go_meet
       exact ⟨_, rfl, lh (by rw [decide_eq_true_eq, HZ.out]; exact ⟨fun h => ⟨fT, HGT.out.1 h⟩, fun h => HGT.out.2 h.2⟩), hc⟩
     have f0 : ¬ (0 : Int) < (k : Int) := by omega
     have f0' : decide ((0 : Int) < (k : Int)) = false := decide_eq_false f0
     clear b1
     go_quiet (fail)
     go_wp2
     go_meet
     exact ⟨false, rfl, lh ⟨fun h => absurd h Bool.false_ne_true, fun h => absurd h.1 fT⟩, by first | exact Jf _ | exact Jz (Below.refl _ _) _⟩
    case rest =>
    obtain ⟨t, rfl, ht, dA⟩ := hcut
    rename World => wy
    have bJ := HOZ.out.next dA
    have eU := HBZ.out.trans (dA.mono HBZ.out.size)
    have o0 := (HIQ.out.below dA).more dA.size
    have b1 := b1.below dA b1.lt
    clear HOZ HBZ HIQ dA
    obtain ⟨r5, b5, -⟩ := OwnR.atS bJ (k := k) (Js9 dK)
    obtain ⟨y0, y1, y2⟩ := b5.c3
    have z0 := OwnR.frozen bJ (k * 3)
    have z1 := OwnR.frozen bJ (k * 3 + 1)
    have z2 := OwnR.frozen bJ (k * 3 + 2)
    clear b5
    cases t with
    | true =>
     obtain ⟨fT, bC⟩ := ht.out.1 rfl
     obtain ⟨k9, dL⟩ : ∃ k9, k - 1 = k9 := ⟨_, rfl⟩
     have e10 : (k : Int) - 1 = (k9 : Int) := by omega
     have ew : IntKind.i64.wrap (k9 : Int) = (k9 : Int) := IntWalk.i64_in _ (by omega)
     have f1 : (k9 : Int) < (n9 : Int) := by omega
     rw [dL] at bC
     obtain ⟨r2, b2, aB⟩ := OwnR.atS bJ (k := k9) (Jpc (by omega) dK)
     have s9 := OwnR.store bJ k r2 aB
     have cK : k = k9 + 1 := by omega
     rw [Jmb dK, cK, Jnb (by omega), <- cK] at s9
     have aN : Kv s x s.length = Kv s x k9 := by
      rw [bG.out, cK]
      show (if x < s.getD k9 0 then Kv s x k9 else k9 + 1) = _
      rw [if_pos bC]
     obtain ⟨zg, zA, zl, zc, zA', zl', zc'⟩ := r2
     obtain ⟨x0, x1, x2⟩ := b2.c3
     (try simp only [] at x0 x1 x2 s9)
     have HST2 := lh s9
     have HIN2 := lh aN
     have HBY := lh (Jlt (i := k * 3) (j := k * 3 + 1) (k := k * 3 + 2) eU hg (.bool zg) (.slice zA zl zc) (.slice zA' zl' zc'))
     have gA : k9 <= i := by omega
     have kG : k9 < k := by omega
     clear s9 aN eU b1 b2 aB o0 bJ cK bC dL ht bG hP
     go_wp2
     exact ⟨⟨k9, s.getD k9 0, gA, by go_num, HIN2, HST2.out, HBY.out⟩, by simp [intOf]; omega⟩
    | false =>
     have aN : Kv s x s.length = k := by
      rw [bG.out]
      rcases Nat.eq_zero_or_pos k with h | h
      ·rw [h]; rfl
      obtain ⟨k9, cK⟩ : ∃ k9, k = k9 + 1 := ⟨k - 1, by omega⟩
      rw [cK]
      show (if x < s.getD k9 0 then Kv s x k9 else k9 + 1) = _
      rw [if_neg (fun hl => by have := ht.out.2 ⟨h, by rw [cK]; exact hl⟩; cases this)]
     have s9 := OwnR.store bJ k ⟨rg, rA, rl, rc, rA', rl', rc'⟩ o0
     rw [Jmb dK, <- aN] at s9
     have s9 : OwnR _ _ (Jc3 s x) := s9
     rw [<- HST.out, aN] at s9
     obtain ⟨x0, x1, x2⟩ := b1.c3
     (try simp only [] at x0 x1 x2 s9)
     have HST2 := lh s9
     have HBY := lh (Jlt (i := k * 3) (j := k * 3 + 1) (k := k * 3 + 2) eU hg (.bool rg) (.slice rA rl rc) (.slice rA' rl' rc'))
     have HGF : Hid (∀ b, (Value.slice (some ⟨g, 0, none⟩) n9 c9).ownBlock = some b -> w.heap.size <= b) := lh fun b hb => by
      have : g = b := by simpa [Value.ownBlock] using hb
      omega
     clear s9 aN eU b1 o0 bJ ht bG
     go_wp2
     exact ⟨⟨n9, by omega, by go_num, HST2.out, HGF, HBY.out⟩, by simp [intOf]; omega⟩
  obtain rfl : i = n := by omega
  have k1 : ¬ (i : Int) < (i : Int) := by omega
  rw [List.take_of_length_le (by have := HLN.out; omega)] at j7
  have HO := lh j7
  have HBL := lh o5
  clear j7 o5
  go_wp2
  go_ret
  exact ⟨_, rfl, HO.out, aR.out, HBL.out⟩
theorem Joy (A : Option Addr) (n c B m : Nat) (l : List Rat) (w : World) (h : ReadsR w B A n l) (hB : B <= w.heap.size) (hn : n <= 10000) (lJ : 0 < n) (hm : m <= 60000) (hl : ∀ x ∈ l, QS m x) :
  Calls Tryz.prog 100 #[.slice A n c] w (Vz (Ue l / ((n : Nat) : Rat)) w) := by
 have j6 := h.len
 have dN := fun w' (hb : Below w.heap.size w w') => Jm4 A n c B m l w' (h.below (hb.mono hB)) (nt hB hb.size) (by omega) hm hl
 have jB : QS 68719476736 (Ue l) := by
  have := QS.sum l hl l.length
  rw [List.take_of_length_le zd] at this
  refine this.mono ?_
  have := Nat.mul_le_mul (show l.length <= 10000 by omega) (show m + 1 <= 60001 by omega)
  omega
 have dB : QS 14 ((n : Nat) : Rat) := QS.nat (by omega) (by omega)
 have hc : (((n : Nat) : Int) : Rat) = ((n : Nat) : Rat) := Rat.intCast_natCast n
 have gB := fun w => Jcv ((n : Nat) : Int) w (by omega) (by omega)
 rw [hc] at gB
 have eV : ((n : Nat) : Rat) ≠ 0 := by
  intro e
  have : n = 0 := by exact_mod_cast e
  omega
 have jD := fun w' V1 V2 (h1 : IsQ w' w'.heap.size V1 (Ue l)) (h2 : IsQ w' w'.heap.size V2 ((n : Nat) : Rat)) => Jo2 (Ue l) ((n : Nat) : Rat) w'.heap.size V1 V2 w' h1 h2 zd jB (dB.mono (by omega)) eV
 generalize Ue l / ((n : Nat) : Rat) = q at *
 generalize Ue l = x at *
 generalize ((n : Nat) : Rat) = y at *
 have HS := lh dN
 have HO := lh gB
 have HD := lh jD
 clear dN gB jD h hl hc dB eV jB hB
 obtain ⟨b0, hB, hZ⟩ := bx1 w 70 #[.bool false, .slice none 0 0, .slice none 0 0]
 go_enter Tryz.func100, Tryz.ntmps100
 go_wp2_with fail
 generalize (w.alloc (.cells #[.bool false, .slice none 0 0, .slice none 0 0] 70)) = W at *
 refine (HS.out W hB).mono ?_
 rintro e w1 ⟨v1, rfl, aM, t7⟩
 obtain ⟨g1, A1, l1, c1c, A1', l1', c1c', rfl⟩ := aM.shape
 have b0 := b0.below t7 b0.lt
 have hc := t7
 go_wp2_with fail
 refine (HO.out w1).mono ?_
 rintro e w2 ⟨v2, rfl, gC, bQ⟩
 obtain ⟨g2, A2, l2, c2c, A2', l2', c2c', rfl⟩ := gC.shape
 have b0 := b0.below bQ b0.lt
 have aM := (aM.next zd bQ).more bQ.size
 have hc := Ja hc bQ
 go_wp2_with fail
 refine (HD.out w2 _ _ aM gC).mono ?_
 rintro e w3 ⟨v3, rfl, cL, y9⟩
 obtain ⟨g3, A3, l3, c3c, A3', l3', c3c', rfl⟩ := cL.shape
 have b0 := b0.below y9 b0.lt
 have hc := Ja hc y9
 have HF := lh (Qj hB hc cL b0 zd)
 obtain ⟨cM, cN, cO, cP, cQ, cR, aE, aF, aG⟩ := b0.f3
 clear aM gC cL hc t7 bQ y9
 go_wp2
 refine bodyPost_ret (v := .agg #[.bool g3, .slice A3 l3 c3c, .slice A3' l3' c3c']) (by simp [results, Tryz.results100, go_sem, aE, aF, aG]) rfl ?_
 exact HF.out
def Xj (d : Nat -> Nat -> Rat) (p q : List Nat) : List Rat := p.flatMap fun i => q.map (d i)
theorem Jiy {d : Nat -> Nat -> Rat} {p q : List Nat} {k i : Nat} (h : p[k]? = some i) : Xj d (p.take (k + 1)) q = Xj d (p.take k) q ++ q.map (d i) := by
 unfold Xj
 rw [List.take_add_one, h, List.flatMap_append]
 simp
theorem Vn (d : Nat -> Nat -> Rat) (p q : List Nat) : (Xj d p q).length = p.length * q.length := by
 unfold Xj
 induction p with
 | nil => simp
 | cons i p ih => rw [List.flatMap_cons, List.length_append, ih, List.length_map, List.length_cons, Nat.add_mul]; omega
theorem mem_pairsL {d : Nat -> Nat -> Rat} {p q : List Nat} {x : Rat} : x ∈ Xj d p q ↔ ∃ i, i ∈ p /\ ∃ j, j ∈ q /\ d i j = x := by
 unfold Xj
 rw [List.mem_flatMap]
 simp only [List.mem_map]
theorem Jdf (a b : List Rat) : Ue (a ++ b) = Ue a + Ue b := by
 unfold Ue
 rw [List.foldl_append]
 have : ∀ (b : List Rat) (z : Rat), b.foldl (· + ·) z = z + b.foldl (· + ·) 0 := by
  intro b
  induction b with
  | nil => intro z; show z = z + 0; rw [Rat.add_zero]
  | cons x b ih => intro z; rw [List.foldl_cons, List.foldl_cons, ih (z + x), ih (0 + x)]; grind
 exact this b _
theorem Jok (g : Nat -> Rat) (q : List Nat) : Ue (q.map g) = Qf g q := by
 induction q with
 | nil => rfl
 | cons i q ih =>
  rw [List.map_cons, show g i :: q.map g = [g i] ++ q.map g from rfl, Jdf, ih]
  show (0 + g i) + Qf g q = g i + Qf g q
  rw [Rat.zero_add]
theorem Jkg (d : Nat -> Nat -> Rat) (p q : List Nat) : Ue (Xj d p q) = Jai d p q := by
 induction p with
 | nil => rfl
 | cons i p ih =>
  show Ue (q.map (d i) ++ Xj d p q) = Qf (d i) q + Jai d p q
  rw [Jdf, ih, Jok]
theorem Jrl {how : Nat} {d : Nat -> Nat -> Rat} {p q : List Nat} {x : Rat} (hp : p ≠ []) (hq : q ≠ []) (h : Zc how d p q x) :
  (how = 1 -> (Yn (Xj d p q)).getD 0 0 = x) /\ (how = 2 -> (Yn (Xj d p q)).getD ((Xj d p q).length - 1) 0 = x) /\ (¬ how = 1 -> ¬ how = 2 -> Ue (Xj d p q) / (((Xj d p q).length : Nat) : Rat) = x) := by
 have aC : Xj d p q ≠ [] := by
  intro e
  have := Vn d p q
  rw [e] at this
  have h1 := List.length_pos_iff.2 hp
  have h2 := List.length_pos_iff.2 hq
  have := Nat.mul_pos h1 h2
  simp at *
  omega
 unfold Zc at h
 refine ⟨fun e => ?_, fun e => ?_, fun e1 e2 => ?_⟩
 ·rw [if_pos e] at h
  refine Jki aC (mem_pairsL.2 h.1) (fun y hy => ?_)
  obtain ⟨i, hi, j, hj, rfl⟩ := mem_pairsL.1 hy
  exact h.2 i hi j hj
 ·rw [if_neg (by omega), if_pos e] at h
  refine Jmz aC (mem_pairsL.2 h.1) (fun y hy => ?_)
  obtain ⟨i, hi, j, hj, rfl⟩ := mem_pairsL.1 hy
  exact h.2 i hi j hj
 rw [if_neg e1, if_neg e2] at h
 rw [Jkg, Vn, <- h]
 have h1 := List.length_pos_iff.2 hp
 have h2 := List.length_pos_iff.2 hq
 have h3 := Nat.mul_pos h1 h2
 rw [Rat.mul_div_cancel (by intro e; have : p.length * q.length = 0 := (by exact_mod_cast e); omega)]
theorem Reads.ints {w : World} {B n k : Nat} {A : Option Addr} {p : List Nat} (h : Reads w B 1 A n (p.map iv)) (hk : k < n) : ∃ ad x, A = some ad /\ ad.block < B /\ p[k]? = some x /\ w.cell? (ad.add k) = some (.int .i64 ((x : Nat) : Int)) := Reads.atf h hk
theorem Jlk {w : World} {B n : Nat} {A : Option Addr} {f : List (List Rat)} (h : Jcq w B A n f) (hs : SymF f) (hn : f.length = n) {i j : Nat} (hi : i < n) (hj : j < n) :
  ∃ ad g o ad2 g2 o2 c r, A = some ad /\ ad.add i = ⟨g, o, none⟩ /\ At1 w g o (.slice (some ad2) n c) /\ g < B /\ ad2.add (j * 3) = ⟨g2, o2, none⟩ /\ g2 < B /\ AtR w g2 o2 r /\ IsQ w B r.v (dOf f i j) := by
 obtain ⟨l, hl⟩ : ∃ l, f[i]? = some l := ⟨_, List.getElem?_eq_getElem (by omega)⟩
 have jE : f.getD i [] = l := by rw [List.getD_eq_getElem?_getD, hl]; rfl
 have j6 := hs.row i (by omega)
 rw [jE] at j6
 obtain ⟨ad, A1, m1, c1, rfl, bC, hc, hr⟩ := h.at_ hl
 obtain rfl : l.length = m1 := hr.len
 obtain ⟨x, hx⟩ : ∃ x, l[j]? = some x := ⟨_, List.getElem?_eq_getElem (by omega)⟩
 obtain ⟨ad2, g2, o2, r, rfl, gD, gE, b2, iq2⟩ := ReadsR.at_ hr hx (by omega)
 obtain ⟨g, o, hP, hg⟩ := Kd hc
 rw [hP] at hc
 rw [show l.length = n by omega] at hc
 have hd : dOf f i j = x := by
  unfold dOf
  rw [jE, List.getD_eq_getElem?_getD, hx]
  rfl
 rw [hd]
 exact ⟨ad, g, o, ad2, g2, o2, c1, r, rfl, hP, At1.mk' hc, by omega, gD, gE, b2, iq2⟩
section
variable {ops : Array Oper} {o : Oper} {a : Act} {Q : Exit -> Act -> World -> Prop} {K : Act -> World -> Prop} {Z : Prop}
theorem Jsg (gG : o.guard = none) (s x : Operand)
  (ho : o.op = .call { callee := .builtin .append, args := #[s, x], argTypes := #[97, 97] })
  (wr : World) (v : Value) (ql : List Rat) (q : Rat) (g : Bool) (A : Option Addr) (l c : Nat) (A' : Option Addr) (l' c' : Nat) (hs : a.eval s = v) (j7 : OwnR wr v ql) (hq : IsQ wr wr.heap.size (.agg #[.bool g, .slice A l c, .slice A' l' c']) q) (hx : a.eval x = .slice (some ⟨wr.heap.size, 0, none⟩) 1 1) (hl : ql.length <= 1000000)
  (h : ∀ v' w1, OwnR w1 v' (ql ++ [q]) -> Grew wr w1 v v' -> K (a.put o.dst v') w1) : if Region.wanted o (yielded ops a.tmps) = true then Oper.wp Tryz.prog o a (wr.alloc (.cells #[.bool g, .slice A l c, .slice A' l' c'] 70)).drew K Q else Z := by
 obtain ⟨rl, hr, he⟩ := j7
 have kH := he.1
 refine Jon Tryz.eltR (by omega) gG s x ho (wr.alloc (.cells #[.bool g, .slice A l c, .slice A' l' c'] 70)).drew v rl (wr.heap.size + 1) (some ⟨wr.heap.size, 0, none⟩) 1 1 [⟨g, A, l, c, A', l', c'⟩] hs ((hr.alloc _).drewN 1) hx (Jhe wr ⟨g, A, l, c, A', l', c'⟩) RC.one (by unfold maxLen; omega) (by omega) ?_
 intro v' w1 h1 h2
 have hg : Grew wr w1 v v' := by
  refine ⟨h2.os, h2.tape, h2.output, nt (by simp) h2.size, fun k hk aC => (h2.block k (by simp; omega) aC).trans (Below.heap_alloc wr _ k hk), fun k hk => ?_⟩
  rcases h2.own k hk with h3 | h3
  ·exact .inl h3
  exact .inr (by simp at h3; omega)
 exact h v' w1 (OwnR.snoc (r := ⟨g, A, l, c, A', l', c'⟩) hr he hq h1 hg) hg
end
theorem Jiu (A A1 A2 : Option Addr) (n c n1 c1 n2 c2 B how m : Nat) (f : List (List Rat)) (p q : List Nat) (x : Rat) (w : World) (h : Jcq w B A n f) (hB : B <= w.heap.size) (hs : SymF f) (jF : f.length = n) (hn : n <= 64) (hm : m <= 60000) (hq : ∀ i j, i < n -> j < n -> QS m (dOf f i j))
  (h1 : Reads w B 1 A1 n1 (p.map iv)) (h2 : Reads w B 1 A2 n2 (q.map iv)) (hp : ∀ i ∈ p, i < n) (dB : ∀ i ∈ q, i < n) (eV : 1 <= n1) (gH : n1 <= 64) (kI : 1 <= n2) (gI : n2 <= 64) (dO : how = 1 \/ how = 2 \/ how = 3) (hx : Zc how (dOf f) p q x) :
  Calls Tryz.prog 63 #[.slice A n c, .slice A1 n1 c1, .slice A2 n2 c2, .int .i64 (how : Int)] w (Vz x w) := by
 have l1 : p.length = n1 := h1.lenf
 have l2 : q.length = n2 := h2.lenf
 have aD := Jrl (by intro e; rw [e] at l1; simp at l1; omega) (by intro e; rw [e] at l2; simp at l2; omega) hx
 have jG : ∀ y ∈ Xj (dOf f) p q, QS m y := fun y hy => by
  obtain ⟨i, hi, j, hj, rfl⟩ := mem_pairsL.1 hy
  exact hq i j (hp i hi) (dB j hj)
 have gJ := Vn (dOf f) p q
 rw [l1, l2] at gJ
 have H := lh h
 have HS := lh hs
 have HFN := lh jF
 have H1 := lh h1
 have H2 := lh h2
 have HP := lh hp
 have HQN := lh dB
 have HQ := lh hq
 have HBI := lh aD
 have HPQ := lh jG
 have HL1 := lh l1
 have HL2 := lh l2
 have HPL := lh gJ
 have HHOW := lh dO
 have dC := hB
 clear h hs jF h1 h2 hp dB hq aD jG l1 l2 gJ hx hB dO
 obtain ⟨b0, hB, hZ⟩ := bx1 w 70 #[.bool false, .slice none 0 0, .slice none 0 0]
 go_enter Tryz.func63, Tryz.ntmps63
 go_wp2_with fail
 generalize (w.alloc (.cells #[.bool false, .slice none 0 0, .slice none 0 0] 70)) = W at *
 have HW := lh hB
 have HB0 := lh b0
 clear hB b0
 obtain ⟨D, hD⟩ : ∃ D, dOf f = D := ⟨_, rfl⟩
 rw [hD] at HQ HBI HPQ HPL
 have HD := lh hD
 clear hD
 go_loopw [9, 10] (fun v pi wr => ∃ i : Nat, i <= n1 /\ pi = .int .i64 (i : Int) /\ OwnR wr v (Xj D (p.take i) q) /\ Hid (∀ b, v.ownBlock = some b -> W.heap.size <= b) /\ Below W.heap.size W wr) (fun _ pi _ => n1 - (intOf pi).toNat)
 case atStart => exact ⟨0, by omega, rfl, OwnR.nil _, lh (fun b h => by cases h), Below.refl _ _⟩
 case round =>
  obtain ⟨i, hi, rfl, ho, aR, aH⟩ := hrel
  rename World => wr
  by_cases cZ : i < n1
  ·have k1 : (i : Int) < (n1 : Int) := by omega
   have HO := lh ho
   have HBW := lh aH
   clear ho aH
   obtain ⟨pi, eX⟩ : ∃ x, p[i]? = some x := ⟨_, List.getElem?_eq_getElem (by rw [HL1.out]; exact cZ)⟩
   have HPI := lh eX
   have HTK := lh (Jiy (d := D) (q := q) eX)
   have gK := HP.out pi (List.mem_of_getElem? eX)
   clear eX
   go_wp2_with fail
   go_loopw [9, 11] (fun v pk wk => ∃ k : Nat, k <= n2 /\ pk = .int .i64 (k : Int) /\ OwnR wk v (Xj D (p.take i) q ++ (q.take k).map (D pi)) /\ Hid (∀ b, v.ownBlock = some b -> W.heap.size <= b) /\ Below W.heap.size W wk) (fun _ pk _ => n2 - (intOf pk).toNat)
   case atStart => exact ⟨0, by omega, rfl, by simpa using HO.out, aR, HBW.out⟩
   case round =>
    obtain ⟨k, hk, rfl, ho, aA, aO⟩ := hrel
    rename World => wk
    by_cases iO : k < n2
    ·have k2 : (k : Int) < (n2 : Int) := by omega
     have aV : Below w.heap.size w wk := HW.out.trans (aO.mono HW.out.size)
     obtain ⟨ad1, x1, rfl, gL, jH, bE⟩ := Reads.ints (H1.out.below (aV.mono dC)) cZ
     obtain rfl := Option.some.inj (HPI.out.symm.trans jH)
     obtain ⟨ad2, qk, rfl, bY, gM, bF⟩ := Reads.ints (H2.out.below (aV.mono dC)) iO
     have gN := HQN.out qk (List.mem_of_getElem? gM)
     obtain ⟨ad, g3, o3, ad4, g4, o4, kJ, r, rfl, iQ, b3, fJ, iR, fK, b4, o0⟩ := Jlk (i := pi) (j := qk) (H.out.below Jcu (aV.mono dC)) HS.out HFN.out gK gN
     obtain ⟨g1, o1, kK, kL⟩ := Kd bE
     rw [kK] at bE
     obtain ⟨g2, o2, gD, gE⟩ := Kd bF
     rw [gD] at bF
     have o0 := o0.more (nt dC aV.size)
     rw [HD.out] at o0
     have dH : Xj D (p.take i) q ++ (q.take (k + 1)).map (D pi) = (Xj D (p.take i) q ++ (q.take k).map (D pi)) ++ [D pi qk] := by
      rw [List.take_add_one, gM, List.append_assoc, List.map_append]; rfl
     have jI : (Xj D (p.take i) q ++ (q.take k).map (D pi)).length <= 1000000 := by
      rw [List.length_append, Vn, List.length_map, List.length_take, List.length_take]
      have := Nat.mul_le_mul (show min i p.length <= 64 by have := HL1.out; omega) (show q.length <= 64 by have := HL2.out; omega)
      omega
     have e1 : (pi : Int) < (n : Int) := by omega
     have e2 : (qk : Int) < (n : Int) := by omega
     generalize D pi qk = y at *
     obtain ⟨rg, rA, rl, rc, rA', rl', rc'⟩ := r
     replace o0 : IsQ wk wk.heap.size (.agg #[.bool rg, .slice rA rl rc, .slice rA' rl' rc']) y := o0
     (try simp only [] at b4)
     have b1 := At1.mk' bE
     have b2 := At1.mk' bF
     have HIQ := lh o0
     have HO2 := lh ho
     have HBK := lh aO
     have HSN := lh dH
     have HLQ := lh jI
     have kM : B <= wk.heap.size := nt dC aV.size
     have D1 := lh b1
     have D2 := lh b2
     have D3 := lh b3
     have D4 := lh b4
     have HFW : Hid (∀ b, u9.ownBlock = some b -> w.heap.size <= b) := lh fun b hb => nt HW.out.size (aA.out b hb)
     have HLT : Hid (g1 < w.heap.size /\ g2 < w.heap.size /\ g3 < w.heap.size /\ g4 < w.heap.size) := lh (by omega)
     clear o0 ho aO dH jI gM jH gL bY kL gE fJ fK bE bF kM
     go_upto_region 8 with fail
     obtain ⟨cH, fX⟩ := b1.c2; have c1 := b1.drew; have bI := c1.lt; obtain ⟨cG, fW⟩ := b2.c2; have c2 := b2.drew; have bH := c2.lt; obtain ⟨bZ, fL⟩ := b3.c2; have c3 := b3.drew; have fM := c3.lt; obtain ⟨cA, cB, dP⟩ := b4.c3; have c4 := b4.drew; have fN := c4.lt; have hc := Jf wk; go_region_held3 (fun w' => w'.cell? ⟨g1, o1, none⟩ = some (.int .i64 (pi : Int)) /\ w'.cell? ⟨g2, o2, none⟩ = some (.int .i64 (qk : Int)) /\ w'.cell? ⟨g3, o3, none⟩ = some (.slice (some ad4) n kJ) /\ w'.cell? ⟨g4, o4, none⟩ = some (.bool rg) /\ w'.cell? ⟨g4, o4 + 1, none⟩ = some (.slice rA rl rc) /\ w'.cell? ⟨g4, o4 + 2, none⟩ = some (.slice rA' rl' rc')) (go_keep) (first | (refine Jsg rfl (.tmp 25) (.tmp 39) rfl wk _ _ y rg rA rl rc rA' rl' rc' (by simp [Act.eval, Act.put]) HO2.out HIQ.out (by simp [Act.eval, Act.put]) HLQ.out ?_; intro v8 w8 dQ bK; have HO8 := lh dQ; have HF8 := lh (Kx bK aA.out HBK.out.size); have HB8 := lh (HBK.out.trans (bK.below HBK.out.size aA.out)); have h8 := bK.below aV.size HFW.out; clear cH cG bZ cA cB dP; have c1 := D1.out.below h8 HLT.out.1; have c2 := D2.out.below h8 HLT.out.2.1; have c3 := D3.out.below h8 HLT.out.2.2.1; have c4 := D4.out.below h8 HLT.out.2.2.2; obtain ⟨x8, -⟩ := c1.c2; obtain ⟨t8, -⟩ := c2.c2; obtain ⟨aS, -⟩ := c3.c2; obtain ⟨aT, cC, gO⟩ := c4.c3; clear dQ bK h8) | (refine Jrw rfl (.tmp 25) (.tmp 39) rfl wk.drew _ _ y rg rA rl rc rA' rl' rc' (by simp [Act.eval, Act.put]) (HO2.out.next hc) ((HIQ.out.next zd hc).more hc.size) (by simp [Act.eval, Act.put]) HLQ.out ?_; intro v8 w8 dQ bK; have HO8 := lh dQ; have HF8 := lh (Kx bK aA.out (nt HBK.out.size hc.size)); have HB8 := lh ((HBK.out.trans (hc.mono HBK.out.size)).trans (bK.below (nt HBK.out.size hc.size) aA.out)); have h8 := (hc.mono aV.size).trans (bK.below (nt aV.size hc.size) HFW.out); clear cH cG bZ cA cB dP; have c1 := D1.out.below h8 HLT.out.1; have c2 := D2.out.below h8 HLT.out.2.1; have c3 := D3.out.below h8 HLT.out.2.2.1; have c4 := D4.out.below h8 HLT.out.2.2.2; obtain ⟨x8, -⟩ := c1.c2; obtain ⟨t8, -⟩ := c2.c2; obtain ⟨aS, -⟩ := c3.c2; obtain ⟨aT, cC, gO⟩ := c4.c3; clear dQ bK h8))
     all_goals
      go_wp2
      exact ⟨⟨k + 1, by omega, by go_num, by rw [HSN.out]; exact HO8.out, HF8.out, HB8.out⟩, by simp [intOf]; omega⟩
    obtain rfl : k = n2 := by omega
    have k2 : ¬ (k : Int) < (k : Int) := by omega
    rw [List.take_of_length_le (l := q) (by rw [HL2.out]; exact Nat.le_refl _), <- HTK.out] at ho
    have HO2 := lh ho
    have HBK := lh aO
    clear ho aO
    go_wp2
    exact ⟨⟨i + 1, by omega, by go_num, HO2.out, aA, HBK.out⟩, by simp [intOf]; omega⟩
  obtain rfl : i = n1 := by omega
  have k1 : ¬ (i : Int) < (i : Int) := by omega
  rw [List.take_of_length_le (l := p) (by rw [HL1.out]; exact Nat.le_refl _)] at ho
  obtain ⟨A5, c5, hv, -, -⟩ := OwnR.form ho
  rw [HPL.out] at hv
  obtain ⟨N, hN⟩ : ∃ N, i * n2 = N := ⟨_, rfl⟩
  rw [hN] at hv
  subst hv
  have lK : 1 <= N := by rw [<- hN]; exact Nat.mul_pos eV kI
  have jJ : N <= 4096 := by rw [<- hN]; exact Nat.mul_le_mul gH gI
  rw [hN] at HPL
  have HN := lh hN
  generalize Xj D p q = L at *
  rw [HPL.out] at HBI
  have jK := OwnR.reads_ ho
  have HSORT := lh (Jow A5 N c5 wr.heap.size m L wr jK zd (by omega) (by omega) HPQ.out)
  have HO := lh ho
  have HBW := lh (Ja HW.out aH)
  have dR := HB0.out.below aH HB0.out.lt
  have HB1 := lh dR
  clear ho aH jK dR HB0 hN
  go_wp2_with fail
  refine HSORT.out.mono ?_
  rintro e w2 ⟨v, rfl, cS, eY, aW⟩
  obtain ⟨A6, c6, hv, -, -⟩ := OwnR.form cS
  rw [Kn, HPL.out] at hv
  subst hv
  obtain ⟨g6, rfl⟩ := OwnR.addr cS (by rw [Kn, HPL.out]; omega)
  have b0 := HB1.out.below aW HB1.out.lt
  have dD : w.heap.size < wr.heap.size := HB1.out.lt
  have aC : ¬ g6 = w.heap.size := fun e => by have := eY g6 rfl; omega
  have dE := Ja HBW.out aW
  have kN := aW.size
  have j6 := Kn L
  rw [HPL.out] at j6
  have HRD := lh ((OwnR.reads_ HO.out).below aW)
  clear HSORT HB1 HBW HO aW
  by_cases t7 : how = 1
  ·subst t7
   have hx := HBI.out.1 rfl
   obtain ⟨r, c2, bL⟩ := OwnR.atS cS (k := 0) (q := x) (by rw [<- hx, List.getD_eq_getElem?_getD, List.getElem?_eq_getElem (by omega)]; rfl)
   obtain ⟨rg, rA, rl, rc, rA', rl', rc'⟩ := r
   have bL : IsQ w2 w2.heap.size (.agg #[.bool rg, .slice rA rl rc, .slice rA' rl' rc']) x := bL
   obtain ⟨x0, x1, x2⟩ := c2.c3
   (try simp only [] at x0 x1 x2)
   have HF := lh (Qj dE (Below.refl _ _) bL b0 zd)
   have k0 : (0 : Int) < (N : Int) := by omega
   obtain ⟨cM, cN, cO, cP, cQ, cR, aE, aF, aG⟩ := b0.f3
   clear cS eY hx c2 bL dE j6
   go_wp2
   refine bodyPost_ret (v := .agg #[.bool rg, .slice rA rl rc, .slice rA' rl' rc']) (by simp [results, Tryz.results63, go_sem, aE, aF, aG]) rfl ?_
   exact HF.out
  have p1 : ((how : Int) == 1) = false := by simp; omega
  have p1' : ¬ (how : Int) = 1 := by omega
  by_cases bQ : how = 2
  ·subst bQ
   have hx := HBI.out.2.1 rfl
   obtain ⟨N1, dS⟩ : ∃ N1, N - 1 = N1 := ⟨_, rfl⟩
   rw [dS] at hx
   have eN : (N : Int) - 1 = (N1 : Int) := by omega
   have eW : IntKind.i64.wrap (N1 : Int) = (N1 : Int) := IntWalk.i64_in _ (by omega)
   have k0 : (N1 : Int) < (N : Int) := by omega
   obtain ⟨r, c2, bL⟩ := OwnR.atS cS (k := N1) (q := x) (by rw [<- hx, List.getD_eq_getElem?_getD, List.getElem?_eq_getElem (by omega)]; rfl)
   obtain ⟨rg, rA, rl, rc, rA', rl', rc'⟩ := r
   have bL : IsQ w2 w2.heap.size (.agg #[.bool rg, .slice rA rl rc, .slice rA' rl' rc']) x := bL
   obtain ⟨x0, x1, x2⟩ := c2.c3
   (try simp only [] at x0 x1 x2)
   have HF := lh (Qj dE (Below.refl _ _) bL b0 zd)
   obtain ⟨cM, cN, cO, cP, cQ, cR, aE, aF, aG⟩ := b0.f3
   clear cS eY hx c2 bL dE j6 dS
   go_wp2
   refine bodyPost_ret (v := .agg #[.bool rg, .slice rA rl rc, .slice rA' rl' rc']) (by simp [results, Tryz.results63, go_sem, aE, aF, aG]) rfl ?_
   exact HF.out
  have p2 : ((how : Int) == 2) = false := by simp; omega
  have p2' : ¬ (how : Int) = 2 := by omega
  have hx := HBI.out.2.2 t7 bQ
  have gP := Joy A5 N c5 wr.heap.size m L w2 HRD.out (by omega) (by omega) (by omega) hm HPQ.out
  rw [hx] at gP
  have HME := lh gP
  have HBB := lh dE
  have HB1 := lh b0
  clear cS eY hx gP dE b0 j6
  go_wp2_with fail
  refine HME.out.mono ?_
  rintro e w3 ⟨v3, rfl, cL, y9⟩
  obtain ⟨g3, A3, l3, c3c, A3', l3', c3c', rfl⟩ := cL.shape
  have b0 := HB1.out.below y9 HB1.out.lt
  have HF := lh (Qj HBB.out y9 cL b0 (Nat.le_of_lt (Nat.lt_of_lt_of_le dD zd) |> fun _ => Nat.le_refl _))
  obtain ⟨cM, cN, cO, cP, cQ, cR, aE, aF, aG⟩ := b0.f3
  clear cL y9 HME HBB HB1
  go_wp2
  refine bodyPost_ret (v := .agg #[.bool g3, .slice A3 l3 c3c, .slice A3' l3' c3c']) (by simp [results, Tryz.results63, go_sem, aE, aF, aG]) rfl ?_
  exact HF.out
structure JR where
 a : Int
 b : Int
 s : Int
 r : RC
def JR.cs (j : JR) : List Value := [.int .i64 j.a, .int .i64 j.b, .int .i64 j.s, .bool j.r.g, .slice j.r.A j.r.l j.r.c, .slice j.r.A' j.r.l' j.r.c']
theorem JR.len (j : JR) : j.cs.length = 6 := rfl
theorem JR.one (j : JR) : ∀ u ∈ j.cs, u.oneCell' = true := by
 intro u hu
 simp [JR.cs] at hu
 rcases hu with rfl | rfl | rfl | rfl | rfl | rfl <;> rfl
theorem Tryz.eltJR : EltW Tryz.prog 44 111 (.agg #[.int .i64 0, .int .i64 0, .int .i64 0, .bool false, .slice none 0 0, .slice none 0 0]) 6 80 := ⟨Tryz.underlying44, by kernel_rfl, by kernel_rfl⟩
theorem IsN.rowW {α : Type} {w w' : World} {e : TypeId} {k : Nat} {f : α -> List Value} {n : Nat} {v u : Value} {rl : List α} (he : e ≠ 155) (h : IsN w w.heap.size v n) (ho : OwnW w e k f u rl) (hs : w.heap.size <= w'.heap.size) (hg : ∀ k, k < w.heap.size -> some k ≠ u.ownBlock -> w'.heap[k]? = w.heap[k]?) : IsN w' w'.heap.size v n := by
 obtain ⟨A, c, h1, h2, h3, h4, h5⟩ := h
 rcases Nat.eq_zero_or_pos (Jc n).length with h0 | h0
 ·exact ⟨A, c, h1, h2, h3, ⟨h4.1, fun hn => absurd hn (by omega)⟩, fun hn => absurd hn (by omega)⟩
 obtain ⟨ad, hA, bC, hc⟩ := h4.2 h0
 obtain ⟨cs, fr, dT⟩ := h5 h0 ad hA
 have aC : some ad.block ≠ u.ownBlock := by
  intro e2
  obtain ⟨cs', fr', h7⟩ := OwnW.blk ho e2.symm
  rw [h7] at dT
  injection dT with dT
  injection dT with _ ht
  exact he ht
 have aO := hg ad.block (by omega) aC
 refine ⟨A, c, h1, h2, h3, ⟨h4.1, fun _ => ⟨ad, hA, by omega, fun j x hx => ?_⟩⟩, fun _ ad' jL => ?_⟩
 ·rw [World.cell?_of_block (w := w) (by rw [Jw]; exact aO)]
  exact hc j x hx
 rw [hA] at jL
 obtain rfl := Option.some.inj jL
 exact ⟨cs, fr, aO.trans dT⟩
theorem IsQ.rowW {α : Type} {w w' : World} {e : TypeId} {k : Nat} {f : α -> List Value} {V u : Value} {q : Rat} {rl : List α} (he : e ≠ 155) (h : IsQ w w.heap.size V q) (ho : OwnW w e k f u rl) (hs : w.heap.size <= w'.heap.size) (hg : ∀ k, k < w.heap.size -> some k ≠ u.ownBlock -> w'.heap[k]? = w.heap[k]?) : IsQ w' w'.heap.size V q := by
 obtain ⟨v, v', h1, h2, h3⟩ := h
 exact ⟨v, v', h1, h2.rowW he ho hs hg, h3.rowW he ho hs hg⟩
structure IsJR (w : World) (B : Nat) (r : JR) (j : Jn) : Prop where
 a : r.a = j.a
 b : r.b = j.b
 s : r.s = j.size
 q : IsQ w B r.r.v j.high
def EachJ (w : World) (B : Nat) (rl : List JR) (jl : List Jn) : Prop := rl.length = jl.length /\ ∀ (i : Nat) (r : JR) (j : Jn), rl[i]? = some r -> jl[i]? = some j -> IsJR w B r j
theorem EachJ.mono {w w' : World} {B B' : Nat} {rl : List JR} {jl : List Jn} (h : EachJ w B rl jl) (hf : ∀ V q, IsQ w B V q -> IsQ w' B' V q) : EachJ w' B' rl jl :=
 ⟨h.1, fun i r j h1 h2 => ⟨(h.2 i r j h1 h2).a, (h.2 i r j h1 h2).b, (h.2 i r j h1 h2).s, hf _ _ (h.2 i r j h1 h2).q⟩⟩
theorem EachJ.snoc {w : World} {B : Nat} {rl : List JR} {jl : List Jn} {r : JR} {j : Jn} (h : EachJ w B rl jl) (hq : IsJR w B r j) : EachJ w B (rl ++ [r]) (jl ++ [j]) := by
 refine ⟨by simp [h.1], fun i r' q' h1 h2 => ?_⟩
 rcases Nat.lt_or_ge i rl.length with hi | hi
 ·rw [List.getElem?_append_left hi] at h1
  rw [List.getElem?_append_left (by rw [<- h.1]; exact hi)] at h2
  exact h.2 i r' q' h1 h2
 rw [List.getElem?_append_right hi] at h1
 rw [List.getElem?_append_right (by rw [<- h.1]; exact hi), <- h.1] at h2
 have gQ : i - rl.length = 0 := by
  have := (List.getElem?_eq_some_iff.1 h1).1
  simpa using this
 rw [gQ] at h1 h2
 simp at h1 h2
 subst h1; subst h2
 exact hq
def OwnJR (w : World) (v : Value) (jl : List Jn) : Prop := ∃ rl, OwnW w 111 6 JR.cs v rl /\ EachJ w w.heap.size rl jl
def ReadsJR (w : World) (B : Nat) (A : Option Addr) (n : Nat) (jl : List Jn) : Prop := ∃ rl, ReadsW w B 6 JR.cs A n rl /\ EachJ w B rl jl
theorem ReadsJR.len {w : World} {B : Nat} {A : Option Addr} {n : Nat} {jl : List Jn} (h : ReadsJR w B A n jl) : jl.length = n := by
 obtain ⟨rl, h1, h2⟩ := h
 rw [<- h2.1, h1.len]
theorem ReadsJR.below {w w' : World} {B : Nat} {A : Option Addr} {n : Nat} {jl : List Jn} (h : ReadsJR w B A n jl) (hb : Below B w w') : ReadsJR w' B A n jl := by
 obtain ⟨rl, h1, h2⟩ := h
 exact ⟨rl, h1.below hb, h2.mono fun V q h => h.below hb⟩
theorem ReadsJR.more {w : World} {B B' : Nat} {A : Option Addr} {n : Nat} {jl : List Jn} (h : ReadsJR w B A n jl) (hB : B <= B') : ReadsJR w B' A n jl := by
 obtain ⟨rl, h1, h2⟩ := h
 exact ⟨rl, h1.more hB, h2.mono fun V q h => h.more hB⟩
theorem OwnJR.nil (w : World) : OwnJR w (.slice none 0 0) [] := ⟨[], OwnW.nil_ _ _ _ _, rfl, fun i r q h => by simp at h⟩
theorem OwnJR.next {w w' : World} {v : Value} {jl : List Jn} (h : OwnJR w v jl) (hb : Below w.heap.size w w') : OwnJR w' v jl := by
 obtain ⟨rl, h1, h2⟩ := h
 exact ⟨rl, h1.next hb, h2.mono fun V q h => (h.next zd hb).more hb.size⟩
theorem OwnJR.lt {w : World} {v : Value} {jl : List Jn} (h : OwnJR w v jl) : ∀ b, v.ownBlock = some b -> b < w.heap.size := by
 obtain ⟨rl, h1, h2⟩ := h
 exact h1.lt
theorem OwnJR.form {w : World} {v : Value} {jl : List Jn} (h : OwnJR w v jl) : ∃ A c, v = .slice A jl.length c /\ jl.length <= c /\ c <= maxLen := by
 obtain ⟨rl, h1, h2⟩ := h
 obtain ⟨A, c, h3, h4, h5⟩ := h1.form
 rw [h2.1] at h3 h4
 exact ⟨A, c, h3, h4, h5⟩
theorem OwnJR.reads {w : World} {A : Option Addr} {n c : Nat} {jl : List Jn} (h : OwnJR w (.slice A n c) jl) : ReadsJR w w.heap.size A n jl := by
 have hn : n = jl.length := by
  obtain ⟨A', c', h4, _, _⟩ := OwnJR.form h
  injection h4
 subst hn
 obtain ⟨rl, h1, h2⟩ := h
 have := h1.reads
 rw [h2.1] at this
 exact ⟨rl, this, h2⟩
structure AtJR (w : World) (g o : Nat) (r : JR) : Prop where
 c6 : w.cell? ⟨g, o, none⟩ = some (.int .i64 r.a) /\ w.cell? ⟨g, o + 1, none⟩ = some (.int .i64 r.b) /\ w.cell? ⟨g, o + 2, none⟩ = some (.int .i64 r.s) /\ w.cell? ⟨g, o + 3, none⟩ = some (.bool r.r.g) /\ w.cell? ⟨g, o + 4, none⟩ = some (.slice r.r.A r.r.l r.r.c) /\ w.cell? ⟨g, o + 5, none⟩ = some (.slice r.r.A' r.r.l' r.r.c')
theorem AtJR.lt {w : World} {g o : Nat} {r : JR} (h : AtJR w g o r) : g < w.heap.size := Ka h.c6.1
theorem AtJR.below {w w' : World} {g o B : Nat} {r : JR} (h : AtJR w g o r) (hb : Below B w w') (hg : g < B) : AtJR w' g o r := by
 obtain ⟨h0, h1, h2, h3, h4, h5⟩ := h.c6
 refine ⟨?_⟩
 rw [hb.cell (p := ⟨g, o, none⟩) hg, hb.cell (p := ⟨g, o + 1, none⟩) hg, hb.cell (p := ⟨g, o + 2, none⟩) hg, hb.cell (p := ⟨g, o + 3, none⟩) hg, hb.cell (p := ⟨g, o + 4, none⟩) hg, hb.cell (p := ⟨g, o + 5, none⟩) hg]
 exact ⟨h0, h1, h2, h3, h4, h5⟩
theorem AtJR.drew {w : World} {g o : Nat} {r : JR} (h : AtJR w g o r) : AtJR w.drew g o r := h.below (Jf w) h.lt
theorem AtJR.alloc {w : World} {g o : Nat} {r : JR} (h : AtJR w g o r) (b : Obj) : AtJR (w.alloc b) g o r := h.below (Jb w b) h.lt
theorem AtJR.yy {w w' V : World} {g o : Nat} {r : JR} {n : Nat} (h : AtJR w g o r) (hb : Below n V w') (hs : Sbw n w V := by first | exact sb0 _ | exact sb1 _ _ | exact sb2 _ _ _) : AtJR w' g o r := (h.below hs.1 h.lt).below hb (Nat.lt_of_lt_of_le h.lt hs.2)
theorem AtJR.zc6 {w w' V : World} {g o : Nat} {r : JR} {n : Nat} (h : AtJR w g o r) (hb : Below n V w') (hs : Sbw n w V := by first | exact sb0 _ | exact sb1 _ _ | exact sb2 _ _ _) : AtJR w' g o r /\ w'.cell? ⟨g, o, none⟩ = some (.int .i64 r.a) /\ w'.cell? ⟨g, o + 1, none⟩ = some (.int .i64 r.b) /\ w'.cell? ⟨g, o + 2, none⟩ = some (.int .i64 r.s) /\ w'.cell? ⟨g, o + 3, none⟩ = some (.bool r.r.g) /\ w'.cell? ⟨g, o + 4, none⟩ = some (.slice r.r.A r.r.l r.r.c) /\ w'.cell? ⟨g, o + 5, none⟩ = some (.slice r.r.A' r.r.l' r.r.c') := have h := h.yy hb hs; ⟨h, h.c6⟩
theorem ReadsJR.at_ {w : World} {B : Nat} {A : Option Addr} {n : Nat} {jl : List Jn} (h : ReadsJR w B A n jl) {k : Nat} {j : Jn} (hj : jl[k]? = some j) :
  ∃ ad g o r, A = some ad /\ ad.add (k * 6) = ⟨g, o, none⟩ /\ g < B /\ AtJR w g o r /\ IsJR w B r j := by
 obtain ⟨rl, h0, he⟩ := h
 have hk : k < n := by rw [<- h0.len, he.1]; exact (List.getElem?_eq_some_iff.1 hj).1
 obtain ⟨ad, x, h1, h2, h3, h4⟩ := h0.at_ JR.len hk
 have c0 := h4 0 _ rfl
 have e0 := Uy c0
 rw [Nat.add_zero] at c0 e0
 have hb := Jw ad (k * 6)
 have hc : ∀ i u, x.cs[i + 1]? = some u -> w.cell? ((ad.add (k * 6)).add (i + 1)) = some u := fun i u hu => by rw [Ud]; exact h4 (i + 1) u hu
 cases hP : ad.add (k * 6) with
 | mk g o sp =>
  rw [hP] at c0 e0 hb hc
  obtain rfl : sp = none := e0
  exact ⟨ad, g, o, x, h1, hP, by have : g = ad.block := hb; omega, ⟨⟨c0, hc 0 _ rfl, hc 1 _ rfl, hc 2 _ rfl, hc 3 _ rfl, hc 4 _ rfl⟩⟩, he.2 k x j h3 hj⟩
theorem Jo3 (wr : World) (r : JR) : ReadsW (wr.alloc (.cells #[.int .i64 r.a, .int .i64 r.b, .int .i64 r.s, .bool r.r.g, .slice r.r.A r.r.l r.r.c, .slice r.r.A' r.r.l' r.r.c'] 111)) (wr.heap.size + 1) 6 JR.cs (some ⟨wr.heap.size, 0, none⟩) 1 [r] :=
 ⟨rfl, by
  have h : Blk (wr.alloc (.cells #[.int .i64 r.a, .int .i64 r.b, .int .i64 r.s, .bool r.r.g, .slice r.r.A r.r.l r.r.c, .slice r.r.A' r.r.l' r.r.c'] 111)) wr.heap.size 111 r.cs.toArray := Blk.new wr 111 #[.int .i64 r.a, .int .i64 r.b, .int .i64 r.s, .bool r.r.g, .slice r.r.A r.r.l r.r.c, .slice r.r.A' r.r.l' r.r.c']
  have := Reads.ofBlk h (JR.len r)
  simpa using this⟩
section
variable {ops : Array Oper} {rest : List Oper} {o : Oper} {a : Act} {Q : Exit -> Act -> World -> Prop}
theorem Jtk (gG : o.guard = none) (s x : Operand)
  (ho : o.op = .call { callee := .builtin .append, args := #[s, x], argTypes := #[44, 44] })
  (wr : World) (v : Value) (jl : List Jn) (j : Jn) (r : JR) (hs : a.eval s = v) (j7 : OwnJR wr v jl) (hq : IsJR wr wr.heap.size r j) (hx : a.eval x = .slice (some ⟨wr.heap.size, 0, none⟩) 1 1) (hl : jl.length <= 1000000)
  (h : ∀ v' w1, OwnJR w1 v' (jl ++ [j]) -> Grew wr w1 v v' -> wpList Tryz.prog ops Q rest (a.put o.dst v') w1) : wpList Tryz.prog ops Q (o :: rest) a (wr.alloc (.cells #[.int .i64 r.a, .int .i64 r.b, .int .i64 r.s, .bool r.r.g, .slice r.r.A r.r.l r.r.c, .slice r.r.A' r.r.l' r.r.c'] 111)) := by
 obtain ⟨rl, hr, he⟩ := j7
 have kH := he.1
 refine Jro Tryz.eltJR (by omega) gG s x ho _ v rl (wr.heap.size + 1) (some ⟨wr.heap.size, 0, none⟩) 1 1 [r] hs (hr.alloc _) hx (Jo3 wr r) JR.one (by unfold maxLen; omega) (by omega) ?_
 intro v' w1 h1 h2
 have hg : Grew wr w1 v v' := by
  refine ⟨h2.os, h2.tape, h2.output, nt (by simp) h2.size, fun k hk aC => (h2.block k (by simp; omega) aC).trans (Below.heap_alloc wr _ k hk), fun k hk => ?_⟩
  rcases h2.own k hk with h3 | h3
  ·exact .inl h3
  exact .inr (by simp at h3; omega)
 exact h v' w1 ⟨_, h1, (he.snoc hq).mono fun V q h => h.rowW (by decide) hr hg.size fun k hk aC => hg.block k hk aC⟩ hg
end
def Jj9 (w : World) (v : Value) (l : List Nat) : Prop := Own w 3 iv v l
theorem Tryz.kindXN : KindX 22 Jj9 := Jsr (by decide)
theorem Tryz.eltNN : Elt Tryz.prog 112 22 (.slice none 0 0) 24 := ⟨Tryz.underlying112, by kernel_rfl, by kernel_rfl⟩
def Uo (f : List (List Rat)) (how k : Nat) : List (List Nat) := (List.range (2 * f.length)).map (Jq f.length (Jh how f) k)
def Jci (n i : Nat) : List (List Nat) := (List.range (2 * n)).map fun j => if j < i then [j] else []
theorem Jk5 (n : Nat) : Jci n 0 = List.replicate (2 * n) [] := by
 unfold Jci
 refine List.ext_getElem (by simp) fun i h1 h2 => by simp
theorem Jnv {n i : Nat} (h : i < 2 * n) : (Jci n i).set i [i] = Jci n (i + 1) := by
 unfold Jci
 refine List.ext_getElem (by simp) fun j h1 h2 => ?_
 rw [List.getElem_set]
 simp only [List.getElem_map, List.getElem_range]
 by_cases cD : i = j
 ·subst cD; simp
 rw [if_neg cD]
 by_cases h3 : j < i
 ·rw [if_pos h3, if_pos (by omega)]
 rw [if_neg h3, if_neg (by omega)]
theorem Jnw (f : List (List Rat)) (how : Nat) : Jci f.length f.length = Uo f how 0 := rfl
theorem Jbc {f : List (List Rat)} {how k i : Nat} (h : i < 2 * f.length) : (Uo f how k)[i]? = some (Jq f.length (Jh how f) k i) := by
 unfold Uo
 rw [List.getElem?_map, List.getElem?_range h]
 rfl
theorem Jbv (f : List (List Rat)) (how k : Nat) : (Uo f how k).length = 2 * f.length := by simp [Uo]
theorem Jiw {f : List (List Rat)} {how k A B : Nat} (hA : (Jh how f k).a = (A : Int)) (hB : (Jh how f k).b = (B : Int)) (hk : f.length + k < 2 * f.length) (kO : A < f.length + k) (dC : B < f.length + k) :
  (((Uo f how k).set (f.length + k) (Jq f.length (Jh how f) k A ++ Jq f.length (Jh how f) k B)).set A []).set B [] = Uo f how (k + 1) := by
 refine List.ext_getElem? fun i => ?_
 by_cases hi : i < 2 * f.length
 ·rw [Jbc hi]
  show _ = some (if i = f.length + k then _ else if (i : Int) = (Jh how f k).a \/ (i : Int) = (Jh how f k).b then [] else _)
  rw [hA, hB, List.getElem?_set, List.getElem?_set, List.getElem?_set, List.length_set, List.length_set, Jbv, Jbc hi]
  by_cases h1 : i = f.length + k
  ·rw [if_neg (by omega), if_neg (by omega), if_pos h1.symm, if_pos (by omega), if_pos h1]
   simp
  rw [if_neg h1]
  by_cases h2 : B = i
  ·rw [if_pos h2, if_pos (by omega), if_pos (.inr (by omega))]
  rw [if_neg h2]
  by_cases h3 : A = i
  ·rw [if_pos h3, if_pos (by omega), if_pos (.inl (by omega))]
  rw [if_neg h3, if_neg (fun e => h1 e.symm), if_neg (by omega)]
 rw [List.getElem?_eq_none (by simp [Jbv]; omega), List.getElem?_eq_none (by rw [Jbv]; omega)]
theorem Jos {al : Nat -> Bool} {D : Nat -> Nat -> Rat} {a : Nat} (o : Option (Nat × Nat × Rat)) : ∀ b, b <= a + 1 -> Zi al D a o b = o := by
 intro b
 induction b with
 | zero => intro _; rfl
 | succ b ih =>
  intro hb
  show Yg al D a b (Zi al D a o b) = o
  rw [ih (by omega)]
  unfold Yg
  rw [if_neg (by omega)]
def BoxJ (P : Nat -> List Nat) (o : Option (Nat × Nat × Rat)) (g : Nat) (w : World) : Prop :=
 match o with
 | none => Blk w g 111 #[.int .i64 (-1), .int .i64 0, .int .i64 0, .bool false, .slice none 0 0, .slice none 0 0]
 | some (x, y, h) => ∃ r : RC, Blk w g 111 #[.int .i64 (x : Int), .int .i64 (y : Int), .int .i64 (((P x).length + (P y).length : Nat) : Int), .bool r.g, .slice r.A r.l r.c, .slice r.A' r.l' r.c'] /\ IsQ w w.heap.size r.v h /\ QS 5528 h
theorem BoxJ.next {P : Nat -> List Nat} {o : Option (Nat × Nat × Rat)} {g : Nat} {w w' : World} (h : BoxJ P o g w) (hb : Below w.heap.size w w') : BoxJ P o g w' := by
 unfold BoxJ at *
 match o with
 | none => exact Blk.below h hb (Blk.lt h)
 | some (x, y, z) =>
  obtain ⟨r, h1, h2, h3⟩ := h
  exact ⟨r, h1.below hb h1.lt, (h2.next zd hb).more hb.size, h3⟩
theorem Jhg {g y n c : Nat} (h : (Value.slice (some ⟨g, 0, none⟩) n c).ownBlock = some y) : g <= y /\ y < g + 1 := by
 have : g = y := by simpa [Value.ownBlock] using h
 omega
theorem Jj8 {l : List Nat} (h : l.length ≠ 0) : (!l.isEmpty) = true := by
 cases l with
 | nil => exact absurd rfl h
 | cons a l => rfl
theorem Blk.c6 {w : World} {g : Nat} {t : TypeId} {a b c d e f : Value} (h : Blk w g t #[a, b, c, d, e, f]) : w.cell? ⟨g, 0, none⟩ = some a /\ w.cell? ⟨g, 1, none⟩ = some b /\ w.cell? ⟨g, 2, none⟩ = some c /\ w.cell? ⟨g, 3, none⟩ = some d /\ w.cell? ⟨g, 4, none⟩ = some e /\ w.cell? ⟨g, 5, none⟩ = some f := ⟨h.cell 0, h.cell 1, h.cell 2, h.cell 3, h.cell 4, h.cell 5⟩
theorem Jme {a b c : Int} {g : Bool} {A A' : Option Addr} {l k l' k' : Nat} : ∀ i x : Nat, (#[Value.int .i64 a, .int .i64 b, .int .i64 c, .bool g, .slice A l k, .slice A' l' k'])[i]? ≠ some (Jr x) := by
 intro i x
 match i with
 | 0 => simp [Jr]
 | 1 => simp [Jr]
 | 2 => simp [Jr]
 | 3 => simp [Jr]
 | 4 => simp [Jr]
 | 5 => simp [Jr]
 | i + 6 => simp
abbrev set6 (w : World) (g : Nat) (x y z t u v : Value) : World := (((((w.setCell ⟨g, 0, none⟩ x).setCell ⟨g, 1, none⟩ y).setCell ⟨g, 2, none⟩ z).setCell ⟨g, 3, none⟩ t).setCell ⟨g, 4, none⟩ u).setCell ⟨g, 5, none⟩ v
theorem Jr2 {B g i : Nat} {w w' : World} (h : Below B w w') (hg : B <= g) (x y z t u v : Value) : Below B w (set6 w' g x y z t u v) :=
 (((((h.setCell (p := ⟨g, 0, none⟩) hg x).setCell (p := ⟨g, 1, none⟩) hg y).setCell (p := ⟨g, 2, none⟩) hg z).setCell (p := ⟨g, 3, none⟩) hg t).setCell (p := ⟨g, 4, none⟩) hg u).setCell (p := ⟨g, 5, none⟩) hg v
theorem Blk.set6 {w : World} {g : Nat} {T : TypeId} {a b c d e f : Value} (h : Blk w g T #[a, b, c, d, e, f]) (x y z t u v : Value) : Blk (Go.Proofs.YtecnjlcfoobepaaGreatDoor.set6 w g x y z t u v) g T #[x, y, z, t, u, v] := by
 simpa using ((((((h.set_ 0 x).set_ 1 y).set_ 2 z).set_ 3 t).set_ 4 u).set_ 5 v)
theorem IsQ.set6 {w : World} {g : Nat} {V : Value} {q : Rat} {T : TypeId} {cs : Array Value} (h : IsQ w w.heap.size V q) (hb : Blk w g T cs) (eZ : ∀ i x : Nat, cs[i]? ≠ some (Jr x)) (x y z t u v : Value) : IsQ (Go.Proofs.YtecnjlcfoobepaaGreatDoor.set6 w g x y z t u v) (Go.Proofs.YtecnjlcfoobepaaGreatDoor.set6 w g x y z t u v).heap.size V q :=
 h.excB hb eZ ((((((Exc.refl g w).set_ _ _).set_ _ _).set_ _ _).set_ _ _).set_ _ _ |>.set_ _ _)
theorem BoxJ.drewN {P : Nat -> List Nat} {o : Option (Nat × Nat × Rat)} {g : Nat} {w : World} (h : BoxJ P o g w) : BoxJ P o g w.drew := h.next (Jf w)
theorem Jfg {w w' : World} (h : Below w.heap.size w w') : Below w.heap.size w w'.drew := h.trans ((Jf _).mono h.size)
theorem Jb1 {w : World} {g : Nat} {T : TypeId} {cs : Array Value} (h : Blk w g T cs) {p : Addr} (u : Value) (aC : g ≠ p.block) : Blk (w.setCell p u) g T cs := (Below.heap_setCell w p u g aC).trans h
theorem Jaz {w : World} {g i j : Nat} {v : Value} (h : w.cell? ⟨g, i, none⟩ = some v) (u : Value) (aC : i ≠ j) : (w.setCell ⟨g, j, none⟩ u).cell? ⟨g, i, none⟩ = some v := by
 rw [World.cell?_setCell_other _ _ _ _ (fun e => aC (by injection e with _ e2 _; exact e2.symm))]
 exact h
theorem OwnSA.beside {α : Type} {w w' : World} {L B : Nat} {v u u' : Value} {bl : List (List Nat)} {e : TypeId} {k : Nat} {f : α -> List Value} {rl' : List α} (h : OwnSA 22 Jj9 L B w v bl) (ho : OwnW w e k f u rl') (h1 : e ≠ 22) (h2 : e ≠ 3) (hg : Grew w w' u u') : OwnSA 22 Jj9 L B w' v bl := by
 obtain ⟨rl, g1, g2, g3, g4, g5⟩ := h
 have key : ∀ {T : TypeId} {β : Type} {F : β -> Value} {x : Value} {l : List β}, T ≠ e -> Own w T F x l -> Own w' T F x l := fun {T β F x l} hT hx => by
  refine ⟨hx.1, ?_⟩
  rcases hx.2 with h3 | ⟨g, cap, cur, h3, h4, h5, h6⟩
  ·exact .inl h3
  refine .inr ⟨g, cap, cur, h3, h4, (hg.block g (hx.lt g (by rw [h3]; rfl)) (fun e2 => ?_)).trans h5, h6⟩
  obtain ⟨cs, fr, h7⟩ := OwnW.blk ho e2.symm
  rw [h5] at h7
  injection h7 with h7
  injection h7 with _ h7 _
  exact hT h7
 exact ⟨rl, key h1.symm g1, g2, fun i r b hr hb => key (F := iv) h2.symm (g3 i r b hr hb), g4, g5⟩
theorem OwnJR.only {β : Type} {w w' : World} {T : TypeId} {f' : β -> Value} {u v : Value} {rl : List β} {jl : List Jn} (h : OwnJR w v jl) (h' : Own w T f' u rl) (aC : T ≠ 155) (gR : 111 ≠ T) (ho : Only1 w w' u) : OwnJR w' v jl := by
 obtain ⟨l, h1, h2⟩ := h
 exact ⟨l, OwnW.only h1 h' gR ho, h2.mono fun V q hq => hq.only h' aC ho⟩
theorem Jrf {w : World} {B : Nat} {j : Jn} {a b s : Int} {r : RC} (ha : a = j.a) (hb : b = j.b) (hs : s = j.size) (h : IsQ w B r.v j.high) : IsJR w B ⟨a, b, s, r⟩ j := ⟨ha, hb, hs, h⟩
theorem Jq6 {w : World} {v : Value} {l : List Nat} (h : Own w 3 iv v ([] ++ l)) : Own w 3 iv v l := h
def Jtc : Value -> Nat
 | .slice _ n _ => n
 | _ => 0
theorem Jm5 (A : Option Addr) (n c B how : Nat) (f : List (List Rat)) (w : World) (h : Jcq w B A n f) (hB : B <= w.heap.size) (hn : n <= 7) (hq : ∀ l ∈ f, ∀ x ∈ l, QS 47 x) (jM : Xi f = 0) (hh : how = 1 \/ how = 2 \/ how = 3) :
  Calls Tryz.prog 26 #[.slice A n c, .int .i64 (how : Int)] w fun e w' => ∃ v, e = .returned v /\ OwnJR w' v (Zy how f) /\ (∀ b, v.ownBlock = some b -> w.heap.size <= b) /\ Below w.heap.size w w' := by
 obtain ⟨dU, gS, dV, h1, -⟩ := Jg4 jM
 have j6 : f.length = n := h.len
 rw [j6] at h1
 have H := lh h
 have HS := lh dU
 have HQ := lh hq
 have HLEN := lh j6
 have HH := lh hh
 obtain ⟨N2, jJ⟩ : ∃ N2, 2 * n = N2 := ⟨_, rfl⟩
 have e2 : (2 : Int) * (n : Int) = (N2 : Int) := by omega
 have w2 : IntKind.i64.wrap (N2 : Int) = (N2 : Int) := IntWalk.i64_in _ (by omega)
 clear h dU gS dV j6 hq jM hh
 obtain ⟨i0, gQ, kP, gT, dF⟩ := info_parts (Tryz.eltNN).info
 have kQ := Ql (P := Tryz.prog) SW.v ⟨none, 0, 0⟩ 112 22 24 (Tryz.eltNN).under (Tryz.eltNN).info rfl .i64 .i64 N2 (by omega) (by omega) w
 have jN := Jek (T := 22) Tryz.kindXN (e := []) (fun w => Own.nil_ _ _ _) w.heap.size (w.heap.size + 1) N2 w (by unfold maxLen; omega)
 have aH := Jb w (.cells ((List.replicate N2 (⟨none, 0, 0⟩ : SW)).map SW.v).toArray 22)
 have eT : (w.alloc (.cells ((List.replicate N2 (⟨none, 0, 0⟩ : SW)).map SW.v).toArray 22)).heap.size = w.heap.size + 1 := by simp
 generalize w.alloc (.cells ((List.replicate N2 (⟨none, 0, 0⟩ : SW)).map SW.v).toArray 22) = W at *
 go_enter Tryz.func26, Tryz.ntmps26
 go_wp2_with fail
 clear kQ gQ kP gT dF
 obtain ⟨g6, aP⟩ : ∃ g6, w.heap.size = g6 := ⟨_, rfl⟩
 rw [aP]
 have hI : OwnSA 22 Jj9 w.heap.size W.heap.size W (.slice (some ⟨g6, 0, none⟩) N2 N2) (Jci n 0) := by
  rw [Jk5, jJ, eT, <- aP]; exact jN
 have HI := lh hI
 have HBW := lh aH
 have dD : w.heap.size <= g6 := by omega
 clear jN aH eT hI
 go_loopw [7] (fun p wr => ∃ i : Nat, i <= n /\ p = .int .i64 (i : Int) /\ OwnSA 22 Jj9 w.heap.size wr.heap.size wr (.slice (some ⟨g6, 0, none⟩) N2 N2) (Jci n i) /\ Below w.heap.size w wr) (fun p _ => n - (intOf p).toNat)
 case atStart => exact ⟨0, by omega, rfl, HI.out, HBW.out⟩
 case round =>
  obtain ⟨i, hi, rfl, ho, aH⟩ := hrel
  rename World => wr
  clear HI HBW
  by_cases cZ : i < n
  ·have k1 : (i : Int) < (n : Int) := by omega
   have k2 : (i : Int) < (N2 : Int) := by omega
   have hl := Own.lit wr 3 iv [i] (by unfold maxLen; simp)
   have dW := Jb wr (.cells (([i] : List Nat).map iv).toArray 3)
   have jO : (wr.alloc (.cells (([i] : List Nat).map iv).toArray 3)).heap.size = wr.heap.size + 1 := by simp
   have eZ : (([i] : List Nat).map iv).toArray = #[.int .i64 (i : Int)] := rfl
   rw [eZ] at hl dW jO
   have o1 := OwnSA.next Tryz.kindXN.toKind ho dW
   have lL := o1.frozen i
   obtain ⟨A9, m9, cp9, lM, -, -, -⟩ := OwnSA.at_ Tryz.kindXN o1 (b := []) (i := i) (by unfold Jci; rw [List.getElem?_map, List.getElem?_range (by omega)]; simp)
   have o2 := OwnSA.put Tryz.kindXN (i := i) (B' := wr.heap.size + 1) o1 hl (fun y hy => Jhg hy) (by omega) aH.size
   rw [Jnv (by omega)] at o2
   have aW := (aH.trans (dW.mono aH.size)).setCell (p := ⟨g6, i, none⟩) dD (.slice (some ⟨wr.heap.size, 0, none⟩) 1 1)
   have dF : ((wr.alloc (.cells #[.int .i64 (i : Int)] 3)).setCell ⟨g6, i, none⟩ (.slice (some ⟨wr.heap.size, 0, none⟩) 1 1)).heap.size = wr.heap.size + 1 := by simp
   rw [<- dF] at o2
   have HO2 := lh o2
   have HB2 := lh aW
   clear hl dW jO eZ o1 o2 aW dF ho aH
   go_wp2
   exact ⟨⟨i + 1, by omega, by go_num, HO2.out, HB2.out⟩, by simp [intOf]; omega⟩
  obtain rfl : i = n := by omega
  have k1 : ¬ (i : Int) < (i : Int) := by omega
  have HO := lh ho
  have HBW := lh aH
  clear ho aH
  go_wp2_with fail
  have HP0 : Hid (OwnSA 22 Jj9 w.heap.size wr.heap.size wr (.slice (some ⟨g6, 0, none⟩) N2 N2) (Uo f how 0)) := lh (by
   rw [<- Jnw, HLEN.out]; exact HO.out)
  clear HO k1 hi
  go_loopw [8] (fun v wk => ∃ k : Nat, k + 1 <= i /\ OwnSA 22 Jj9 w.heap.size wk.heap.size wk (.slice (some ⟨g6, 0, none⟩) N2 N2) (Uo f how k) /\ OwnJR wk v ((List.range k).map (Jh how f)) /\ Hid (∀ b, v.ownBlock = some b -> w.heap.size <= b) /\ Below w.heap.size w wk) (fun v _ => i - Jtc v)
  case atStart => exact ⟨0, by omega, HP0.out, OwnJR.nil _, lh (fun b h => by cases h), HBW.out⟩
  case round =>
   obtain ⟨k, hk, dX, dY, fA, aO⟩ := hrel
   rename World => wk
   clear HP0 HBW
   obtain ⟨Aj, cj, hv, -, -⟩ := OwnJR.form dY
   rw [List.length_map, List.length_range] at hv
   subst hv
   obtain ⟨i1, kR⟩ : ∃ i1, i - 1 = i1 := ⟨_, rfl⟩
   have e3 : (i : Int) - 1 = (i1 : Int) := by omega
   have w3 : IntKind.i64.wrap (i1 : Int) = (i1 : Int) := IntWalk.i64_in _ (by omega)
   by_cases lN : k < i1
   ·have k1 : (k : Int) < (i1 : Int) := by omega
    obtain ⟨N, hN⟩ : ∃ N, i + k = N := ⟨_, rfl⟩
    have e4 : (i : Int) + (k : Int) = (N : Int) := by omega
    have w4 : IntKind.i64.wrap (N : Int) = (N : Int) := IntWalk.i64_in _ (by omega)
    have lO : N < N2 := by omega
    obtain ⟨JA, JB9, gU, kS⟩ := Zo (how := how) (k := k) HS.out (by rw [HLEN.out]; omega)
    have aQ := Jau (how := how) HS.out k (by rw [HLEN.out]; omega)
    have jP := Jd2 (how := how) (m := 47) (k := k) HS.out (by omega) HQ.out (by omega) (by rw [HLEN.out]; omega)
    have jQ := (Jjz (how := how) (m := 47) HS.out (by omega) HQ.out k (by omega) (by rw [HLEN.out]; omega)).2
    obtain ⟨P, hP⟩ : ∃ P, (fun j => Jq f.length (Jh how f) k j) = P := ⟨_, rfl⟩
    obtain ⟨D, hD⟩ : ∃ D, betw (Qe how f k).far = D := ⟨_, rfl⟩
    have aX : ∀ j, Jq f.length (Jh how f) k j = P j := fun j => by rw [<- hP]
    have jR : ∀ a b, QS 5528 (D a b) := fun a b => by rw [<- hD]; exact jP.qs.betw (by omega) a b
    have jS : ∀ j, j < N -> ∀ r ∈ P j, r < i := fun j hj r hr => by
     rw [<- aX] at hr
     have := ((aQ.mem j r).1 hr).1
     rw [HLEN.out] at this
     exact this
    have jT : ∀ j, j < N -> (P j).length <= 64 := fun j hj => by
     by_cases he : P j = []
     ·rw [he]; simp
     have h2 := aQ.sz j (by rw [HLEN.out]; omega) (by rw [aX]; exact he)
     rw [aX] at h2
     rw [<- h2]
     exact nt (jQ j) (nt (Nat.pow_le_pow_right (by omega) (show k <= 6 by omega)) (by decide))
    have bR : ∀ a b, a < b -> b < N -> P a ≠ [] -> P b ≠ [] -> Zc how (dOf f) (P a) (P b) (D a b) := fun a b fB hb ha kT => by
     have := aQ.dist a b fB (by rw [HLEN.out]; omega) (by rw [aX]; exact ha) (by rw [aX]; exact kT)
     rw [aX, aX, hD] at this
     exact this
    obtain ⟨al, jU⟩ : ∃ al : Nat -> Bool, (fun j => !(P j).isEmpty) = al := ⟨_, rfl⟩
    have cT : ∀ j, al j = !(P j).isEmpty := fun j => by rw [<- jU]
    have bS : Xh al D N N = some (JA, JB9, D JA JB9) := by
     have h2 := gU.scan
     unfold Jeb at h2
     rw [aQ.lens, HLEN.out, hN, hD] at h2
     rw [<- h2]
     exact Jip (fun j hj => by rw [cT, <- aX, <- aQ.al j (by rw [HLEN.out]; omega)]) (fun _ _ _ _ _ _ => rfl) N zd
    have aY : ∀ j, j < N -> ∃ Ap cp, wk.cell? ⟨g6, j, none⟩ = some (.slice Ap (P j).length cp) /\ Reads wk wk.heap.size 1 Ap (P j).length ((P j).map iv) := fun j hj => by
     have h2 := Jbc (f := f) (how := how) (k := k) (i := j) (by rw [HLEN.out]; omega)
     rw [aX] at h2
     obtain ⟨Ap, m9, cp, h3, h4, -, -⟩ := OwnSA.at_ Tryz.kindXN dX h2
     obtain ⟨A', c', h5, -, -⟩ := Own.form h4
     injection h5 with e5 e6 e7
     rw [<- e6]
     refine ⟨Ap, cp, h3, ?_⟩
     have h7 := Own.reads h4
     rw [<- e6] at h7
     exact h7
    have aP : g6 < wk.heap.size := dX.plain.lt g6 rfl
    have HJK := lh gU
    have HPJ := lh aX
    have HDQ := lh jR
    have HPN := lh jS
    have HPL := lh jT
    have HDI := lh bR
    have HAL := lh cT
    have HSC := lh bS
    have HPT := lh aY
    have HOP := lh dX
    have HOJ := lh dY
    have HBK := lh aO
    have HDD := lh hD
    clear jQ gU kS aQ jP hP aX jR jS jT bR jU cT bS aY dX dY aO hD
    have x9 : BoxJ P none wk.heap.size (wk.alloc (.cells #[.int .i64 (-1), .int .i64 0, .int .i64 0, .bool false, .slice none 0 0, .slice none 0 0] 111)) := Blk.new _ _ _
    have dZ := Jb wk (.cells #[.int .i64 (-1), .int .i64 0, .int .i64 0, .bool false, .slice none 0 0, .slice none 0 0] 111)
    have HBX := lh x9
    have HB9 := lh dZ
    clear x9 dZ
    go_wp2_with fail
    generalize wk.alloc (.cells #[.int .i64 (-1), .int .i64 0, .int .i64 0, .bool false, .slice none 0 0, .slice none 0 0] 111) = w9 at *
    go_loopw [10] (fun p wz => ∃ a : Nat, a <= N /\ p = .int .i64 (a : Int) /\ BoxJ P (Xh al D N a) wk.heap.size wz /\ Below wk.heap.size wk wz) (fun p _ => N - (intOf p).toNat)
    case atStart => exact ⟨0, by omega, rfl, HBX.out, HB9.out⟩
    case round =>
     obtain ⟨a, ha, rfl, x9, aI⟩ := hrel
     rename World => wz
     clear HBX HB9
     by_cases gV : a < N
     ·have k2 : (a : Int) < (N : Int) := by omega
      have ea : (a : Int) + 1 = ((a + 1 : Nat) : Int) := by omega
      obtain ⟨a1, kU⟩ : ∃ a1, a + 1 = a1 := ⟨_, rfl⟩
      rw [kU] at ea
      have wa : IntKind.i64.wrap (a1 : Int) = (a1 : Int) := IntWalk.i64_in _ (by omega)
      have HBZ := lh aI
      have HB0 : Hid (BoxJ P (Zi al D a (Xh al D N a) a1) wk.heap.size wz) := lh (by rw [Jos _ _ (by omega)]; exact x9)
      clear x9 aI
      go_wp2_with fail
      go_loopw [11] (fun p wq => ∃ b : Nat, a1 <= b /\ b <= N /\ p = .int .i64 (b : Int) /\ BoxJ P (Zi al D a (Xh al D N a) b) wk.heap.size wq /\ Below wk.heap.size wk wq) (fun p _ => N - (intOf p).toNat)
      case atStart => exact ⟨a1, Nat.le_refl _, by omega, rfl, HB0.out, HBZ.out⟩
      case round =>
       obtain ⟨b, dW, hb, rfl, x9, bT⟩ := hrel
       rename World => wq
       clear HB0 HBZ
       by_cases fC : b < N
       ·have k3 : (b : Int) < (N : Int) := by omega
        have k4 : (a : Int) < (N2 : Int) := by omega
        have k5 : (b : Int) < (N2 : Int) := by omega
        have fB : a < b := by omega
        obtain ⟨Aa, ca, eA, aZ⟩ := HPT.out a gV
        obtain ⟨Ab, cb, eB, bA⟩ := HPT.out b fC
        have d1 : At1 wk g6 a (.slice Aa (P a).length ca) := At1.mk' eA
        have d2 : At1 wk g6 b (.slice Ab (P b).length cb) := At1.mk' eB
        have d1 := d1.below bT aP
        have d2 := d2.below bT aP
        have bU : Zi al D a (Xh al D N a) (b + 1) = Yg al D a b (Zi al D a (Xh al D N a) b) := rfl
        have aZ := aZ.below bT
        have bA := bA.below bT
        obtain ⟨la, bM⟩ : ∃ la, (P a).length = la := ⟨_, rfl⟩
        obtain ⟨lb, bN⟩ : ∃ lb, (P b).length = lb := ⟨_, rfl⟩
        rw [bM] at d1 aZ
        rw [bN] at d2 bA
        have aJ := HPL.out a gV
        have aK := HPL.out b fC
        rw [bM] at aJ
        rw [bN] at aK
        have HRA := lh aZ
        have HRB := lh bA
        have HST := lh bU
        have HLA := lh bM
        have HLB := lh bN
        have HX := lh x9
        have HBQ := lh bT
        clear aZ bA bU bM bN x9 bT eA eB
        obtain ⟨x0, -⟩ := d1.c2
        obtain ⟨y0, -⟩ := d2.c2
        by_cases hz : la = 0 \/ lb = 0
        ·have s9 : Yg al D a b (Zi al D a (Xh al D N a) b) = Zi al D a (Xh al D N a) b := by
          unfold Yg
          rw [if_neg (fun h => by
           rw [HAL.out, HAL.out] at h
           rcases hz with hz | hz
           ·have : P a = [] := List.length_eq_zero_iff.1 (HLA.out.trans hz)
            rw [this] at h
            simp at h
           have : P b = [] := List.length_eq_zero_iff.1 (HLB.out.trans hz)
           rw [this] at h
           simp at h)]
         have HX2 : Hid (BoxJ P (Zi al D a (Xh al D N a) (b + 1)) wk.heap.size wq) := lh (by rw [HST.out, s9]; exact HX.out)
         clear s9 d1 d2
         by_cases gT : la = 0
         ·subst gT
          go_wp2
          exact ⟨⟨b + 1, by omega, by omega, by go_num, HX2.out, HBQ.out⟩, by simp [intOf]; omega⟩
         have dF : lb = 0 := by omega
         subst dF
         have q1 : ((la : Int) == 0) = false := by simp; omega
         have q2 : ¬ (la : Int) = 0 := by omega
         go_wp2
         exact ⟨⟨b + 1, by omega, by omega, by go_num, HX2.out, HBQ.out⟩, by simp [intOf]; omega⟩
        have q1 : ((la : Int) == 0) = false := by simp; omega
        have q2 : ¬ (la : Int) = 0 := by omega
        have q3 : ((lb : Int) == 0) = false := by simp; omega
        have q4 : ¬ (lb : Int) = 0 := by omega
        have q5 : ¬ la = 0 := by omega
        have q6 : ¬ lb = 0 := by omega
        have gW : Below w.heap.size w wq := HBK.out.trans (HBQ.out.mono HBK.out.size)
        have HBT := lh (fun w' (hb : Below wq.heap.size wq w') => Jiu A Aa Ab i c la ca lb cb wq.heap.size how 47 f (P a) (P b) (D a b) w' (((H.out.below Jcu (gW.mono hB)).more Jcu (nt hB gW.size)).below Jcu hb) hb.size HS.out HLEN.out (by omega) (by omega) (fun u v _ _ => Jsv HQ.out (by omega) u v)
         ((HRA.out.more HBQ.out.size).below hb) ((HRB.out.more HBQ.out.size).below hb) (HPN.out a gV) (HPN.out b fC) (by omega) aJ (by omega) aK HH.out (HDI.out a b fB fC (fun e => q5 (by rw [<- HLA.out, e]; rfl)) (fun e => q6 (by rw [<- HLB.out, e]; rfl))))
        have s9 : Yg al D a b (Zi al D a (Xh al D N a) b) = (match Zi al D a (Xh al D N a) b with
          | none => some (a, b, D a b)
          | some (x, y, h) => if D a b < h then some (a, b, D a b) else some (x, y, h)) := by
         unfold Yg
         rw [if_pos ⟨fB, by rw [HAL.out]; exact Jj8 (by rw [HLA.out]; exact q5), by rw [HAL.out]; exact Jj8 (by rw [HLB.out]; exact q6)⟩]
         generalize Zi al D a (Xh al D N a) b = o
         cases o with
         | none => rfl
         | some t => rfl
        rw [s9] at HST
        have gY := HDQ.out a b
        obtain ⟨o, ho⟩ : ∃ o, Zi al D a (Xh al D N a) b = o := ⟨_, rfl⟩
        rw [ho] at HX HST
        obtain ⟨dab, eC⟩ : ∃ d, D a b = d := ⟨_, rfl⟩
        rw [eC] at HBT HST gY
        have HDQ2 := lh gY
        have kV : wk.heap.size < wq.heap.size := by
         have := HX.out
         unfold BoxJ at this
         match o, this with
         | none, h => exact Blk.lt h
         | some (x, y, z), ⟨r, h, _⟩ => exact h.lt
        clear s9 gY ho eC gW
        go_upto_region 17 with fail
        clear x0 y0
        go_cut [12] (fun v wc => Jkb wq dab v wc)
        case first =>
         obtain ⟨d1q0, d1q1⟩ := d1.c2; have c1 := d1.drew; have bI := c1.lt; obtain ⟨d2q0, d2q1⟩ := d2.c2; have c2 := d2.drew; have bH := c2.lt; have hc := Jf wq; go_region_held3 (fun w' => w'.cell? ⟨g6, a, none⟩ = some (.slice Aa la ca) /\ w'.cell? ⟨g6, b, none⟩ = some (.slice Ab lb cb)) (go_keep) (first | (go_at_call 63; (first | with_reducible refine (HBT.out _ hc).mono ?_ | (have jW : wq.heap.size <= wq.heap.size := hc.size; have ca : Blk _ wq.heap.size _ _ := Blk.new wq.drew 70 #[.bool false, .slice none 0 0, .slice none 0 0]; have gZ := Jo (show _ < wq.heap.size from bI) zd; have c1 := c1.alloc (.cells #[.bool false, .slice none 0 0, .slice none 0 0] 70); have iA := Jo (show _ < wq.heap.size from bH) zd; have c2 := c2.alloc (.cells #[.bool false, .slice none 0 0, .slice none 0 0] 70); have hc := Ja hc (Jb _ (.cells #[.bool false, .slice none 0 0, .slice none 0 0] 70)); with_reducible refine (HBT.out _ hc).mono ?_) | (have jW : wq.heap.size <= wq.heap.size := hc.size; have ca : Blk (wq.alloc (.cells #[.bool false, .slice none 0 0, .slice none 0 0] 70)).drew wq.heap.size _ _ := Blk.new wq.drew 70 #[.bool false, .slice none 0 0, .slice none 0 0]; have gZ := Jo (show _ < wq.heap.size from bI) zd; have c1 : At1 (wq.alloc (.cells #[.bool false, .slice none 0 0, .slice none 0 0] 70)).drew _ _ _ := c1.alloc (.cells #[.bool false, .slice none 0 0, .slice none 0 0] 70); have iA := Jo (show _ < wq.heap.size from bH) zd; have c2 : At1 (wq.alloc (.cells #[.bool false, .slice none 0 0, .slice none 0 0] 70)).drew _ _ _ := c2.alloc (.cells #[.bool false, .slice none 0 0, .slice none 0 0] 70); have hc : Below wq.heap.size wq (wq.alloc (.cells #[.bool false, .slice none 0 0, .slice none 0 0] 70)).drew := Ja hc (Jb _ (.cells #[.bool false, .slice none 0 0, .slice none 0 0] 70)); with_reducible refine (HBT.out _ hc).mono ?_)); rintro e w1 ⟨v1, rfl, aM, t7⟩; obtain ⟨g1, A1, l1, c1c, A1', l1', c1c', cV⟩ := aM.shape; subst cV; (try have ca := ca.below t7 ca.lt); (try clear x8 cJ); obtain ⟨c1, x8, cJ⟩ := c1.zc2 t7; (try clear bI); have bI := c1.lt; (try clear t8 cI); obtain ⟨c2, t8, cI⟩ := c2.zc2 t7; (try clear bH); have bH := c2.lt; have hc := Ja hc t7; (try (have lP := ca.lt; obtain ⟨kW, kX, kY, kZ, lB, lC, lD, lE, lF⟩ := ca.f3))))
         all_goals
          go_wp2
          go_meet
          first | with_reducible exact Jgu hc aM | with_reducible exact Jda hc aM ca jW | with_reducible exact Jfa hc aM
        case rest =>
        obtain ⟨g7, ng, A7, l7, c7, A7', l7', c7', rfl, eR, b7, bO, dG⟩ := hcut
        rename World => W2
        obtain ⟨S, eD⟩ : ∃ S, la + lb = S := ⟨_, rfl⟩
        have eS : (la : Int) + (lb : Int) = (S : Int) := by omega
        have wS : IntKind.i64.wrap (S : Int) = (S : Int) := IntWalk.i64_in _ (by omega)
        have eE : (P a).length + (P b).length = S := by rw [HLA.out, HLB.out]; exact eD
        have j8 := HX.out.next dG
        have y8 := HBQ.out.trans (dG.mono HBQ.out.size)
        have d1 := d1.below dG d1.lt
        have d2 := d2.below dG d2.lt
        have ne1 : ¬ wk.heap.size = g7 := by omega
        have ne2 : ¬ g7 = wk.heap.size := by omega
        have ne3 : ¬ g6 = wk.heap.size := by omega
        have ne4 : ¬ wk.heap.size = g6 := by omega
        clear HX HBT kV
        cases o with
        | none =>
         have j8 : Blk W2 wk.heap.size 111 #[.int .i64 (-1), .int .i64 0, .int .i64 0, .bool false, .slice none 0 0, .slice none 0 0] := j8
         have bB : Zi al D a (Xh al D N a) (b + 1) = some (a, b, dab) := HST.out
         have hS := lh (Jr2 (i := 0) y8 zd (.int .i64 (a : Int)) (.int .i64 (b : Int)) (.int .i64 (S : Int)) (.bool ng) (.slice A7 l7 c7) (.slice A7' l7' c7'))
         have eF := lh (Blk.set6 j8 (.int .i64 (a : Int)) (.int .i64 (b : Int)) (.int .i64 (S : Int)) (.bool ng) (.slice A7 l7 c7) (.slice A7' l7' c7'))
         have bV := lh (IsQ.set6 bO j8 (by exact Jme) (.int .i64 (a : Int)) (.int .i64 (b : Int)) (.int .i64 (S : Int)) (.bool ng) (.slice A7 l7 c7) (.slice A7' l7' c7'))
         have bW : Hid (BoxJ P (some (a, b, dab)) wk.heap.size _) := lh ⟨⟨ng, A7, l7, c7, A7', l7', c7'⟩, by rw [eE]; exact eF.out, bV.out, HDQ2.out⟩
         rw [<- bB] at bW
         obtain ⟨x0, -⟩ := d1.c2
         obtain ⟨y0, -⟩ := d2.c2
         obtain ⟨v0, v1, v2⟩ := b7.c3
         obtain ⟨z0, z1, z2, z3, z4, z5⟩ := Blk.c6 j8
         have f0 := Blk.frozen j8 0
         have f1 := Blk.frozen j8 1
         have f2 := Blk.frozen j8 2
         have f3 := Blk.frozen j8 3
         have f4 := Blk.frozen j8 4
         have f5 := Blk.frozen j8 5
         clear j8 y8 d1 d2 b7 bO eF bV bB eE dG
         go_upto_region 19 with fail
         go_region
         all_goals
          go_wp2
          exact ⟨⟨b + 1, by omega, by omega, by go_num, BoxJ.drewN bW.out, Jfg hS.out⟩, by simp [intOf]; omega⟩
        | some t =>
         obtain ⟨x, y, z⟩ := t
         obtain ⟨r, j8, aL, eG⟩ := j8
         obtain ⟨rg, rA, rl, rc, rA', rl', rc'⟩ := r
         replace aL : IsQ W2 W2.heap.size (.agg #[.bool rg, .slice rA rl rc, .slice rA' rl' rc']) z := aL
         have bB : Zi al D a (Xh al D N a) (b + 1) = if dab < z then some (a, b, dab) else some (x, y, z) := HST.out
         have dM := Jcb dab z W2.heap.size _ _ W2 bO aL zd (HDQ2.out.mono (by omega)) (eG.mono (by omega))
         have bC := Je8 z dab
         generalize Yw dab z = cv at *
         have HCM := lh dM
         have q7 : ¬ (x : Int) < 0 := by omega
         have q7' : decide ((x : Int) < 0) = false := decide_eq_false q7
         obtain ⟨v0, v1, v2⟩ := b7.c3
         (try simp only [] at j8)
         obtain ⟨z0, z1, z2, z3, z4, z5⟩ := Blk.c6 j8
         have HX2 := lh j8
         have HIZ := lh aL
         have HQ7 := lh bO
         have HBQ2 := lh y8
         have HLT := lh bC
         have HB7 := lh b7
         have HD1 := lh d1
         have HD2 := lh d2
         have HST2 := lh bB
         clear dM bC j8 aL bO y8 b7 d1 d2 bB dG
         go_wp2_with fail
         refine HCM.out.mono ?_
         rintro e W3 ⟨rfl, y9⟩
         have j8 := HX2.out.below y9 (Blk.lt HX2.out)
         have aL := (HIZ.out.next zd y9).more y9.size
         have bO := (HQ7.out.next zd y9).more y9.size
         have y8 := HBQ2.out.trans (y9.mono HBQ2.out.size)
         have b7 := HB7.out.below y9 HB7.out.lt
         have d1 := HD1.out.below y9 HD1.out.lt
         have d2 := HD2.out.below y9 HD2.out.lt
         clear z0 z1 z2 z3 z4 z5 v0 v1 v2 HX2 HIZ HQ7 HBQ2 HB7 HD1 HD2 HCM y9
         by_cases fD : cv < 0
         ·have q9 : decide (cv < 0) = true := decide_eq_true fD
          have bB : Zi al D a (Xh al D N a) (b + 1) = some (a, b, dab) := by rw [HST2.out, if_pos (HLT.out.1 fD)]
          have hS := lh (Jr2 (i := 0) y8 zd (.int .i64 (a : Int)) (.int .i64 (b : Int)) (.int .i64 (S : Int)) (.bool ng) (.slice A7 l7 c7) (.slice A7' l7' c7'))
          have eF := lh (Blk.set6 j8 (.int .i64 (a : Int)) (.int .i64 (b : Int)) (.int .i64 (S : Int)) (.bool ng) (.slice A7 l7 c7) (.slice A7' l7' c7'))
          have bV := lh (IsQ.set6 bO j8 (by exact Jme) (.int .i64 (a : Int)) (.int .i64 (b : Int)) (.int .i64 (S : Int)) (.bool ng) (.slice A7 l7 c7) (.slice A7' l7' c7'))
          have bW : Hid (BoxJ P (some (a, b, dab)) wk.heap.size _) := lh ⟨⟨ng, A7, l7, c7, A7', l7', c7'⟩, by rw [eE]; exact eF.out, bV.out, HDQ2.out⟩
          rw [<- bB] at bW
          obtain ⟨x0, -⟩ := d1.c2
          obtain ⟨y0, -⟩ := d2.c2
          obtain ⟨v0, v1, v2⟩ := b7.c3
          obtain ⟨z0, z1, z2, z3, z4, z5⟩ := Blk.c6 j8
          have f0 := Blk.frozen j8 0
          have f1 := Blk.frozen j8 1
          have f2 := Blk.frozen j8 2
          have f3 := Blk.frozen j8 3
          have f4 := Blk.frozen j8 4
          have f5 := Blk.frozen j8 5
          clear j8 y8 d1 d2 b7 bO aL eF bV bB eE
          go_upto_region 19 with fail
          go_region
          all_goals
           go_wp2
           exact ⟨⟨b + 1, by omega, by omega, by go_num, BoxJ.drewN bW.out, Jfg hS.out⟩, by simp [intOf]; omega⟩
         have q9 : decide (cv < 0) = false := decide_eq_false fD
         have bB : Zi al D a (Xh al D N a) (b + 1) = some (x, y, z) := by rw [HST2.out, if_neg (fun h => fD (HLT.out.2 h))]
         have bW : Hid (BoxJ P (some (x, y, z)) wk.heap.size W3) := lh ⟨⟨rg, rA, rl, rc, rA', rl', rc'⟩, j8, aL, eG⟩
         rw [<- bB] at bW
         have hS := lh y8
         clear j8 y8 d1 d2 b7 bO aL bB eE
         go_wp2
         exact ⟨⟨b + 1, by omega, by omega, by go_num, bW.out, hS.out⟩, by simp [intOf]; omega⟩
       obtain rfl : b = N := by omega
       have k3 : ¬ (b : Int) < (b : Int) := by omega
       have HX := lh (show BoxJ P (Xh al D b (a + 1)) wk.heap.size wq from x9)
       have HBQ := lh bT
       clear x9 bT
       go_wp2
       exact ⟨⟨a + 1, by omega, by go_num, HX.out, HBQ.out⟩, by simp [intOf]; omega⟩
     obtain rfl : a = N := by omega
     have k2 : ¬ (a : Int) < (a : Int) := by omega
     rw [HSC.out] at x9
     obtain ⟨r, x9, aL, eG⟩ := x9
     obtain ⟨rg, rA, rl, rc, rA', rl', rc'⟩ := r
     replace aL : IsQ wz wz.heap.size (.agg #[.bool rg, .slice rA rl rc, .slice rA' rl' rc']) (D JA JB9) := aL
     (try simp only [] at x9)
     have kO := HJK.out.ab
     have jX : JB9 < a := by have := HJK.out.bn; rw [HLEN.out] at this; omega
     obtain ⟨Aa, ca, eA, aZ⟩ := HPT.out JA (by omega)
     obtain ⟨Ab, cb, eB, bA⟩ := HPT.out JB9 jX
     have d1 : At1 wk g6 JA (.slice Aa (P JA).length ca) := At1.mk' eA
     have d2 : At1 wk g6 JB9 (.slice Ab (P JB9).length cb) := At1.mk' eB
     have d1 := d1.below aI aP
     have d2 := d2.below aI aP
     have aZ := aZ.below aI
     have bA := bA.below aI
     have aJ := HPL.out JA (by omega)
     have aK := HPL.out JB9 jX
     obtain ⟨la, bM⟩ : ∃ la, (P JA).length = la := ⟨_, rfl⟩
     obtain ⟨lb, bN⟩ : ∃ lb, (P JB9).length = lb := ⟨_, rfl⟩
     rw [bM] at d1 aZ aJ
     rw [bN] at d2 bA aK
     rw [bM, bN] at x9
     obtain ⟨S, eD⟩ : ∃ S, la + lb = S := ⟨_, rfl⟩
     rw [eD] at x9
     have D9 := lh x9
     have D1 := lh d1
     have D2 := lh d2
     have HRA := lh aZ
     have HRB := lh bA
     have HIZ := lh aL
     have HBZ := lh aI
     have HLA := lh bM
     have HLB := lh bN
     have HS9 := lh eD
     have HQZ := lh eG
     have b9 := x9
     have k4 : (JA : Int) < (N2 : Int) := by omega
     have k5 : (JB9 : Int) < (N2 : Int) := by omega
     have k6 : (a : Int) < (N2 : Int) := by omega
     have HAL1 := lh (Jz (Jb wz (.cells #[] 3)) 1)
     have eH := OwnSA.next Tryz.kindXN.toKind HOP.out aI
     have HOP6 := lh eH
     have HPA := lh (Jbc (f := f) (how := how) (k := k) (i := a) (by rw [HLEN.out]; omega))
     have kindX6 := Tryz.kindXN
     have ne7 : wk.heap.size ≠ g6 := by omega
     have ne8 : JA ≠ a := by omega
     have ne9 : JB9 ≠ a := by omega
     have kindN6 := Tryz.kindXN.toKind
     clear eH
     have HOW1 := lh (show Own ((wz.alloc (.cells #[] 3)).drew) 3 iv (.slice (some ⟨wz.heap.size, 0, none⟩) 0 0) [] from (Own.lit wz 3 iv [] (by unfold maxLen; simp)).drewN 1)
     have HR1 := lh (HRA.out.below (HAL1.out.mono HBZ.out.size))
     clear aZ bA aL aI bM bN eD eG eA eB x9
     go_upto_region 20 with fail
     obtain ⟨iB, iC, iD, iE, iF, iG⟩ := b9.c6; have c9 := b9.drew; have lQ := c9.lt; obtain ⟨d1q0, d1q1⟩ := d1.c2; have c1 := d1.drew; have bI := c1.lt; obtain ⟨d2q0, d2q1⟩ := d2.c2; have c2 := d2.drew; have bH := c2.lt; have hc := Jf wz; go_region_held3 (fun w' => w'.cell? ⟨wk.heap.size, 0, none⟩ = some (.int .i64 (JA : Int)) /\ w'.cell? ⟨wk.heap.size, 1, none⟩ = some (.int .i64 (JB9 : Int)) /\ w'.cell? ⟨wk.heap.size, 2, none⟩ = some (.int .i64 (S : Int)) /\ w'.cell? ⟨wk.heap.size, 3, none⟩ = some (.bool rg) /\ w'.cell? ⟨wk.heap.size, 4, none⟩ = some (.slice rA rl rc) /\ w'.cell? ⟨wk.heap.size, 5, none⟩ = some (.slice rA' rl' rc') /\ w'.cell? ⟨g6, JA, none⟩ = some (.slice Aa la ca) /\ w'.cell? ⟨g6, JB9, none⟩ = some (.slice Ab lb cb)) (go_keep) (first | (refine Jd7 (f := iv) Tryz.eltIntR rfl (.tmp 107) (.tmp 112) rfl _ _ [] wk.heap.size Aa la ca (P JA) (by simp [Act.eval, Act.put]) HOW1.out (by simp [Act.eval, Act.put]) HR1.out (fun _ => rfl) (by unfold maxLen; simp; omega) (by simp; omega) ?_; intro v5 w5 jY iH; have h5 := HAL1.out.trans (iH.below HAL1.out.size (fun y hy => (Jhg hy).1)); have HF5 := lh (iH.fresh HAL1.out.size (fun y hy => (Jhg hy).1)); have HO5 := lh (Jq6 jY); have H5 := lh h5; clear jY iH iB iC iD iE iF iG d1q0 d2q0; have c9 := D9.out.below h5 D9.out.lt; have c1 := D1.out.below h5 D1.out.lt; have c2 := D2.out.below h5 D2.out.lt; obtain ⟨eI, eJ, eK, eL, eM, eO⟩ := c9.c6; obtain ⟨x8, -⟩ := c1.c2; obtain ⟨t8, -⟩ := c2.c2; clear h5) | (refine Jd7 (f := iv) Tryz.eltIntR rfl (.tmp 113) (.tmp 118) rfl _ _ (P JA) wk.heap.size Ab lb cb (P JB9) (by simp [Act.eval, Act.put]) HO5.out (by simp [Act.eval, Act.put]) (HRB.out.below (H5.out.mono HBZ.out.size)) (fun _ => rfl) (by have := HLA.out; unfold maxLen; omega) (by have := HLA.out; omega) ?_; intro v6 w6 iI aP; obtain ⟨A6, n6, c6v, lG⟩ := Own.form3 iI; subst lG; have h6 := H5.out.trans (aP.below H5.out.size HF5.out); have HO6 := lh iI; have H6 := lh h6; have HF6 := lh (aP.fresh H5.out.size HF5.out); clear iI aP eI eJ eK eL eM eO x8 t8; have c9 := D9.out.below h6 D9.out.lt; have c1 := D1.out.below h6 D1.out.lt; have c2 := D2.out.below h6 D2.out.lt; obtain ⟨eI, eJ, eK, eL, eM, eO⟩ := c9.c6; obtain ⟨x8, -⟩ := c1.c2; obtain ⟨t8, -⟩ := c2.c2; have o6 := OwnSA.next kindN6 HOP6.out h6; have z6 := o6.frozen a; obtain ⟨A9, m9, cp9, z7, -, -, -⟩ := OwnSA.at_ kindX6 o6 HPA.out; have u9 := Jb1 c9 (p := ⟨g6, a, none⟩) (.slice A6 n6 c6v) ne7; obtain ⟨u90, u91, u92, u93, u94, u95⟩ := u9.c6; have u1 := Jaz x8 (.slice A6 n6 c6v) ne8; have u2 := Jaz t8 (.slice A6 n6 c6v) ne9; clear h6 o6))
     all_goals
      have o6 := OwnSA.next kindN6 HOP6.out H6.out
      have o7 := OwnSA.put kindX6 (i := a) (B' := w6.heap.size) o6 HO6.out (fun y hy => ⟨nt HBZ.out.size (HF6.out y hy), Own.lt HO6.out y hy⟩) (nt HBZ.out.size H6.out.size) HBK.out.size
      have o8 := OwnSA.put kindX6 (i := JA) (B' := w6.heap.size) o7 (Own.nil_ _ _ _) (fun y hy => by cases hy) zd (nt HBK.out.size (nt HBZ.out.size H6.out.size))
      have o9 := OwnSA.put kindX6 (i := JB9) (B' := w6.heap.size) o8 (Own.nil_ _ _ _) (fun y hy => by cases hy) zd (nt HBK.out.size (nt HBZ.out.size H6.out.size))
      obtain ⟨rl6, iJ, -⟩ := o6.plain
      have iK := lh ((((Exc.refl g6 w6).set_ a (.slice A6 n6 c6v)).set_ JA (.slice none 0 0)).set_ JB9 (.slice none 0 0))
      have bV := (HIZ.out.next zd H6.out).more H6.out.size
      have iL := bV.only iJ (by decide) (Only1.exc (n := N2) (c := N2) iK.out)
      have jZ := (HOJ.out.next HBZ.out).next H6.out
      have iM := jZ.only iJ (by decide) (by decide) (Only1.exc (n := N2) (c := N2) iK.out)
      have u9a := Jb1 u9 (p := ⟨g6, JA, none⟩) (.slice none 0 0) ne7
      have u9b := Jb1 u9a (p := ⟨g6, JB9, none⟩) (.slice none 0 0) ne7
      have dR := (HBK.out.trans (HBZ.out.mono HBK.out.size)).trans (H6.out.mono (nt HBK.out.size HBZ.out.size))
      have dZ := ((dR.setCell (p := ⟨g6, a, none⟩) dD (.slice A6 n6 c6v)).setCell (p := ⟨g6, JA, none⟩) dD (.slice none 0 0)).setCell (p := ⟨g6, JB9, none⟩) dD (.slice none 0 0)
      have iN := Jiw (f := f) (how := how) (k := k) (A := JA) (B := JB9) (by rw [HJK.out.eq]) (by rw [HJK.out.eq]) (by rw [HLEN.out]; omega) (by rw [HLEN.out]; omega) (by rw [HLEN.out]; omega)
      rw [HPJ.out, HPJ.out, HLEN.out, hN] at iN
      have zJA := o7.frozen JA
      have zJB := o8.frozen JB9
      have u2b := Jaz u2 (.slice none 0 0) (show JB9 ≠ JA by omega)
      have o9 : OwnSA 22 Jj9 w.heap.size w6.heap.size _ _ (Uo f how (k + 1)) := iN ▸ o9
      have bX : (Jh how f k).high = D JA JB9 := by rw [HJK.out.eq, HDD.out]
      rw [<- bX] at iL
      have cD := Jrf (a := (JA : Int)) (b := (JB9 : Int)) (s := (S : Int)) (r := ⟨rg, rA, rl, rc, rA', rl', rc'⟩) (j := Jh how f k) (by rw [HJK.out.eq]) (by rw [HJK.out.eq]) (by rw [HJK.out.eq, HPJ.out, HPJ.out, HLA.out, HLB.out, HS9.out]) iL
      obtain ⟨jl9, kA, -⟩ := id iM
      have O9 := lh o9
      have HJ9 := lh iM
      have HIJ := lh cD
      have HW9 := lh kA
      have HBN := lh dZ
      obtain ⟨p0, p1, p2, p3, p4, p5⟩ := u9a.c6
      obtain ⟨r0, r1, r2, r3, r4, r5⟩ := u9b.c6
      clear bX o6 o7 o8 o9 iJ bV iL jZ iM u9 u9a u9b dR dZ iN cD kA c9 c1 c2 b9 d1 d2 D9 D1 D2 iK
      go_wp2_with (at_builtin; refine Jtk rfl (.tmp 129) (.tmp 131) rfl _ _ ((List.range k).map (Jh how f)) (Jh how f k) ⟨(JA : Int), (JB9 : Int), (S : Int), ⟨rg, rA, rl, rc, rA', rl', rc'⟩⟩ rfl HJ9.out HIJ.out (by first | rfl | (show Value.slice (some ⟨w6.heap.size, 0, none⟩) 1 1 = _; simp) | simp [Act.eval, Act.put]) (by rw [List.length_map, List.length_range]; omega) ?_; intro v' w2 j9 bD; obtain ⟨A10, c10, bP, -, -⟩ := OwnJR.form j9; rw [List.length_append, List.length_map, List.length_range] at bP; have bP : v' = .slice A10 (k + 1) c10 := bP; have O10 := lh (OwnSA.beside O9.out HW9.out (by decide) (by decide) bD); have HO10 := lh j9; have HGR := lh bD; clear j9 bD)
      (try subst bP)
      have fV : w6.heap.size <= w2.heap.size := by have := HGR.out.size; simpa using this
      have lH : (List.range k).map (Jh how f) ++ [Jh how f k] = (List.range (k + 1)).map (Jh how f) := by rw [List.range_succ, List.map_append]; rfl
      exact ⟨⟨k + 1, by omega, O10.out.more fV, lH ▸ HO10.out, lh (HGR.out.fresh HBN.out.size fA.out), HBN.out.trans (HGR.out.below HBN.out.size fA.out)⟩, by simp [Jtc]; omega⟩
   have k1 : ¬ (k : Int) < (i1 : Int) := by omega
   obtain rfl : i1 = k := by omega
   have HJ : Hid (OwnJR wk (.slice Aj i1 cj) (Zy how f)) := lh (by
    unfold Zy
    rw [HLEN.out, kR]
    exact dY)
   have HBK := lh aO
   have HFJ2 := lh (fA.out)
   clear dX dY fA aO
   go_wp2
   go_ret
   exact ⟨_, rfl, HJ.out, by rw [<- aP]; exact fun b h => HFJ2.out b h, by rw [<- aP]; exact HBK.out⟩
