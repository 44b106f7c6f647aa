import Derived.Test.YtecnjlcfoobepaaGreatDoorLinkFarP
import Derived.Test.YtecnjlcfoobepaaGreatDoorLinkMore
namespace Go.Proofs.YtecnjlcfoobepaaGreatDoor
open Go.RowKit
set_option linter.unusedSimpArgs false
set_option linter.unusedVariables false
def matF (m : Nat) (d : Nat → Nat → Rat) : List (List Rat) := (List.range m).map fun i => (List.range m).map fun k => d i k
theorem matF_len (m : Nat) (d : Nat → Nat → Rat) : (matF m d).length = m := by simp [matF]
theorem matF_row {m : Nat} {d : Nat → Nat → Rat} {i : Nat} (hi : i < m) : (matF m d).getD i [] = (List.range m).map fun k => d i k := getD_map_range hi
theorem matF_d {m : Nat} {d : Nat → Nat → Rat} {i k : Nat} (hi : i < m) (hk : k < m) : dOf (matF m d) i k = d i k := by
 unfold dOf
 rw [matF_row hi]
 exact getD_map_range hk
theorem row_eq {l : List Rat} {m : Nat} (h : l.length = m) (g : Nat → Rat) (hg : ∀ k, k < m → l.getD k 0 = g k) : l = (List.range m).map g := by
 refine List.ext_getElem (by simp [h]) fun k h1 h2 => ?_
 have := hg k (by omega)
 rw [List.getD_eq_getElem?_getD, List.getElem?_eq_getElem h1] at this
 simpa using this
theorem matF_of {f : List (List Rat)} {m : Nat} (hm : f.length = m) (hrow : ∀ i, i < m → (f.getD i []).length = m) (d : Nat → Nat → Rat) (hd : ∀ i k, i < m → k < m → dOf f i k = d i k) : f = matF m d := by
 refine List.ext_getElem (by simp [hm, matF]) fun i h1 h2 => ?_
 have e : f.getD i [] = f[i] := by rw [List.getD_eq_getElem?_getD, List.getElem?_eq_getElem h1]; rfl
 have hr := hrow i (by omega)
 have := row_eq hr (fun k => d i k) (fun k hk => hd i k (by omega) hk)
 rw [e] at this
 rw [this]
 simp [matF]
theorem timesF_mat {f : List (List Rat)} (hf : SymF f) (u : Rat) : timesF u f = matF f.length fun i k => dOf f i k * u := by
 have e : ∀ i, i < f.length → (timesF u f).getD i [] = (f.getD i []).map fun x => u * x := fun i hi => by
  unfold timesF
  rw [List.getD_eq_getElem?_getD, List.getD_eq_getElem?_getD, List.getElem?_map, List.getElem?_eq_getElem hi]
  rfl
 refine matF_of (by simp [timesF]) (fun i hi => ?_) _ (fun i k hi hk => ?_)
 ·rw [e i hi, List.length_map]; exact hf.row i hi
 ·unfold dOf
  have h2 := hf.row i hi
  rw [e i hi]
  generalize f.getD i [] = r at *
  rw [List.getD_eq_getElem?_getD, List.getD_eq_getElem?_getD, List.getElem?_map, Rat.mul_comm, List.getElem?_eq_getElem (show k < r.length by omega)]
  rfl
theorem matF_check {m : Nat} {d : Nat → Nat → Rat} (h1 : 1 ≤ m) (h64 : m ≤ 64) (hz : ∀ i, i < m → d i i = 0) (hp : ∀ i k, i < m → k < m → 0 ≤ d i k) (hs : ∀ i k, i < m → k < m → d i k = d k i) : checkFar (matF m d) = 0 := by
 refine checkFar_ok (by rw [matF_len]; omega) (fun k l hl => ?_) (fun i hi k hk => ?_)
 ·rw [matF_len]
  have hk := (List.getElem?_eq_some_iff.1 hl).1
  rw [matF_len] at hk
  have := matF_row (d := d) hk
  rw [List.getD_eq_getElem?_getD, hl] at this
  have this : l = _ := this
  rw [this]
  simp
 ·rw [matF_len] at hi hk
  have e1 : dOf (matF m d) i k = d i k := matF_d hi hk
  have e2 : dOf (matF m d) k i = d k i := matF_d hk hi
  unfold dOf at e1 e2
  unfold badAt
  rw [e1, e2, decide_eq_false (Rat.not_lt.2 (hp i k hi hk)), decide_eq_false (p := d i k ≠ d k i) (fun h => h (hs i k hi hk))]
  by_cases h : i = k
  ·subst h
   simp [hz i hi]
  ·simp [h]
theorem matF_mem {m : Nat} {d : Nat → Nat → Rat} {P : Rat → Prop} (h : ∀ i k, i < m → k < m → P (d i k)) : ∀ l ∈ matF m d, ∀ x ∈ l, P x := by
 intro l hl x hx
 obtain ⟨i, hi, rfl⟩ := List.mem_map.1 hl
 obtain ⟨k, hk, rfl⟩ := List.mem_map.1 hx
 exact h i k (List.mem_range.1 hi) (List.mem_range.1 hk)
def turnF (t : Nat) (f : List (List Rat)) : List (List Rat) := matF f.length fun i k => dOf f ((i + t) % f.length) ((k + t) % f.length)
theorem mod_lt' {m : Nat} (h : 1 ≤ m) (x : Nat) : x % m < m := Nat.mod_lt _ (by omega)
theorem farF_turn {f : List (List Rat)} (hF : FarF f) (t : Nat) : FarF (turnF t f) := by
 obtain ⟨hf, hp, hd, h1, h64⟩ := symF_of hF.chk
 refine ⟨matF_check h1 h64 (fun i hi => hd _ (mod_lt' h1 _)) (fun i k hi hk => hp _ _ (mod_lt' h1 _) (mod_lt' h1 _)) (fun i k hi hk => hf.sym _ _ (mod_lt' h1 _) (mod_lt' h1 _)), by unfold turnF; rw [matF_len]; exact h1, by unfold turnF; rw [matF_len]; exact hF.most, ?_⟩
 exact matF_mem fun i k hi hk => dOf_QS hF.qs (by omega) _ _
theorem turn_far {f : List (List Rat)} (hF : FarF f) {t : Nat} (ht : t < f.length) {a b : Nat} (ha : a < f.length) (hb : b < f.length) : farB 1 (turnF t f) a b = farB 1 f ((a + t) % f.length) ((b + t) % f.length) := by
 obtain ⟨hf, hp, hd, h1, h64⟩ := symF_of hF.chk
 obtain ⟨hg, hq, -, -, -⟩ := symF_of (farF_turn hF t).chk
 have hn : f.length = (turnF t f).length := by unfold turnF; rw [matF_len]
 refine far_turned hf hp hg hq hn (s := fun i => (i + t) % f.length) (t := fun i => (i + (f.length - t)) % f.length) (fun i _ => mod_lt' h1 _) (fun i _ => mod_lt' h1 _) (fun i j hi hj => matF_d hi hj) (fun i hi => ?_) (fun i hi => ?_) ha hb
 ·show ((i + (f.length - t)) % f.length + t) % f.length = i
  rw [Nat.mod_add_mod, show i + (f.length - t) + t = i + f.length by omega, Nat.add_mod_right, Nat.mod_eq_of_lt hi]
 ·show ((i + t) % f.length + (f.length - t)) % f.length = i
  rw [Nat.mod_add_mod, show i + t + (f.length - t) = i + f.length by omega, Nat.add_mod_right, Nat.mod_eq_of_lt hi]
theorem farF_times {f : List (List Rat)} (hF : FarF f) {u : Rat} (hu : 0 < u) : checkFar (timesF u f) = 0 := by
 obtain ⟨hf, hp, hd, h1, h64⟩ := symF_of hF.chk
 rw [timesF_mat hf]
 refine matF_check h1 h64 (fun i hi => by rw [hd i hi, Rat.zero_mul]) (fun i k hi hk => Rat.mul_nonneg (hp i k hi hk) (Rat.le_of_lt hu)) (fun i k hi hk => by rw [hf.sym i k hi hk])
def Apart (v u : Value) : Prop := ∀ b, v.ownBlock = some b → u.ownBlock ≠ some b
theorem Apart.symm {v u : Value} (h : Apart v u) : Apart u v := fun b h1 h2 => h b h2 h1
theorem Apart.nil (u : Value) : Apart (.slice none 0 0) u := fun b h => by cases h
theorem Apart.grew {w w' : World} {v v' u : Value} (h : Apart v u) (hg : Grew w w' v v') (hu : ∀ b, u.ownBlock = some b → b < w.heap.size) : Apart v' u := fun b h1 h2 => by
 rcases hg.own b h1 with h3 | h3
 ·exact h b h3 h2
 ·exact absurd (hu b h2) (by omega)
theorem OwnW.aside {α : Type} {w w' : World} {e : TypeId} {k : Nat} {f : α → List Value} {v u : Value} {l : List α} (h : OwnW w e k f v l) (ho : Only1 w w' u) (hd : Apart v u) : OwnW w' e k f v l := by
 refine ⟨h.1, ?_⟩
 rcases h.2 with h3 | ⟨g, cap, cur, h3, h4, h5, h6⟩
 ·exact .inl h3
 ·exact .inr ⟨g, cap, cur, h3, h4, (ho.block g (h.lt g (by rw [h3]; rfl)) (fun e2 => hd g (by rw [h3]; rfl) e2.symm)).trans h5, h6⟩
theorem Own.aside {α : Type} {w w' : World} {e : TypeId} {f : α → Value} {v u : Value} {l : List α} (h : Own w e f v l) (ho : Only1 w w' u) (hd : Apart v u) : Own w' e f v l := by
 refine ⟨h.1, ?_⟩
 rcases h.2 with h3 | ⟨g, cap, cur, h3, h4, h5, h6⟩
 ·exact .inl h3
 ·exact .inr ⟨g, cap, cur, h3, h4, (ho.block g (h.lt g (by rw [h3]; rfl)) (fun e2 => hd g (by rw [h3]; rfl) e2.symm)).trans h5, h6⟩
theorem OwnQQ.aside {T T' : TypeId} {β : Type} {w w' : World} {f' : β → Value} {v u : Value} {bl : List (List Rat)} {rl : List β} (hT : 56 ≠ T') (h : OwnS T OwnQ w v bl) (h' : Own w T' f' u rl) (ho : Only1 w w' u) (hd : Apart v u) : OwnS T OwnQ w' v bl := by
 obtain ⟨sl, h1, h2, h3⟩ := h
 exact ⟨sl, Own.aside h1 ho hd, h2, fun i r b hr hb => (h3 i r b hr hb).only h' hT ho⟩
theorem OwnS.own {β : Type} {T : TypeId} {I : World → Value → β → Prop} {w : World} {v : Value} {bl : List β} (h : OwnS T I w v bl) : ∃ rl, Own w T SW.v v rl := by
 obtain ⟨rl, h1, -⟩ := h
 exact ⟨rl, h1⟩
theorem matF_take {m i : Nat} {d : Nat → Nat → Rat} (hi : i < m) : (matF m d).take (i + 1) = (matF m d).take i ++ [(List.range m).map fun k => d i k] := by
 rw [List.take_add_one]
 congr 1
 unfold matF
 rw [List.getElem?_map, List.getElem?_range hi]
 rfl
theorem tdiv_bound {z q : Int} (h : z.tdiv 9 = q) (hz : I64 z) : I64 q := by
 have h1 := Int.mul_tdiv_add_tmod z 9
 have h2 := Int.tmod_lt_of_pos z (show (0 : Int) < 9 by omega)
 have h3 := Int.lt_tmod_of_pos z (show (0 : Int) < 9 by omega)
 rw [h] at h1
 have := hz.1
 have := hz.2
 exact ⟨by omega, by omega⟩
theorem unit_facts : ∀ p, p < 9 → ∀ q, q < 5 → 0 < Rat.divInt ((p + 1 : Nat) : Int) ((q + 1 : Nat) : Int) ∧ QS 4 (Rat.divInt ((p + 1 : Nat) : Int) ((q + 1 : Nat) : Int)) := by
 unfold QS
 decide +kernel
theorem stepW' {α : Type} {P : Program} {ops : Array Oper} {o : Oper} {a : Act} {K : Act → World → Prop} {Q : Exit → Act → World → Prop} {Z : Prop} {t e : TypeId} {z : Value} {k bytes : Nat} {f : α → List Value} (E : EltW P t e z k bytes) (hk : 0 < k) (hgd : o.guard = none) (s x : Operand)
  (ho : o.op = .call { callee := .builtin .append, args := #[s, x], argTypes := #[t, t] })
  (w : World) (v : Value) (l : List α) (B : Nat) (A : Option Addr) (n c : Nat) (l2 : List α) (hs : a.eval s = v) (hown : OwnW w e k f v l) (hx : a.eval x = .slice A n c)
  (hr : ReadsW w B k f A n l2) (hone : ∀ m, ∀ u ∈ f m, u.oneCell' = true) (h63 : l.length + n ≤ maxLen) (hb : (l.length + n) * bytes ≤ 140737488355328)
  (h : ∀ v' w1, OwnW w1 e k f v' (l ++ l2) → Grew w w1 v v' → K (a.put o.dst v') w1) : if Region.wanted o (yielded ops a.tmps) = true then Oper.wp P o a w K Q else Z := by
 obtain ⟨i0, hi0, hz0, hz1, hz2⟩ := info_parts E.info
 refine step_append_any _ hgd s x t ho 0 e i0 z k bytes E.under hi0 hz0 hz1 hz2 E.size hk v l.length (l.flatMap f) hs hown B A n c (l2.flatMap f) hx hr.2
  (by intro u hu; simp at hu; obtain ⟨m, _, hm⟩ := hu; exact hone m u hm) h63 hb (Nat.zero_le _) ?_
 intro v' w' hown' hgr hwh
 refine h v' w' ?_ (Grew.of_grown hgr hwh)
 have hl := hr.len
 unfold OwnW
 rw [List.length_append, List.flatMap_append, hl]
 exact hown'
section
variable {ops : Array Oper} {o : Oper} {a : Act} {K : Act → World → Prop} {Q : Exit → Act → World → Prop} {Z : Prop}
theorem stepQ' (hgd : o.guard = none) (s x : Operand)
  (ho : o.op = .call { callee := .builtin .append, args := #[s, x], argTypes := #[73, 73] })
  (wr : World) (v : Value) (l : List Rat) (q : Rat) (hs : a.eval s = v) (hown : OwnQ wr v l) (hx : a.eval x = .slice (some ⟨wr.heap.size, 0, none⟩) 1 1) (hl : l.length ≤ 1000000)
  (h : ∀ v' w1, OwnQ w1 v' (l ++ [q]) → Grew wr w1 v v' → K (a.put o.dst v') w1) : if Region.wanted o (yielded ops a.tmps) = true then Oper.wp Tryz.prog o a (wr.alloc (.cells #[.bool (decide (q.num < 0)), .int .u64 (lo q.num.natAbs : Int), .string (mo q.num.natAbs), .int .u64 (lo ((qden q)) : Int), .string (mo ((qden q)))] 56)) K Q else Z := by
 refine stepW' Tryz.eltQ (by omega) hgd s x ho _ v l (wr.heap.size + 1) (some ⟨wr.heap.size, 0, none⟩) 1 1 [q] hs (hown.alloc _) hx (readsQ1 wr q) qC_one (by unfold maxLen; omega) (by omega) ?_
 intro v' w1 h1 h2
 refine h v' w1 h1 ?_
 refine ⟨h2.os, h2.tape, h2.output, Nat.le_trans (by simp) h2.size, fun k hk hne => (h2.block k (by simp; omega) hne).trans (Below.heap_alloc wr _ k hk), fun k hk => ?_⟩
 rcases h2.own k hk with h3 | h3
 ·exact .inl h3
 ·exact .inr (by simp at h3; omega)
theorem stepQd (hgd : o.guard = none) (s x : Operand)
  (ho : o.op = .call { callee := .builtin .append, args := #[s, x], argTypes := #[73, 73] })
  (wr : World) (v : Value) (l : List Rat) (q : Rat) (hs : a.eval s = v) (hown : OwnQ wr v l) (hx : a.eval x = .slice (some ⟨wr.heap.size, 0, none⟩) 1 1) (hl : l.length ≤ 1000000)
  (h : ∀ v' w1, OwnQ w1 v' (l ++ [q]) → Grew wr w1 v v' → K (a.put o.dst v') w1) : if Region.wanted o (yielded ops a.tmps) = true then Oper.wp Tryz.prog o a (wr.alloc (.cells #[.bool (decide (q.num < 0)), .int .u64 (lo q.num.natAbs : Int), .string (mo q.num.natAbs), .int .u64 (lo ((qden q)) : Int), .string (mo ((qden q)))] 56)).drew K Q else Z := by
 refine stepW' Tryz.eltQ (by omega) hgd s x ho (wr.alloc (.cells #[.bool (decide (q.num < 0)), .int .u64 (lo q.num.natAbs : Int), .string (mo q.num.natAbs), .int .u64 (lo ((qden q)) : Int), .string (mo ((qden q)))] 56)).drew v l (wr.heap.size + 1) (some ⟨wr.heap.size, 0, none⟩) 1 1 [q] hs ((hown.alloc _).drewN 1) hx (readsQ1 wr q) qC_one (by unfold maxLen; omega) (by omega) ?_
 intro v' w1 h1 h2
 refine h v' w1 h1 ?_
 refine ⟨h2.os, h2.tape, h2.output, Nat.le_trans (by simp) h2.size, fun k hk hne => (h2.block k (by simp; omega) hne).trans (Below.heap_alloc wr _ k hk), fun k hk => ?_⟩
 rcases h2.own k hk with h3 | h3
 ·exact .inl h3
 ·exact .inr (by simp at h3; omega)
end
theorem tmod_nat (x m : Nat) : ((x : Nat) : Int).tmod (m : Int) = ((x % m : Nat) : Int) := by rw [Int.tmod_eq_emod_of_nonneg (by omega)]; rfl
theorem tdiv_nat (x m : Nat) : ((x : Nat) : Int).tdiv (m : Int) = ((x / m : Nat) : Int) := by rw [Int.tdiv_eq_ediv_of_nonneg (by omega)]; rfl
theorem tmod_sum (i t m : Nat) : ((i : Int) + (t : Int)).tmod (m : Int) = (((i + t) % m : Nat) : Int) := by rw [← Int.natCast_add]; exact tmod_nat _ _
theorem OwnQ.form3 {w : World} {v : Value} {l : List Rat} (h : OwnQ w v l) : ∃ A c, v = .slice A l.length c := by
 obtain ⟨A, c, h1, -⟩ := OwnW.form h
 exact ⟨A, c, h1⟩
theorem OwnQ.formN {w : World} {v : Value} {l : List Rat} {n : Nat} (h : OwnQ w v l) (hn : l.length = n) : ∃ A c, v = .slice A n c := by
 obtain ⟨A, c, h1, -⟩ := OwnW.form h
 exact ⟨A, c, by rw [h1, hn]⟩
theorem range_map_snoc (g : Nat → Rat) (i : Nat) : (List.range (i + 1)).map g = (List.range i).map g ++ [g i] := by rw [List.range_succ, List.map_append]; rfl
set_option maxRecDepth 100000 in
set_option maxHeartbeats 40000000 in
theorem linkUnits_walk (A : Option Addr) (n1 c1 : Nat) (zl : List Int) (zn zw zh zy zt za zb : Int) (w : World) (h1 : ArgZ w A n1 c1 zl) (hn : I64 zn) (hz : I64 zw) (hh : I64 zh) (h4 : I64 zy) (h5 : I64 zt) (h6 : I64 za) (h7 : I64 zb) (hT : Tab w) :
  Calls Tryz.prog 8 #[.slice A n1 c1, .int .i64 zn, .int .i64 zw, .int .i64 zh, .int .i64 zy, .int .i64 zt, .int .i64 za, .int .i64 zb] w (Ret (.bool true) w) := by
 obtain ⟨k0, hk0, hp0⟩ := pick_of zh 3 w hh.1 hh.2 (by omega) (by omega)
 obtain ⟨how, hhow⟩ : ∃ how, k0 + 1 = how := ⟨_, rfl⟩
 have e1 : (k0 : Int) + 1 = (how : Int) := by omega
 obtain ⟨f, hF, hdr⟩ := law_drawn A n1 c1 zl zn zw w h1 hn hz
 have hlj := lj_of how hF
 have HDR := Lib.hid (fun w' => hdr how w' (by omega))
 obtain ⟨l, hl⟩ : ∃ l, buildJ how f = l := ⟨_, rfl⟩
 rw [hl] at hlj HDR
 obtain ⟨m, hm⟩ : ∃ m, f.length = m := ⟨_, rfl⟩
 obtain ⟨nj, hnj⟩ : ∃ nj, l.length = nj := ⟨_, rfl⟩
 have hm1 := hF.one
 have hm7 := hF.most
 have hlen := hlj.len
 rw [hm] at hm1 hm7 hlen
 rw [hnj] at hlen
 obtain ⟨p0, hp01, hpy⟩ := pick_of zy 9 w h4.1 h4.2 (by omega) (by omega)
 obtain ⟨zq, hzq⟩ : ∃ zq, zy.tdiv 9 = zq := ⟨_, rfl⟩
 have h4q := tdiv_bound hzq h4
 obtain ⟨q0, hq01, hpq⟩ := pick_of zq 5 w h4q.1 h4q.2 (by omega) (by omega)
 obtain ⟨t, ht, hpt⟩ := pick_of zt m w h5.1 h5.2 (by omega) (by omega)
 obtain ⟨a, ha, hpa⟩ := pick_of za m w h6.1 h6.2 (by omega) (by omega)
 obtain ⟨b, hb, hpb⟩ := pick_of zb m w h7.1 h7.2 (by omega) (by omega)
 obtain ⟨p1, hp1⟩ : ∃ p1, p0 + 1 = p1 := ⟨_, rfl⟩
 obtain ⟨q1, hq1⟩ : ∃ q1, q0 + 1 = q1 := ⟨_, rfl⟩
 have e2 : (p0 : Int) + 1 = (p1 : Int) := by omega
 have e3 : (q0 : Int) + 1 = (q1 : Int) := by omega
 have hov := fun w => ref_over (p1 : Int) (q1 : Int) w (by omega) (by omega) (by omega) (by omega) (by omega)
 have huf := unit_facts p0 hp01 q0 hq01
 rw [hp1, hq1] at huf
 obtain ⟨u, hu⟩ : ∃ u, Rat.divInt (p1 : Int) (q1 : Int) = u := ⟨_, rfl⟩
 rw [hu] at hov huf
 obtain ⟨hu0, hqu⟩ := huf
 have hw9 : wrap64 zq = zq := IntWalk.wrap64_in _ h4q
 have HP := Lib.hid hp0
 have HPY := Lib.hid hpy
 have HPQ := Lib.hid hpq
 have HPT := Lib.hid hpt
 have HPA := Lib.hid hpa
 have HPB := Lib.hid hpb
 have HOV := Lib.hid hov
 have HT := Lib.hid hT
 have HM := Lib.hid hm
 have HNJ := Lib.hid hnj
 have HJ := Lib.hid hlj
 have HF := Lib.hid hF
 have HL := Lib.hid hl
 have HU0 := Lib.hid hu0
 have HQU := Lib.hid hqu
 have HHOW : Hid (how = 1 ∨ how = 2 ∨ how = 3) := Lib.hid (by omega)
 clear hp0 hdr h1 hn hz hh hF hT hhow h4 h5 h6 h7 hpy hpq hpt hpa hpb hm hnj hlj hov hl h4q hu0 hqu hu hp1 hq1
 go_enter Tryz.func8, Tryz.ntmps8
 go_wp2_with fail
 refine (HP.out _).mono ?_
 rintro e w1 ⟨rfl, rfl⟩
 go_wp2_with fail
 refine (HDR.out _ HT.out (Below.refl _ _)).mono ?_
 rintro e w1 ⟨vf, vj, rfl, hof, hoj, -, hb1⟩
 obtain ⟨A3, c3, rfl⟩ := OwnS.form hof
 obtain ⟨A4, c4, hv, -⟩ := OwnW.form hoj
 subst hv
 rw [HNJ.out] at hoj
 rw [HM.out] at hof
 rw [HM.out, HNJ.out]
 obtain ⟨gf, rfl⟩ := OwnS.addr hof (by rw [HM.out]; omega)
 have HB1 := Lib.hid hb1
 have HF1 := Lib.hid hof
 have HJ1 := Lib.hid hoj
 clear hof hoj hb1 HDR HP
 go_upto_region 5 with fail
 go_cut [20] from 54 to 62 (fun p wc => ∃ g0, p = .pointer (some ⟨g0, 0, none⟩) ∧ Blk wc g0 56 #[.bool (decide (u.num < 0)), .int .u64 (lo u.num.natAbs : Int), .string (mo u.num.natAbs), .int .u64 (lo ((qden u)) : Int), .string (mo ((qden u)))] ∧ Below w1.heap.size w1 wc)
 case first =>
  go_wp2_with fail
  refine (HPY.out _).mono ?_
  rintro e wd ⟨rfl, rfl⟩
  go_wp2_with fail
  refine (HPQ.out _).mono ?_
  rintro e wd ⟨rfl, rfl⟩
  go_wp2_with fail
  refine (HOV.out _).mono ?_
  rintro e wd ⟨V, rfl, hR, hbd⟩
  obtain ⟨g5, A5, l5, c5, A5', l5', c5', rfl⟩ := hR.shape
  have hin := hand_in u wd.heap.size _ wd hR (Nat.le_refl _) (HQU.out.mono (by omega)) (HT.out.next (bthen HB1.out hbd))
  unfold qV at hin
  have HIN := Lib.hid hin
  have HBD := Lib.hid hbd
  clear hin hR hbd
  go_wp2_with fail
  refine HIN.out.mono ?_
  rintro e we ⟨rfl, hbe⟩
  have HBE := Lib.hid (bthen (bthen HBD.out hbe) (balloc1 we (.cells #[.bool (decide (u.num < 0)), .int .u64 (lo u.num.natAbs : Int), .string (mo u.num.natAbs), .int .u64 (lo ((qden u)) : Int), .string (mo ((qden u)))] 56)))
  clear hbe
  go_wp2
  go_meet
  exact ⟨we.heap.size, rfl, Blk.new we 56 #[.bool (decide (u.num < 0)), .int .u64 (lo u.num.natAbs : Int), .string (mo u.num.natAbs), .int .u64 (lo ((qden u)) : Int), .string (mo ((qden u)))], HBE.out⟩
 case rest =>
 obtain ⟨g0, rfl, b0, hb2⟩ := hcut
 rename World => w2
 have HF2 := Lib.hid (OwnS.next Tryz.kindQQ HF1.out hb2)
 have HJ2 := Lib.hid (OwnW.next HJ1.out hb2)
 have HB2 := Lib.hid (bthen HB1.out hb2)
 have HBOX := Lib.hid b0
 clear hb2 b0 HF1 HJ1 HB1 HPY HPQ HOV
 go_wp2_with fail
 refine (HPT.out _).mono ?_
 rintro e wd ⟨rfl, rfl⟩
 clear HPT
 have hdx : ∃ dx : Nat → Nat → Rat, (fun i k => dOf f i k * u) = dx := ⟨_, rfl⟩
 obtain ⟨dx, hdx⟩ := hdx
 have hdy : ∃ dy : Nat → Nat → Rat, (fun i k => dOf f ((i + t) % m) ((k + t) % m)) = dy := ⟨_, rfl⟩
 obtain ⟨dy, hdy⟩ := hdy
 have HDX := Lib.hid hdx
 have HDY := Lib.hid hdy
 clear hdx hdy
 go_wp2_with fail
 go_loopw [23, 24, 25, 26] (fun vx vy va vi wr => ∃ (i : Nat) (al : Bool), i ≤ m ∧ vi = .int .i64 ((i : Nat) : Int) ∧ va = .bool al ∧ OwnQQ wr vx ((matF m dx).take i) ∧ OwnQQ wr vy ((matF m dy).take i) ∧ Apart vx vy ∧ Hid (∀ b, vx.ownBlock = some b → w2.heap.size ≤ b) ∧ Hid (∀ b, vy.ownBlock = some b → w2.heap.size ≤ b) ∧ Below w2.heap.size w2 wr) (fun _ _ _ p _ => m - (intOf p).toNat)
 case atStart => exact ⟨0, false, by omega, rfl, rfl, OwnS.nil _ _ _, OwnS.nil _ _ _, Apart.nil _, Lib.hid (fun b h => by cases h), Lib.hid (fun b h => by cases h), Below.refl _ _⟩
 case round =>
  obtain ⟨i, al, hi, rfl, rfl, hox, hoy, hap, hfx, hfy, hbw⟩ := hrel
  rename World => wr
  by_cases him : i < m
  ·have k1 : (i : Int) < (m : Int) := by omega
   have HX := Lib.hid hox
   have HY := Lib.hid hoy
   have HAP := Lib.hid hap
   have HBW := Lib.hid hbw
   clear hox hoy hap hbw
   go_wp2_with fail
   go_loopw [25, 27, 28, 29] (fun va vp vq vk wi => ∃ (k : Nat) (al : Bool), k ≤ m ∧ vk = .int .i64 ((k : Nat) : Int) ∧ va = .bool al ∧ OwnQ wi vp ((List.range k).map fun k => dx i k) ∧ OwnQ wi vq ((List.range k).map fun k => dy i k) ∧ Apart vp vq ∧ Hid (∀ b, vp.ownBlock = some b → wr.heap.size ≤ b) ∧ Hid (∀ b, vq.ownBlock = some b → wr.heap.size ≤ b) ∧ Below wr.heap.size wr wi) (fun _ _ _ p _ => m - (intOf p).toNat)
   case atStart => exact ⟨0, al, by omega, rfl, rfl, OwnW.nil_ _ _ _ _, OwnW.nil_ _ _ _ _, Apart.nil _, Lib.hid (fun b h => by cases h), Lib.hid (fun b h => by cases h), Below.refl _ _⟩
   case round =>
    obtain ⟨k, al2, hk, rfl, rfl, hop, hoq, hapq, hfp, hfq, hbi⟩ := hrel
    rename World => wi
    by_cases hkm : k < m
    ·have k2 : (k : Int) < (m : Int) := by omega
     obtain ⟨gr, cr, d2, d1⟩ := far_at (a := i) (b := k) (OwnS.next Tryz.kindQQ HF2.out HBW.out) HJ.out.sym (by rw [HM.out]; exact him) (by rw [HM.out]; exact hkm)
     rw [HM.out] at d2
     have hqx : QS 47 (dOf f i k) := dOf_QS HF.out.qs (by omega) i k
     have hdx : dOf f i k * u = dx i k := by rw [← HDX.out]
     have d0 := HBOX.out.below HBW.out HBOX.out.lt
     obtain ⟨x, hx⟩ : ∃ x, dOf f i k = x := ⟨_, rfl⟩
     obtain ⟨z, hz⟩ : ∃ z, dx i k = z := ⟨_, rfl⟩
     rw [hx] at hqx hdx d1
     rw [hz] at hdx
     have b0 := d0.below hbi d0.lt
     have b1 := d1.below hbi d1.lt
     have b2 := d2.below hbi d2.lt
     have D0 := Lib.hid d0
     have D1 := Lib.hid d1
     have D2 := Lib.hid d2
     have hmu := fun w' (hb : Below wi.heap.size wi w') => frac_mul x u w' (hqx.mono (by omega)) (HQU.out.mono (by omega)) (HT.out.next (bthen (HB2.out.trans ((HBW.out.trans (hbi.mono HBW.out.size)).mono HB2.out.size)) hb))
     rw [hdx] at hmu
     unfold qV at hmu
     have HMU := Lib.hid hmu
     have HOP := Lib.hid hop
     have HOQ := Lib.hid hoq
     have HAQ := Lib.hid hapq
     have HBI := Lib.hid hbi
     have HSN := Lib.hid (range_map_snoc (fun k => dx i k) k)
     have HZ := Lib.hid hz
     have HLP : Hid (((List.range k).map fun k => dx i k).length ≤ 1000000) := Lib.hid (by rw [List.length_map, List.length_range]; omega)
     have HQX := Lib.hid hqx
     clear hmu hop hoq hapq hbi hqx hdx hx hz d0 d1 d2
     go_upto_region 17 with fail
     go_cut [27] from 78 to 89 (fun v wc => OwnQ wc v ((List.range (k + 1)).map fun k => dx i k) ∧ (∃ w5, Below wi.heap.size wi w5 ∧ Grew w5 wc u27 v))
     case first =>
      obtain ⟨b0q0, b0q1, b0q2, b0q3, b0q4⟩ := b0.c5; have c0 := b0.drew; have c0l := c0.lt; obtain ⟨b1q0, b1q1, b1q2, b1q3, b1q4⟩ := b1.c5; have c1 := b1.drew; have c1l := c1.lt; obtain ⟨b2q0, b2q1⟩ := b2.c2; have c2 := b2.drew; have c2l := c2.lt; have hc := bdrew0 wi; go_region_held3 (fun w' => w'.cell? ⟨g0, 0, none⟩ = some (.bool (decide (u.num < 0))) ∧ w'.cell? ⟨g0, 1, none⟩ = some (.int .u64 (lo u.num.natAbs : Int)) ∧ w'.cell? ⟨g0, 2, none⟩ = some (.string (mo u.num.natAbs)) ∧ w'.cell? ⟨g0, 3, none⟩ = some (.int .u64 (lo ((qden u)) : Int)) ∧ w'.cell? ⟨g0, 4, none⟩ = some (.string (mo ((qden u)))) ∧ w'.cell? ⟨gr, k * 5, none⟩ = some (.bool (decide (x.num < 0))) ∧ w'.cell? ⟨gr, k * 5 + 1, none⟩ = some (.int .u64 (lo x.num.natAbs : Int)) ∧ w'.cell? ⟨gr, k * 5 + 2, none⟩ = some (.string (mo x.num.natAbs)) ∧ w'.cell? ⟨gr, k * 5 + 3, none⟩ = some (.int .u64 (lo ((qden x)) : Int)) ∧ w'.cell? ⟨gr, k * 5 + 4, none⟩ = some (.string (mo ((qden x)))) ∧ w'.cell? ⟨gf, i, none⟩ = some (.slice (some ⟨gr, 0, none⟩) m cr)) (go_keep) (first | (go_at_call 37; (with_reducible refine (HMU.out _ hc).mono ?_); rintro e w1 ⟨rfl, hw1⟩; have c0 := c0.below hw1 c0.lt; (try clear c0q0 c0q1 c0q2 c0q3 c0q4); obtain ⟨c0q0, c0q1, c0q2, c0q3, c0q4⟩ := c0.c5; (try clear c0l); have c0l := c0.lt; have c1 := c1.below hw1 c1.lt; (try clear c1q0 c1q1 c1q2 c1q3 c1q4); obtain ⟨c1q0, c1q1, c1q2, c1q3, c1q4⟩ := c1.c5; (try clear c1l); have c1l := c1.lt; have c2 := c2.below hw1 c2.lt; (try clear c2q0 c2q1); obtain ⟨c2q0, c2q1⟩ := c2.c2; (try clear c2l); have c2l := c2.lt; have hc := bthen hc hw1) | (refine stepQ' rfl (.tmp 78) (.tmp 88) rfl w1 _ ((List.range k).map fun k => dx i k) z (by simp [Act.eval, Act.put]) (HOP.out.next hc) (by simp [Act.eval, Act.put]) HLP.out ?_; intro v7 w7 ho7 hg7; have h7 := (HBI.out.trans (hc.mono HBI.out.size)).trans (hg7.below (Nat.le_trans HBI.out.size hc.size) hfp.out); have HO7 := Lib.hid ho7; have HG7 := Lib.hid hg7; have H7 := Lib.hid h7; clear c0q0 c0q1 c0q2 c0q3 c0q4 c1q0 c1q1 c1q2 c1q3 c1q4 c2q0; have c0 := D0.out.below h7 D0.out.lt; have c1 := D1.out.below h7 D1.out.lt; have c2 := D2.out.below h7 D2.out.lt; obtain ⟨c0q0, c0q1, c0q2, c0q3, c0q4⟩ := c0.c5; obtain ⟨c1q0, c1q1, c1q2, c1q3, c1q4⟩ := c1.c5; obtain ⟨c2q0, -⟩ := c2.c2; clear ho7 hg7 h7))
      all_goals
       go_wp2
       go_meet
       refine ⟨by rw [HSN.out, HZ.out]; exact HO7.out, w1, hc, HG7.out⟩
     case rest =>
     rename World => w7
     obtain ⟨ho7, w5, hw5, hg7⟩ := hcut
     have hoq5 := HOQ.out.next hw5
     have hoq7 := OwnW.aside hoq5 (Only1.of hg7) HAQ.out.symm
     have hap7 := HAQ.out.grew hg7 hoq5.lt
     have hfp7 := Lib.hid (hg7.fresh (B := wr.heap.size) (Nat.le_trans HBI.out.size hw5.size) hfp.out)
     have hb7 := (HBI.out.trans (hw5.mono HBI.out.size)).trans (hg7.below (Nat.le_trans HBI.out.size hw5.size) hfp.out)
     obtain ⟨s1, hs1⟩ : ∃ s1, (i + t) % m = s1 := ⟨_, rfl⟩
     obtain ⟨s2, hs2⟩ : ∃ s2, (k + t) % m = s2 := ⟨_, rfl⟩
     obtain ⟨a1, ha1⟩ : ∃ a1, i + t = a1 := ⟨_, rfl⟩
     obtain ⟨a2, ha2⟩ : ∃ a2, k + t = a2 := ⟨_, rfl⟩
     have e9 : (i : Int) + (t : Int) = (a1 : Int) := by omega
     have e10 : (k : Int) + (t : Int) = (a2 : Int) := by omega
     have e5 := tmod_nat a1 m
     have e6 := tmod_nat a2 m
     rw [← ha1, hs1] at e5
     rw [← ha2, hs2] at e6
     rw [ha1] at e5
     rw [ha2] at e6
     have hs1m : s1 < m := by rw [← hs1]; exact mod_lt' hm1 _
     have hs2m : s2 < m := by rw [← hs2]; exact mod_lt' hm1 _
     have e7 : (s1 : Int) < (m : Int) := by omega
     have e8 : (s2 : Int) < (m : Int) := by omega
     have g1 : IntKind.i64.wrap (a1 : Int) = (a1 : Int) := IntWalk.i64_in _ (by omega)
     have g2 : IntKind.i64.wrap (a2 : Int) = (a2 : Int) := IntWalk.i64_in _ (by omega)
     have g3 : IntKind.i64.wrap (s1 : Int) = (s1 : Int) := IntWalk.i64_in _ (by omega)
     have g4 : IntKind.i64.wrap (s2 : Int) = (s2 : Int) := IntWalk.i64_in _ (by omega)
     have g5 : wrap64 (a1 : Int) = (a1 : Int) := IntWalk.wrap64_in _ (by omega)
     have g6 : wrap64 (a2 : Int) = (a2 : Int) := IntWalk.wrap64_in _ (by omega)
     have g7 : wrap64 (s1 : Int) = (s1 : Int) := IntWalk.wrap64_in _ (by omega)
     have g8 : wrap64 (s2 : Int) = (s2 : Int) := IntWalk.wrap64_in _ (by omega)
     obtain ⟨gr2, cr2, d4, d3⟩ := far_at (a := s1) (b := s2) (OwnS.next Tryz.kindQQ HF2.out HBW.out) HJ.out.sym (by rw [HM.out]; exact hs1m) (by rw [HM.out]; exact hs2m)
     rw [HM.out] at d4
     have hdy : dOf f s1 s2 = dy i k := by rw [← HDY.out, ← hs1, ← hs2]
     obtain ⟨y, hy⟩ : ∃ y, dy i k = y := ⟨_, rfl⟩
     rw [hdy, hy] at d3
     have D3 := Lib.hid d3
     have D4 := Lib.hid d4
     have d3 := d3.below hb7 d3.lt
     have d4 := d4.below hb7 d4.lt
     have HSN2 := Lib.hid (range_map_snoc (fun k => dy i k) k)
     have HY9 := Lib.hid hy
     have HLQ : Hid (((List.range k).map fun k => dy i k).length ≤ 1000000) := Lib.hid (by rw [List.length_map, List.length_range]; omega)
     have HP7 := Lib.hid ho7
     have HQ7 := Lib.hid hoq7
     have HA7 := Lib.hid hap7
     have HB7 := Lib.hid hb7
     have hS1 := Lib.hid hs1
     have hS2 := Lib.hid hs2
     clear ho7 hoq5 hoq7 hap7 hb7 hw5 hg7 hs1 hs2 ha1 ha2 hdy hy HOP HOQ HAQ HBI b0 b1 b2
     have hz0 : ((m : Int) == 0) = false := by simp; omega
     have hz1 : ¬ (m : Int) = 0 := by omega
     have hz2 : ¬ m = 0 := by omega
     obtain ⟨M, hM⟩ : ∃ M, m * m = M := ⟨_, rfl⟩
     have eM : (m : Int) * (m : Int) = (M : Int) := by rw [← hM]; exact (Int.natCast_mul m m).symm
     have hM49 : M ≤ 49 := by rw [← hM]; exact Nat.mul_le_mul hm7 hm7
     have HMM := Lib.hid hM
     clear hM
     go_upto_region 18 with fail
     go_cut [28] from 90 to 107 (fun v wc => OwnQ wc v ((List.range (k + 1)).map fun k => dy i k) ∧ (∃ w5, Below w7.heap.size w7 w5 ∧ Grew w5 wc u28 v))
     case first =>
      obtain ⟨d3q0, d3q1, d3q2, d3q3, d3q4⟩ := d3.c5; have c3 := d3.drew; have c3l := c3.lt; obtain ⟨d4q0, d4q1⟩ := d4.c2; have c4 := d4.drew; have c4l := c4.lt; have hc := bdrew0 w7; go_region_held3 (fun w' => w'.cell? ⟨gr2, s2 * 5, none⟩ = some (.bool (decide (y.num < 0))) ∧ w'.cell? ⟨gr2, s2 * 5 + 1, none⟩ = some (.int .u64 (lo y.num.natAbs : Int)) ∧ w'.cell? ⟨gr2, s2 * 5 + 2, none⟩ = some (.string (mo y.num.natAbs)) ∧ w'.cell? ⟨gr2, s2 * 5 + 3, none⟩ = some (.int .u64 (lo ((qden y)) : Int)) ∧ w'.cell? ⟨gr2, s2 * 5 + 4, none⟩ = some (.string (mo ((qden y)))) ∧ w'.cell? ⟨gf, s1, none⟩ = some (.slice (some ⟨gr2, 0, none⟩) m cr2)) (go_keep) (first | (refine stepQd rfl (.tmp 90) (.tmp 106) rfl w7 _ ((List.range k).map fun k => dy i k) y (by simp [Act.eval, Act.put]) HQ7.out (by simp [Act.eval, Act.put]) HLQ.out ?_; intro v8 w8 ho8 hg8; have h8 := HB7.out.trans (hg8.below HB7.out.size hfq.out); have HO8 := Lib.hid ho8; have HG8 := Lib.hid hg8; clear d3q0 d3q1 d3q2 d3q3 d3q4 d4q0; have c3 := D3.out.below h8 D3.out.lt; have c4 := D4.out.below h8 D4.out.lt; obtain ⟨c3q0, c3q1, c3q2, c3q3, c3q4⟩ := c3.c5; obtain ⟨c4q0, -⟩ := c4.c2; clear ho8 hg8 h8) | (refine stepQ' rfl (.tmp 90) (.tmp 106) rfl w7.drew _ ((List.range k).map fun k => dy i k) y (by simp [Act.eval, Act.put]) (HQ7.out.next hc) (by simp [Act.eval, Act.put]) HLQ.out ?_; intro v8 w8 ho8 hg8; have h8 := (HB7.out.trans (hc.mono HB7.out.size)).trans (hg8.below (Nat.le_trans HB7.out.size hc.size) hfq.out); have HO8 := Lib.hid ho8; have HG8 := Lib.hid hg8; clear d3q0 d3q1 d3q2 d3q3 d3q4 d4q0; have c3 := D3.out.below h8 D3.out.lt; have c4 := D4.out.below h8 D4.out.lt; obtain ⟨c3q0, c3q1, c3q2, c3q3, c3q4⟩ := c3.c5; obtain ⟨c4q0, -⟩ := c4.c2; clear ho8 hg8 h8))
      all_goals
       go_wp2
       go_meet
       first
        | exact ⟨by rw [HSN2.out, HY9.out]; exact HO8.out, w7, Below.refl _ _, HG8.out⟩
        | exact ⟨by rw [HSN2.out, HY9.out]; exact HO8.out, w7.drew, hc, HG8.out⟩
     case rest =>
     rename World => w8
     obtain ⟨ho8, w5', hw5', hg8⟩ := hcut
     have HQ75 := Lib.hid (HQ7.out.next hw5')
     have HP75 := Lib.hid (HP7.out.next hw5')
     have HO8 := Lib.hid ho8
     have HG8 := Lib.hid hg8
     have HB7 := Lib.hid (HB7.out.trans (hw5'.mono HB7.out.size))
     clear ho8 hg8 hw5' HQ7 HP7 d3 d4
     have HP8 := Lib.hid (OwnW.aside HP75.out (Only1.of HG8.out) HA7.out)
     have HA8 := Lib.hid ((HA7.out.symm.grew HG8.out HP75.out.lt).symm)
     have hfq8 := Lib.hid (HG8.out.fresh (B := wr.heap.size) HB7.out.size hfq.out)
     have HB8 := Lib.hid (HB7.out.trans (HG8.out.below HB7.out.size hfq.out))
     clear HP75 HA7 HG8 HB7 HQ75 e5 e6 e7 e8 e9 e10 g1 g2 g3 g4 g5 g6 g7 g8
     go_wp2_with fail
     go_loopw [25, 30] (fun va vr wz => ∃ (r : Nat) (al : Bool), r ≤ M ∧ vr = .int .i64 ((r : Nat) : Int) ∧ va = .bool al ∧ Below w8.heap.size w8 wz) (fun _ p _ => M - (intOf p).toNat)
     case atStart => exact ⟨0, al2, by omega, rfl, rfl, Below.refl _ _⟩
     case round =>
      obtain ⟨r, al3, hr, rfl, rfl, hbz⟩ := hrel
      rename World => wz
      by_cases hrm : r < M
      ·as_aux_lemma =>
       have k3 : (r : Int) < (M : Int) := by omega
       have hr9 : r + 1 ≤ M := by omega
       have hm9 : M - (r + 1) < M - r := by omega
       obtain ⟨r1, hr1⟩ : ∃ r1, r / m = r1 := ⟨_, rfl⟩
       obtain ⟨r2, hr2⟩ : ∃ r2, r % m = r2 := ⟨_, rfl⟩
       have e5 := tdiv_nat r m
       have e6 := tmod_nat r m
       rw [hr1] at e5
       rw [hr2] at e6
       have hr1m : r1 < m := by rw [← hr1]; exact Nat.div_lt_of_lt_mul (by rw [HMM.out]; exact hrm)
       have hr2m : r2 < m := by rw [← hr2]; exact mod_lt' hm1 _
       have e7 : (r1 : Int) < (m : Int) := by omega
       have e8 : (r2 : Int) < (m : Int) := by omega
       have g1 : IntKind.i64.wrap (r1 : Int) = (r1 : Int) := IntWalk.i64_in _ (by omega)
       have g2 : IntKind.i64.wrap (r2 : Int) = (r2 : Int) := IntWalk.i64_in _ (by omega)
       have g3 : wrap64 (r1 : Int) = (r1 : Int) := IntWalk.wrap64_in _ (by omega)
       have g4 : wrap64 (r2 : Int) = (r2 : Int) := IntWalk.wrap64_in _ (by omega)
       obtain ⟨gr3, cr3, d6, d5⟩ := far_at (a := r1) (b := r2) (OwnS.next Tryz.kindQQ HF2.out HBW.out) HJ.out.sym (by rw [HM.out]; exact hr1m) (by rw [HM.out]; exact hr2m)
       rw [HM.out] at d6
       have hqz : QS 47 (dOf f r1 r2) := dOf_QS HF.out.qs (by omega) r1 r2
       obtain ⟨x3, hx3⟩ : ∃ x3, dOf f r1 r2 = x3 := ⟨_, rfl⟩
       rw [hx3] at d5 hqz
       have hbwz := HB8.out.trans (hbz.mono HB8.out.size)
       have b1 := D1.out.below hbwz D1.out.lt
       have b2 := D2.out.below hbwz D2.out.lt
       have b3 := d5.below hbwz d5.lt
       have b4 := d6.below hbwz d6.lt
       have hcm := fun w => frac_cmp x x3 w (HQX.out.mono (by omega)) (hqz.mono (by omega))
       generalize cmpQ x x3 = cv at *
       unfold qV at hcm
       have HCM := Lib.hid hcm
       have HBZ := Lib.hid hbz
       have hS3 := Lib.hid hr1
       have hS4 := Lib.hid hr2
       clear hcm hbz hbwz hqz hx3 d5 d6 hr1 hr2
       clear hS3 hS4 HX HY HAP D0 D1 D2 D3 D4 HSN HSN2 HY9 HLP HLQ hS1 hS2 HP8 HA8 hfp7 hfq8 HPA HPB HNJ HL HU0 HQU HHOW HJ2 hfx hfy HBOX HZ HMU HO8 HB8 HDX HDY hfp hfq HQX HMM
       go_upto_region 22 with fail
       cases al3 with
       | true =>
        clear b1 b2 b3 b4
        go_quiet (fail)
        go_wp2
        exact ⟨⟨r + 1, _, hr9, by go_num, rfl, HBZ.out.trans ((bdrewN (Below.refl _ _) _).mono HBZ.out.size)⟩, by simp [intOf]; first | exact hm9 | omega⟩
       | false =>
        by_cases q1 : i < k
        ·have f1 : (i : Int) < (k : Int) := Int.ofNat_lt.2 q1
         have f1' : decide ((i : Int) < (k : Int)) = true := decide_eq_true f1
         by_cases q2 : r1 < r2
         ·have f2 : (r1 : Int) < (r2 : Int) := Int.ofNat_lt.2 q2
          have f2' : decide ((r1 : Int) < (r2 : Int)) = true := decide_eq_true f2
          by_cases q3 : r1 = i
          ·have f3 : ((r1 : Int) == (i : Int)) = true := beq_iff_eq.2 (congrArg _ q3)
           have f3' : ((r1 : Int) != (i : Int)) = false := by rw [bne, f3]; rfl
           have f3'' : (r1 == i) = true := beq_iff_eq.2 q3
           by_cases q4 : r2 = k
           ·have f4 : ((r2 : Int) == (k : Int)) = true := beq_iff_eq.2 (congrArg _ q4)
            have f4' : ((r2 : Int) != (k : Int)) = false := by rw [bne, f4]; rfl
            have f4'' : (r2 == k) = true := beq_iff_eq.2 q4
            have hq3 := Lib.hid q3
            have hq4 := Lib.hid q4
            clear q3 q4 b1 b2 b3 b4
            go_quiet (fail)
            go_wp2
            exact ⟨⟨r + 1, _, hr9, by go_num, rfl, HBZ.out.trans ((bdrewN (Below.refl _ _) _).mono HBZ.out.size)⟩, by simp [intOf]; first | exact hm9 | omega⟩
           ·have f4 : ((r2 : Int) == (k : Int)) = false := beq_eq_false_iff_ne.2 fun h => q4 (Int.ofNat_inj.1 h)
            have f4' : ((r2 : Int) != (k : Int)) = true := by rw [bne, f4]; rfl
            have f4'' : (r2 == k) = false := beq_eq_false_iff_ne.2 q4
            have f4c : ¬ (r2 : Int) = (k : Int) := fun h => q4 (Int.ofNat_inj.1 h)
            have hq3 := Lib.hid q3
            clear q3
            obtain ⟨b1q0, b1q1, b1q2, b1q3, b1q4⟩ := b1.c5; have c1 := b1.drew; have c1l := c1.lt; obtain ⟨b2q0, b2q1⟩ := b2.c2; have c2 := b2.drew; have c2l := c2.lt; obtain ⟨b3q0, b3q1, b3q2, b3q3, b3q4⟩ := b3.c5; have c3 := b3.drew; have c3l := c3.lt; obtain ⟨b4q0, b4q1⟩ := b4.c2; have c4 := b4.drew; have c4l := c4.lt; have hc := bdrew0 wz; go_region_held3 (fun w' => w'.cell? ⟨gr, k * 5, none⟩ = some (.bool (decide (x.num < 0))) ∧ w'.cell? ⟨gr, k * 5 + 1, none⟩ = some (.int .u64 (lo x.num.natAbs : Int)) ∧ w'.cell? ⟨gr, k * 5 + 2, none⟩ = some (.string (mo x.num.natAbs)) ∧ w'.cell? ⟨gr, k * 5 + 3, none⟩ = some (.int .u64 (lo ((qden x)) : Int)) ∧ w'.cell? ⟨gr, k * 5 + 4, none⟩ = some (.string (mo ((qden x)))) ∧ w'.cell? ⟨gf, i, none⟩ = some (.slice (some ⟨gr, 0, none⟩) m cr) ∧ w'.cell? ⟨gr3, r2 * 5, none⟩ = some (.bool (decide (x3.num < 0))) ∧ w'.cell? ⟨gr3, r2 * 5 + 1, none⟩ = some (.int .u64 (lo x3.num.natAbs : Int)) ∧ w'.cell? ⟨gr3, r2 * 5 + 2, none⟩ = some (.string (mo x3.num.natAbs)) ∧ w'.cell? ⟨gr3, r2 * 5 + 3, none⟩ = some (.int .u64 (lo ((qden x3)) : Int)) ∧ w'.cell? ⟨gr3, r2 * 5 + 4, none⟩ = some (.string (mo ((qden x3)))) ∧ w'.cell? ⟨gf, r1, none⟩ = some (.slice (some ⟨gr3, 0, none⟩) m cr3)) (go_keep) (first | (go_at_call 29; (with_reducible refine (HCM.out _).mono ?_); rintro e w1 ⟨rfl, hw1⟩; have c1 := c1.below hw1 c1.lt; (try clear c1q0 c1q1 c1q2 c1q3 c1q4); obtain ⟨c1q0, c1q1, c1q2, c1q3, c1q4⟩ := c1.c5; (try clear c1l); have c1l := c1.lt; have c2 := c2.below hw1 c2.lt; (try clear c2q0 c2q1); obtain ⟨c2q0, c2q1⟩ := c2.c2; (try clear c2l); have c2l := c2.lt; have c3 := c3.below hw1 c3.lt; (try clear c3q0 c3q1 c3q2 c3q3 c3q4); obtain ⟨c3q0, c3q1, c3q2, c3q3, c3q4⟩ := c3.c5; (try clear c3l); have c3l := c3.lt; have c4 := c4.below hw1 c4.lt; (try clear c4q0 c4q1); obtain ⟨c4q0, c4q1⟩ := c4.c2; (try clear c4l); have c4l := c4.lt; have hc := bthen hc hw1))
            all_goals
             go_wp2
             exact ⟨⟨r + 1, _, hr9, by go_num, rfl, HBZ.out.trans (hc.mono HBZ.out.size)⟩, by simp [intOf]; first | exact hm9 | omega⟩
          ·have f3 : ((r1 : Int) == (i : Int)) = false := beq_eq_false_iff_ne.2 fun h => q3 (Int.ofNat_inj.1 h)
           have f3' : ((r1 : Int) != (i : Int)) = true := by rw [bne, f3]; rfl
           have f3'' : (r1 == i) = false := beq_eq_false_iff_ne.2 q3
           have f3c : ¬ (r1 : Int) = (i : Int) := fun h => q3 (Int.ofNat_inj.1 h)
           obtain ⟨x0, x1, x2, x3, x4⟩ := b1.c5
           obtain ⟨y0, -⟩ := b2.c2
           obtain ⟨v0, v1, v2, v3, v4⟩ := b3.c5
           obtain ⟨z0, -⟩ := b4.c2
           clear b1 b2 b3 b4
           refine wp_region_any (by kernel_rfl) ?_; (try (change wpAny _ _ _ _ _ _ _ (World.drew _))); refine wpAny_take (i := 0) (v := ?_) rfl (by kernel_rfl) (by kernel_rfl) (by kernel_rfl) (fun _ _ _ h => h) (Or.inl ⟨by rfl, ?_⟩) ?_; rotate_left; (focus (intro w; go_simp; try with_reducible rfl)); go_simp; refine wpAny_take (i := 1) (v := ?_) rfl (by kernel_rfl) (by kernel_rfl) (by kernel_rfl) (fun _ _ _ h => h) (Or.inl ⟨by rfl, ?_⟩) ?_; rotate_left; (focus (intro w; go_simp; try with_reducible rfl)); go_simp; refine wpAny_take (i := 2) (v := ?_) rfl (by kernel_rfl) (by kernel_rfl) (by kernel_rfl) (fun _ _ _ h => h) (Or.inl ⟨by rfl, ?_⟩) ?_; rotate_left; (focus (intro w; go_simp; try with_reducible rfl)); go_simp; refine wpAny_take (i := 3) (v := ?_) rfl (by kernel_rfl) (by kernel_rfl) (by kernel_rfl) (fun _ _ _ h => h) (Or.inl ⟨by rfl, ?_⟩) ?_; rotate_left; (focus (intro w; go_simp; try with_reducible rfl)); go_simp; refine wpAny_take (i := 4) (v := ?_) rfl (by kernel_rfl) (by kernel_rfl) (by kernel_rfl) (fun _ _ _ h => h) (Or.inl ⟨by rfl, ?_⟩) ?_; rotate_left; (focus (intro w; go_simp; try with_reducible rfl)); go_simp; refine wpAny_take (i := 5) (v := ?_) rfl (by kernel_rfl) (by kernel_rfl) (by kernel_rfl) (fun _ _ _ h => h) (Or.inl ⟨by rfl, ?_⟩) ?_; rotate_left; (focus (intro w; go_simp; try with_reducible rfl)); go_simp; refine wpAny_take (i := 6) (v := ?_) rfl (by kernel_rfl) (by kernel_rfl) (by kernel_rfl) (fun _ _ _ h => h) (Or.inl ⟨by rfl, ?_⟩) ?_; rotate_left; (focus (intro w; go_simp; try with_reducible rfl)); go_simp; refine wpAny_take (i := 7) (v := ?_) rfl (by kernel_rfl) (by kernel_rfl) (by kernel_rfl) (fun _ _ _ h => h) (Or.inl ⟨by rfl, ?_⟩) ?_; rotate_left; (focus (intro w; go_simp; try with_reducible rfl)); go_simp; refine wpAny_take (i := 8) (v := ?_) rfl (by kernel_rfl) (by kernel_rfl) (by kernel_rfl) (fun _ _ _ h => h) (Or.inl ⟨by rfl, ?_⟩) ?_; rotate_left; (focus (intro w; go_simp; try with_reducible rfl)); go_simp; refine wpAny_take (i := 9) (v := ?_) rfl (by kernel_rfl) (by kernel_rfl) (by kernel_rfl) (fun _ _ _ h => h) (Or.inl ⟨by rfl, ?_⟩) ?_; rotate_left; (focus (intro w; go_simp; try with_reducible rfl)); go_simp; refine wpAny_take (i := 10) (v := ?_) rfl (by kernel_rfl) (by kernel_rfl) (by kernel_rfl) (fun _ _ _ h => h) (Or.inl ⟨by rfl, ?_⟩) ?_; rotate_left; (focus (intro w; go_simp; try with_reducible rfl)); go_simp; refine wpAny_take (i := 11) (v := ?_) rfl (by kernel_rfl) (by kernel_rfl) (by kernel_rfl) (fun _ _ _ h => h) (Or.inl ⟨by rfl, ?_⟩) ?_; rotate_left; (focus (intro w; go_simp; try with_reducible rfl)); go_simp; refine wpAny_take (i := 12) (v := ?_) rfl (by kernel_rfl) (by kernel_rfl) (by kernel_rfl) (fun _ _ _ h => h) (Or.inl ⟨by rfl, ?_⟩) ?_; rotate_left; (focus (intro w; go_simp; try with_reducible rfl)); go_simp; refine wpAny_take (i := 13) (v := ?_) rfl (by kernel_rfl) (by kernel_rfl) (by kernel_rfl) (fun _ _ _ h => h) (Or.inl ⟨by rfl, ?_⟩) ?_; rotate_left; (focus (intro w; go_simp; try with_reducible rfl)); go_simp; refine wpAny_take (i := 14) (v := ?_) rfl (by kernel_rfl) (by kernel_rfl) (by kernel_rfl) (fun _ _ _ h => h) (Or.inl ⟨by rfl, ?_⟩) ?_; rotate_left; (focus (intro w; go_simp; try with_reducible rfl)); go_simp; refine wpAny_take (i := 15) (v := ?_) rfl (by kernel_rfl) (by kernel_rfl) (by kernel_rfl) (fun _ _ _ h => h) (Or.inl ⟨by rfl, ?_⟩) ?_; rotate_left; (focus (intro w; go_simp; try with_reducible rfl)); go_simp; refine wpAny_take (i := 16) (v := ?_) rfl (by kernel_rfl) (by kernel_rfl) (by kernel_rfl) (fun _ _ _ h => h) (Or.inl ⟨by rfl, ?_⟩) ?_; rotate_left; (focus (intro w; go_simp; try with_reducible rfl)); go_simp; refine wpAny_take (i := 17) (v := ?_) rfl (by kernel_rfl) (by kernel_rfl) (by kernel_rfl) (fun _ _ _ h => h) (Or.inl ⟨by rfl, ?_⟩) ?_; rotate_left; (focus (intro w; go_simp; try with_reducible rfl)); go_simp; refine wpAny_take (i := 18) (v := ?_) rfl (by kernel_rfl) (by kernel_rfl) (by kernel_rfl) (fun _ _ _ h => h) (Or.inl ⟨by rfl, ?_⟩) ?_; rotate_left; (focus (intro w; go_simp; try with_reducible rfl)); go_simp; refine wpAny_take (i := 19) (v := ?_) rfl (by kernel_rfl) (by kernel_rfl) (by kernel_rfl) (fun _ _ _ h => h) (Or.inl ⟨by rfl, ?_⟩) ?_; rotate_left; (focus (intro w; go_simp; try with_reducible rfl)); go_simp; refine wpAny_take (i := 20) (v := ?_) rfl (by kernel_rfl) (by kernel_rfl) (by kernel_rfl) (fun _ _ _ h => h) (Or.inl ⟨by rfl, ?_⟩) ?_; rotate_left; (focus (intro w; go_simp; try with_reducible rfl)); go_simp; refine wpAny_take (i := 21) (v := undef) rfl (by kernel_rfl) (by kernel_rfl) (by kernel_rfl) (fun _ _ _ h => h) (Or.inr ⟨by rfl, rfl⟩) ?_; go_simp; refine wpAny_take (i := 22) (v := undef) rfl (by kernel_rfl) (by kernel_rfl) (by kernel_rfl) (fun _ _ _ h => h) (Or.inr ⟨by rfl, rfl⟩) ?_; go_simp; refine wpAny_take (i := 23) (v := undef) rfl (by kernel_rfl) (by kernel_rfl) (by kernel_rfl) (fun _ _ _ h => h) (Or.inr ⟨by rfl, rfl⟩) ?_; go_simp; refine wpAny_take (i := 24) (v := undef) rfl (by kernel_rfl) (by kernel_rfl) (by kernel_rfl) (fun _ _ _ h => h) (Or.inr ⟨by rfl, rfl⟩) ?_; go_simp; refine wpAny_take (i := 25) (v := undef) rfl (by kernel_rfl) (by kernel_rfl) (by kernel_rfl) (fun _ _ _ h => h) (Or.inr ⟨by rfl, rfl⟩) ?_; go_simp; refine wpAny_take (i := 26) (v := ?_) rfl (by kernel_rfl) (by kernel_rfl) (by kernel_rfl) (fun _ _ _ h => h) (Or.inl ⟨by rfl, ?_⟩) ?_; rotate_left; (focus (intro w; go_simp; try with_reducible rfl)); go_simp; refine wpAny_take (i := 27) (v := ?_) rfl (by kernel_rfl) (by kernel_rfl) (by kernel_rfl) (fun _ _ _ h => h) (Or.inl ⟨by rfl, ?_⟩) ?_; rotate_left; (focus (intro w; go_simp; try with_reducible rfl)); go_simp; refine wpAny_take (i := 28) (v := ?_) rfl (by kernel_rfl) (by kernel_rfl) (by kernel_rfl) (fun _ _ _ h => h) (Or.inl ⟨by rfl, ?_⟩) ?_; rotate_left; (focus (intro w; go_simp; try with_reducible rfl)); go_simp; refine wpAny_take (i := 29) (v := ?_) rfl (by kernel_rfl) (by kernel_rfl) (by kernel_rfl) (fun _ _ _ h => h) (Or.inl ⟨by rfl, ?_⟩) ?_; rotate_left; (focus (intro w; go_simp; try with_reducible rfl)); go_simp; refine wpAny_take (i := 30) (v := ?_) rfl (by kernel_rfl) (by kernel_rfl) (by kernel_rfl) (fun _ _ _ h => h) (Or.inl ⟨by rfl, ?_⟩) ?_; rotate_left; (focus (intro w; go_simp; try with_reducible rfl)); go_simp; refine wpAny_take (i := 31) (v := ?_) rfl (by kernel_rfl) (by kernel_rfl) (by kernel_rfl) (fun _ _ _ h => h) (Or.inl ⟨by rfl, ?_⟩) ?_; rotate_left; (focus (intro w; go_simp; try with_reducible rfl)); go_simp; refine wpAny_take (i := 33) (v := ?_) rfl (by kernel_rfl) (by kernel_rfl) (by kernel_rfl) (fun _ _ _ h => h) (Or.inl ⟨by rfl, ?_⟩) ?_; rotate_left; (focus (intro w; go_simp; try with_reducible rfl)); go_simp; refine wpAny_take (i := 36) (v := ?_) rfl (by kernel_rfl) (by kernel_rfl) (by kernel_rfl) (fun _ _ _ h => h) (Or.inl ⟨by rfl, ?_⟩) ?_; rotate_left; (focus (intro w; go_simp; try with_reducible rfl)); go_simp; refine wpAny_take (i := 37) (v := ?_) rfl (by kernel_rfl) (by kernel_rfl) (by kernel_rfl) (fun _ _ _ h => h) (Or.inl ⟨by rfl, ?_⟩) ?_; rotate_left; (focus (intro w; go_simp; try with_reducible rfl)); go_simp; refine wpAny_take (i := 38) (v := ?_) rfl (by kernel_rfl) (by kernel_rfl) (by kernel_rfl) (fun _ _ _ h => h) (Or.inl ⟨by rfl, ?_⟩) ?_; rotate_left; (focus (intro w; go_simp; try with_reducible rfl)); go_simp; refine wpAny_take (i := 39) (v := ?_) rfl (by kernel_rfl) (by kernel_rfl) (by kernel_rfl) (fun _ _ _ h => h) (Or.inl ⟨by rfl, ?_⟩) ?_; rotate_left; (focus (intro w; go_simp; try with_reducible rfl)); go_simp; refine wpAny_take (i := 40) (v := ?_) rfl (by kernel_rfl) (by kernel_rfl) (by kernel_rfl) (fun _ _ _ h => h) (Or.inl ⟨by rfl, ?_⟩) ?_; rotate_left; (focus (intro w; go_simp; try with_reducible rfl)); go_simp; refine wpAny_take (i := 42) (v := ?_) rfl (by kernel_rfl) (by kernel_rfl) (by kernel_rfl) (fun _ _ _ h => h) (Or.inl ⟨by rfl, ?_⟩) ?_; rotate_left; (focus (intro w; go_simp; try with_reducible rfl)); go_simp; refine wpAny_take (i := 43) (v := ?_) rfl (by kernel_rfl) (by kernel_rfl) (by kernel_rfl) (fun _ _ _ h => h) (Or.inl ⟨by rfl, ?_⟩) ?_; rotate_left; (focus (intro w; go_simp; try with_reducible rfl)); go_simp; refine wpAny_take (i := 44) (v := ?_) rfl (by kernel_rfl) (by kernel_rfl) (by kernel_rfl) (fun _ _ _ h => h) (Or.inl ⟨by rfl, ?_⟩) ?_; rotate_left; (focus (intro w; go_simp; try with_reducible rfl)); go_simp; refine wpAny_ready (rs := [32, 41]) (by kernel_rfl) (by simp) ?_; refine AllReady.cons rfl (fun K hK => ?_) (AllReady.cons rfl (fun K hK => ?_) AllReady.nil); (focus (go_simp; refine hK _ _ ?_; clear hK K; refine wpAny_take (i := 34) (v := ?_) rfl (by kernel_rfl) (by kernel_rfl) (by kernel_rfl) (fun _ _ _ h => h) (Or.inl ⟨by rfl, ?_⟩) ?_; rotate_left; (focus (intro w; go_simp; try with_reducible rfl)); go_simp; refine wpAny_ready (rs := [35, 41]) (by kernel_rfl) (by simp) ?_; refine AllReady.cons rfl (fun K hK => ?_) (AllReady.cons rfl (fun K hK => ?_) AllReady.nil); (focus (go_simp; refine hK _ _ ?_; clear hK K; refine wpAny_ready (rs := [41]) (by kernel_rfl) (by simp) ?_; refine AllReady.cons rfl (fun K hK => ?_) AllReady.nil; go_simp; refine hK _ _ ?_; clear hK K; refine wpAny_take (i := 45) (v := ?_) rfl (by kernel_rfl) (by kernel_rfl) (by kernel_rfl) (fun _ _ _ h => h) (Or.inl ⟨by rfl, ?_⟩) ?_; rotate_left; (focus (intro w; go_simp; try with_reducible rfl)); go_simp; refine wpAny_ready (rs := [46]) (by kernel_rfl) (by simp) ?_; refine AllReady.cons rfl (fun K hK => ?_) AllReady.nil; go_simp; refine hK _ _ ?_; clear hK K; refine wpAny_ready (rs := [47]) (by kernel_rfl) (by simp) ?_; refine AllReady.cons rfl (fun K hK => ?_) AllReady.nil; go_simp; go_wp2_with (go_at_call 29; (with_reducible refine (HCM.out _).mono ?_); rintro e w6 ⟨rfl, hw6⟩; have hc := bthen (bdrew0 wz) hw6); refine wpAny_take (i := 48) (v := ?_) rfl (by kernel_rfl) (by kernel_rfl) (by kernel_rfl) (fun _ _ _ h => h) (Or.inl ⟨by rfl, ?_⟩) ?_; rotate_left; (focus (intro w; go_simp; try with_reducible rfl)); go_simp; refine wpAny_take (i := 49) (v := ?_) rfl (by kernel_rfl) (by kernel_rfl) (by kernel_rfl) (fun _ _ _ h => h) (Or.inl ⟨by rfl, ?_⟩) ?_; rotate_left; (focus (intro w; go_simp; try with_reducible rfl)); go_simp; refine wpAny_take (i := 50) (v := ?_) rfl (by kernel_rfl) (by kernel_rfl) (by kernel_rfl) (fun _ _ _ h => h) (Or.inl ⟨by rfl, ?_⟩) ?_; rotate_left; (focus (intro w; go_simp; try with_reducible rfl)); go_simp; refine wpAny_take (i := 51) (v := ?_) rfl (by kernel_rfl) (by kernel_rfl) (by kernel_rfl) (fun _ _ _ h => h) (Or.inl ⟨by rfl, ?_⟩) ?_; rotate_left; (focus (intro w; go_simp; try with_reducible rfl)); go_simp; refine wpAny_done (by kernel_rfl) ?_ _; go_wp2; exact ⟨⟨r + 1, _, hr9, by go_num, rfl, HBZ.out.trans (hc.mono HBZ.out.size)⟩, by simp [intOf]; first | exact hm9 | omega⟩)); (focus (go_simp; refine hK _ _ ?_; clear hK K; refine wpAny_take (i := 45) (v := ?_) rfl (by kernel_rfl) (by kernel_rfl) (by kernel_rfl) (fun _ _ _ h => h) (Or.inl ⟨by rfl, ?_⟩) ?_; rotate_left; (focus (intro w; go_simp; try with_reducible rfl)); go_simp; refine wpAny_ready (rs := [35, 46]) (by kernel_rfl) (by simp) ?_; refine AllReady.cons rfl (fun K hK => ?_) (AllReady.cons rfl (fun K hK => ?_) AllReady.nil); (focus (go_simp; refine hK _ _ ?_; clear hK K; refine wpAny_ready (rs := [46]) (by kernel_rfl) (by simp) ?_; refine AllReady.cons rfl (fun K hK => ?_) AllReady.nil; go_simp; refine hK _ _ ?_; clear hK K; refine wpAny_ready (rs := [47]) (by kernel_rfl) (by simp) ?_; refine AllReady.cons rfl (fun K hK => ?_) AllReady.nil; go_simp; go_wp2_with (go_at_call 29; (with_reducible refine (HCM.out _).mono ?_); rintro e w6 ⟨rfl, hw6⟩; have hc := bthen (bdrew0 wz) hw6); refine wpAny_take (i := 48) (v := ?_) rfl (by kernel_rfl) (by kernel_rfl) (by kernel_rfl) (fun _ _ _ h => h) (Or.inl ⟨by rfl, ?_⟩) ?_; rotate_left; (focus (intro w; go_simp; try with_reducible rfl)); go_simp; refine wpAny_take (i := 49) (v := ?_) rfl (by kernel_rfl) (by kernel_rfl) (by kernel_rfl) (fun _ _ _ h => h) (Or.inl ⟨by rfl, ?_⟩) ?_; rotate_left; (focus (intro w; go_simp; try with_reducible rfl)); go_simp; refine wpAny_take (i := 50) (v := ?_) rfl (by kernel_rfl) (by kernel_rfl) (by kernel_rfl) (fun _ _ _ h => h) (Or.inl ⟨by rfl, ?_⟩) ?_; rotate_left; (focus (intro w; go_simp; try with_reducible rfl)); go_simp; refine wpAny_take (i := 51) (v := ?_) rfl (by kernel_rfl) (by kernel_rfl) (by kernel_rfl) (fun _ _ _ h => h) (Or.inl ⟨by rfl, ?_⟩) ?_; rotate_left; (focus (intro w; go_simp; try with_reducible rfl)); go_simp; refine wpAny_done (by kernel_rfl) ?_ _; go_wp2; exact ⟨⟨r + 1, _, hr9, by go_num, rfl, HBZ.out.trans (hc.mono HBZ.out.size)⟩, by simp [intOf]; first | exact hm9 | omega⟩)); (focus (go_simp; refine hK _ _ ?_; clear hK K; refine wpAny_ready (rs := [35]) (by kernel_rfl) (by simp) ?_; refine AllReady.cons rfl (fun K hK => ?_) AllReady.nil; go_simp; refine hK _ _ ?_; clear hK K; refine wpAny_ready (rs := [47]) (by kernel_rfl) (by simp) ?_; refine AllReady.cons rfl (fun K hK => ?_) AllReady.nil; go_simp; go_wp2_with (go_at_call 29; (with_reducible refine (HCM.out _).mono ?_); rintro e w6 ⟨rfl, hw6⟩; have hc := bthen (bdrew0 wz) hw6); refine wpAny_take (i := 48) (v := ?_) rfl (by kernel_rfl) (by kernel_rfl) (by kernel_rfl) (fun _ _ _ h => h) (Or.inl ⟨by rfl, ?_⟩) ?_; rotate_left; (focus (intro w; go_simp; try with_reducible rfl)); go_simp; refine wpAny_take (i := 49) (v := ?_) rfl (by kernel_rfl) (by kernel_rfl) (by kernel_rfl) (fun _ _ _ h => h) (Or.inl ⟨by rfl, ?_⟩) ?_; rotate_left; (focus (intro w; go_simp; try with_reducible rfl)); go_simp; refine wpAny_take (i := 50) (v := ?_) rfl (by kernel_rfl) (by kernel_rfl) (by kernel_rfl) (fun _ _ _ h => h) (Or.inl ⟨by rfl, ?_⟩) ?_; rotate_left; (focus (intro w; go_simp; try with_reducible rfl)); go_simp; refine wpAny_take (i := 51) (v := ?_) rfl (by kernel_rfl) (by kernel_rfl) (by kernel_rfl) (fun _ _ _ h => h) (Or.inl ⟨by rfl, ?_⟩) ?_; rotate_left; (focus (intro w; go_simp; try with_reducible rfl)); go_simp; refine wpAny_done (by kernel_rfl) ?_ _; go_wp2; exact ⟨⟨r + 1, _, hr9, by go_num, rfl, HBZ.out.trans (hc.mono HBZ.out.size)⟩, by simp [intOf]; first | exact hm9 | omega⟩)))))); (focus (go_simp; refine hK _ _ ?_; clear hK K; refine wpAny_take (i := 45) (v := ?_) rfl (by kernel_rfl) (by kernel_rfl) (by kernel_rfl) (fun _ _ _ h => h) (Or.inl ⟨by rfl, ?_⟩) ?_; rotate_left; (focus (intro w; go_simp; try with_reducible rfl)); go_simp; refine wpAny_ready (rs := [32, 46]) (by kernel_rfl) (by simp) ?_; refine AllReady.cons rfl (fun K hK => ?_) (AllReady.cons rfl (fun K hK => ?_) AllReady.nil); (focus (go_simp; refine hK _ _ ?_; clear hK K; refine wpAny_take (i := 34) (v := ?_) rfl (by kernel_rfl) (by kernel_rfl) (by kernel_rfl) (fun _ _ _ h => h) (Or.inl ⟨by rfl, ?_⟩) ?_; rotate_left; (focus (intro w; go_simp; try with_reducible rfl)); go_simp; refine wpAny_ready (rs := [35, 46]) (by kernel_rfl) (by simp) ?_; refine AllReady.cons rfl (fun K hK => ?_) (AllReady.cons rfl (fun K hK => ?_) AllReady.nil); (focus (go_simp; refine hK _ _ ?_; clear hK K; refine wpAny_ready (rs := [46]) (by kernel_rfl) (by simp) ?_; refine AllReady.cons rfl (fun K hK => ?_) AllReady.nil; go_simp; refine hK _ _ ?_; clear hK K; refine wpAny_ready (rs := [47]) (by kernel_rfl) (by simp) ?_; refine AllReady.cons rfl (fun K hK => ?_) AllReady.nil; go_simp; go_wp2_with (go_at_call 29; (with_reducible refine (HCM.out _).mono ?_); rintro e w6 ⟨rfl, hw6⟩; have hc := bthen (bdrew0 wz) hw6); refine wpAny_take (i := 48) (v := ?_) rfl (by kernel_rfl) (by kernel_rfl) (by kernel_rfl) (fun _ _ _ h => h) (Or.inl ⟨by rfl, ?_⟩) ?_; rotate_left; (focus (intro w; go_simp; try with_reducible rfl)); go_simp; refine wpAny_take (i := 49) (v := ?_) rfl (by kernel_rfl) (by kernel_rfl) (by kernel_rfl) (fun _ _ _ h => h) (Or.inl ⟨by rfl, ?_⟩) ?_; rotate_left; (focus (intro w; go_simp; try with_reducible rfl)); go_simp; refine wpAny_take (i := 50) (v := ?_) rfl (by kernel_rfl) (by kernel_rfl) (by kernel_rfl) (fun _ _ _ h => h) (Or.inl ⟨by rfl, ?_⟩) ?_; rotate_left; (focus (intro w; go_simp; try with_reducible rfl)); go_simp; refine wpAny_take (i := 51) (v := ?_) rfl (by kernel_rfl) (by kernel_rfl) (by kernel_rfl) (fun _ _ _ h => h) (Or.inl ⟨by rfl, ?_⟩) ?_; rotate_left; (focus (intro w; go_simp; try with_reducible rfl)); go_simp; refine wpAny_done (by kernel_rfl) ?_ _; go_wp2; exact ⟨⟨r + 1, _, hr9, by go_num, rfl, HBZ.out.trans (hc.mono HBZ.out.size)⟩, by simp [intOf]; first | exact hm9 | omega⟩)); (focus (go_simp; refine hK _ _ ?_; clear hK K; refine wpAny_ready (rs := [35]) (by kernel_rfl) (by simp) ?_; refine AllReady.cons rfl (fun K hK => ?_) AllReady.nil; go_simp; refine hK _ _ ?_; clear hK K; refine wpAny_ready (rs := [47]) (by kernel_rfl) (by simp) ?_; refine AllReady.cons rfl (fun K hK => ?_) AllReady.nil; go_simp; go_wp2_with (go_at_call 29; (with_reducible refine (HCM.out _).mono ?_); rintro e w6 ⟨rfl, hw6⟩; have hc := bthen (bdrew0 wz) hw6); refine wpAny_take (i := 48) (v := ?_) rfl (by kernel_rfl) (by kernel_rfl) (by kernel_rfl) (fun _ _ _ h => h) (Or.inl ⟨by rfl, ?_⟩) ?_; rotate_left; (focus (intro w; go_simp; try with_reducible rfl)); go_simp; refine wpAny_take (i := 49) (v := ?_) rfl (by kernel_rfl) (by kernel_rfl) (by kernel_rfl) (fun _ _ _ h => h) (Or.inl ⟨by rfl, ?_⟩) ?_; rotate_left; (focus (intro w; go_simp; try with_reducible rfl)); go_simp; refine wpAny_take (i := 50) (v := ?_) rfl (by kernel_rfl) (by kernel_rfl) (by kernel_rfl) (fun _ _ _ h => h) (Or.inl ⟨by rfl, ?_⟩) ?_; rotate_left; (focus (intro w; go_simp; try with_reducible rfl)); go_simp; refine wpAny_take (i := 51) (v := ?_) rfl (by kernel_rfl) (by kernel_rfl) (by kernel_rfl) (fun _ _ _ h => h) (Or.inl ⟨by rfl, ?_⟩) ?_; rotate_left; (focus (intro w; go_simp; try with_reducible rfl)); go_simp; refine wpAny_done (by kernel_rfl) ?_ _; go_wp2; exact ⟨⟨r + 1, _, hr9, by go_num, rfl, HBZ.out.trans (hc.mono HBZ.out.size)⟩, by simp [intOf]; first | exact hm9 | omega⟩)))); (focus (go_simp; refine hK _ _ ?_; clear hK K; refine wpAny_ready (rs := [32]) (by kernel_rfl) (by simp) ?_; refine AllReady.cons rfl (fun K hK => ?_) AllReady.nil; go_simp; refine hK _ _ ?_; clear hK K; refine wpAny_take (i := 34) (v := ?_) rfl (by kernel_rfl) (by kernel_rfl) (by kernel_rfl) (fun _ _ _ h => h) (Or.inl ⟨by rfl, ?_⟩) ?_; rotate_left; (focus (intro w; go_simp; try with_reducible rfl)); go_simp; refine wpAny_ready (rs := [35]) (by kernel_rfl) (by simp) ?_; refine AllReady.cons rfl (fun K hK => ?_) AllReady.nil; go_simp; refine hK _ _ ?_; clear hK K; refine wpAny_ready (rs := [47]) (by kernel_rfl) (by simp) ?_; refine AllReady.cons rfl (fun K hK => ?_) AllReady.nil; go_simp; go_wp2_with (go_at_call 29; (with_reducible refine (HCM.out _).mono ?_); rintro e w6 ⟨rfl, hw6⟩; have hc := bthen (bdrew0 wz) hw6); refine wpAny_take (i := 48) (v := ?_) rfl (by kernel_rfl) (by kernel_rfl) (by kernel_rfl) (fun _ _ _ h => h) (Or.inl ⟨by rfl, ?_⟩) ?_; rotate_left; (focus (intro w; go_simp; try with_reducible rfl)); go_simp; refine wpAny_take (i := 49) (v := ?_) rfl (by kernel_rfl) (by kernel_rfl) (by kernel_rfl) (fun _ _ _ h => h) (Or.inl ⟨by rfl, ?_⟩) ?_; rotate_left; (focus (intro w; go_simp; try with_reducible rfl)); go_simp; refine wpAny_take (i := 50) (v := ?_) rfl (by kernel_rfl) (by kernel_rfl) (by kernel_rfl) (fun _ _ _ h => h) (Or.inl ⟨by rfl, ?_⟩) ?_; rotate_left; (focus (intro w; go_simp; try with_reducible rfl)); go_simp; refine wpAny_take (i := 51) (v := ?_) rfl (by kernel_rfl) (by kernel_rfl) (by kernel_rfl) (fun _ _ _ h => h) (Or.inl ⟨by rfl, ?_⟩) ?_; rotate_left; (focus (intro w; go_simp; try with_reducible rfl)); go_simp; refine wpAny_done (by kernel_rfl) ?_ _; go_wp2; exact ⟨⟨r + 1, _, hr9, by go_num, rfl, HBZ.out.trans (hc.mono HBZ.out.size)⟩, by simp [intOf]; first | exact hm9 | omega⟩))))
         ·have f2 : ¬ (r1 : Int) < (r2 : Int) := fun h => q2 (Int.ofNat_lt.1 h)
          have f2' : decide ((r1 : Int) < (r2 : Int)) = false := decide_eq_false f2
          clear b1 b2 b3 b4
          go_quiet (fail)
          go_wp2
          exact ⟨⟨r + 1, _, hr9, by go_num, rfl, HBZ.out.trans ((bdrewN (Below.refl _ _) _).mono HBZ.out.size)⟩, by simp [intOf]; first | exact hm9 | omega⟩
        ·have f1 : ¬ (i : Int) < (k : Int) := fun h => q1 (Int.ofNat_lt.1 h)
         have f1' : decide ((i : Int) < (k : Int)) = false := decide_eq_false f1
         clear b1 b2 b3 b4
         go_quiet (fail)
         go_wp2
         exact ⟨⟨r + 1, _, hr9, by go_num, rfl, HBZ.out.trans ((bdrewN (Below.refl _ _) _).mono HBZ.out.size)⟩, by simp [intOf]; first | exact hm9 | omega⟩
      ·as_aux_lemma =>
       obtain rfl : r = M := by omega
       have k3 : ¬ (r : Int) < (r : Int) := by omega
       have HP9 := Lib.hid (HP8.out.next hbz)
       have HQ9 := Lib.hid (HO8.out.next hbz)
       have HB9 := Lib.hid (HB8.out.trans (hbz.mono HB8.out.size))
       clear hbz
       go_wp2
       exact ⟨⟨k + 1, al3, by omega, by go_num, rfl, HP9.out, HQ9.out, HA8.out, hfp7, hfq8, HB9.out⟩, by simp [intOf]; omega⟩
    ·as_aux_lemma =>
     obtain rfl : k = m := by omega
     have k2 : ¬ (k : Int) < (k : Int) := by omega
     have hX := OwnS.next Tryz.kindQQ HX.out hbi
     have hY := OwnS.next Tryz.kindQQ HY.out hbi
     obtain ⟨Ap, cp, rfl⟩ := OwnQ.formN hop (n := k) (by simp)
     obtain ⟨Aq, cq, rfl⟩ := OwnQ.formN hoq (n := k) (by simp)
     obtain ⟨rx, hrx⟩ := OwnS.own hX
     have htx := Lib.hid (matF_take (d := dx) him)
     have hty := Lib.hid (matF_take (d := dy) him)
     have HLX : Hid (((matF k dx).take i).length ≤ 1000000) := Lib.hid (by rw [List.length_take, matF_len]; omega)
     have HLY : Hid (((matF k dy).take i).length ≤ 1000000) := Lib.hid (by rw [List.length_take, matF_len]; omega)
     have HX := Lib.hid hX
     have HY := Lib.hid hY
     have HP := Lib.hid hop
     have HQ := Lib.hid hoq
     have HBI := Lib.hid hbi
     have HRX := Lib.hid hrx
     clear hX hY hop hoq hapq hfp hfq hbi hrx
     go_upto_region 23 with fail
     go_cut [23] from 166 to 169 (fun v wc => OwnQQ wc v ((matF k dx).take (i + 1)) ∧ Grew wi wc u23 v)
     case first =>
      go_wp2_with (at_builtin; refine appS Tryz.kindQQ Tryz.eltQQ rfl (.tmp 166) (.tmp 168) rfl wi _ ((matF k dx).take i) Ap _ cp ((List.range k).map fun j => dx i j) rfl HX.out HP.out rfl HLX.out ?_; intro vx' wx hox' hgx; have HO := Lib.hid hox'; have HG := Lib.hid hgx; clear hox' hgx)
      go_meet
      exact ⟨by rw [htx.out]; exact HO.out, HG.out⟩
     case rest =>
     rename World => wx
     obtain ⟨hox', hgx⟩ := hcut
     have HXX := Lib.hid hox'
     have HGX := Lib.hid hgx
     have HY1 := Lib.hid (OwnQQ.aside (by decide) HY.out HRX.out (Only1.of hgx) HAP.out.symm)
     have HQ1 := Lib.hid (OwnW.only HQ.out HRX.out (by decide) (Only1.of hgx))
     have HA1 := Lib.hid (HAP.out.grew hgx HY.out.lt)
     clear hox' hgx
     obtain ⟨rx1, hrx1⟩ := OwnS.own HY1.out
     have HRY := Lib.hid hrx1
     clear hrx1
     go_wp2_with (at_builtin; refine appS Tryz.kindQQ Tryz.eltQQ rfl (.tmp 170) (.tmp 172) rfl wx _ ((matF k dy).take i) Aq _ cq ((List.range k).map fun j => dy i j) rfl HY1.out HQ1.out rfl HLY.out ?_; intro vy' wy hoy' hgy; have HOY := Lib.hid hoy'; have HGY := Lib.hid hgy; clear hoy' hgy)
     have hx2 := OwnQQ.aside (by decide) HXX.out HRY.out (Only1.of HGY.out) HA1.out
     have ha2 := (HA1.out.symm.grew HGY.out HXX.out.lt).symm
     have hB1 := HBW.out.trans (HBI.out.mono HBW.out.size)
     have hB2 := hB1.trans (HGX.out.below hB1.size hfx.out)
     have hfx2 := HGX.out.fresh (B := w2.heap.size) hB1.size hfx.out
     have hB3 := hB2.trans (HGY.out.below hB2.size hfy.out)
     have hfy2 := HGY.out.fresh (B := w2.heap.size) hB2.size hfy.out
     exact ⟨⟨i + 1, al2, by omega, by go_num, rfl, hx2, by rw [hty.out]; exact HOY.out, ha2, Lib.hid hfx2, Lib.hid hfy2, hB3⟩, by simp [intOf]; omega⟩
  ·as_aux_lemma =>
   obtain rfl : i = m := by omega
   have k1 : ¬ (i : Int) < (i : Int) := by omega
   rw [List.take_of_length_le (by rw [matF_len]; exact Nat.le_refl _)] at hox hoy
   have hfx2 : matF i dx = timesF u f := by rw [timesF_mat HJ.out.sym, HM.out, HDX.out]
   have hfy2 : matF i dy = turnF t f := by unfold turnF; rw [HM.out, HDY.out]
   rw [hfx2] at hox
   rw [hfy2] at hoy
   obtain ⟨Ax, cx, hvx⟩ := OwnS.form hox
   obtain ⟨Ay, cy, hvy⟩ := OwnS.form hoy
   rw [← hfx2, matF_len] at hvx
   rw [← hfy2, matF_len] at hvy
   subst hvx
   subst hvy
   have hqx : ∀ l ∈ timesF u f, ∀ x ∈ l, QS 51 x := by
    rw [← hfx2, ← HDX.out]
    exact matF_mem fun a b ha hb => (dOf_QS HF.out.qs (by omega) a b).mul HQU.out
   have hFt := farF_turn HF.out t
   have hbx := fun w' (hb : Below wr.heap.size wr w') (hT' : Tab w') => link_build Ax i cx 51 how (timesF u f) w' (OwnS.next Tryz.kindQQ hox hb) hm7 (by omega) (by omega) hqx (farF_times HF.out HU0.out) HHOW.out hT'
   have hby := fun w' (hb : Below wr.heap.size wr w') (hT' : Tab w') => link_build Ay i cy 47 how (turnF t f) w' (OwnS.next Tryz.kindQQ hoy hb) hm7 (by omega) (by omega) hFt.qs hFt.chk HHOW.out hT'
   obtain ⟨lx, hlx⟩ : ∃ lx, buildJ how (timesF u f) = lx := ⟨_, rfl⟩
   obtain ⟨ly, hly⟩ : ∃ ly, buildJ how (turnF t f) = ly := ⟨_, rfl⟩
   rw [hlx] at hbx
   rw [hly] at hby
   have hnx : lx.length = nj := by rw [← hlx, buildJ_len, ← hfx2, matF_len]; omega
   have hny : ly.length = nj := by rw [← hly, buildJ_len, ← hfy2, matF_len]; omega
   have HBX := Lib.hid hbx
   have HBY := Lib.hid hby
   have HNX := Lib.hid hnx
   have HNY := Lib.hid hny
   have HLX := Lib.hid hlx
   have HLY := Lib.hid hly
   have HBW := Lib.hid hbw
   clear hox hoy hap hbw hfx2 hfy2 hqx hFt hbx hby hlx hly hnx hny hfx hfy
   go_wp2_with fail
   refine (HBX.out _ (Below.refl _ _) (HT.out.next (HB2.out.trans (HBW.out.mono HB2.out.size)))).mono ?_
   rintro e w3 ⟨vx, rfl, hjx, hgx, hb3⟩
   obtain ⟨A9, c9, hv9, -⟩ := OwnW.form hjx
   subst hv9
   rw [HNX.out] at hjx ⊢
   have HJX := Lib.hid hjx
   have HB3 := Lib.hid hb3
   clear hjx hgx hb3 HBX
   go_wp2_with fail
   refine (HBY.out _ HB3.out (HT.out.next (HB2.out.trans ((HBW.out.trans (HB3.out.mono HBW.out.size)).mono HB2.out.size)))).mono ?_
   rintro e w4 ⟨vy, rfl, hjy, hgy, hb4⟩
   obtain ⟨A8, c8, hv8, -⟩ := OwnW.form hjy
   subst hv8
   rw [HNY.out] at hjy ⊢
   have HJY := Lib.hid hjy
   have HJX := Lib.hid (OwnW.next HJX.out hb4)
   have HB4 := Lib.hid (HBW.out.trans ((bthen HB3.out hb4).mono HBW.out.size))
   clear hjy hgy hb4 HBY HB3
   have q0 : ((nj : Int) == (nj : Int)) = true := by simp
   go_wp2_with fail
   have HJ4 := Lib.hid (OwnW.next HJ2.out HB4.out)
   have HBOX4 := Lib.hid (HBOX.out.below HB4.out HBOX.out.lt)
   clear HJ2 HBOX HBW
   go_loopw [35] (fun p w5 => ∃ j : Nat, j ≤ nj ∧ p = .int .i64 ((j : Nat) : Int) ∧ Below w4.heap.size w4 w5) (fun p _ => nj - (intOf p).toNat)
   case atStart => exact ⟨0, by omega, rfl, Below.refl _ _⟩
   case round =>
    obtain ⟨j, hj, rfl, hbw⟩ := hrel
    rename World => w5
    by_cases hjn : j < nj
    ·as_aux_lemma =>
     have p0 : (j : Int) < (nj : Int) := by omega
     obtain ⟨gx, hA9⟩ := (OwnJ.addr HJX.out (by rw [HNX.out]; omega)).2
     obtain ⟨gj, hA4⟩ := (OwnJ.addr HJ4.out (by rw [HNJ.out]; omega)).2
     subst hA9
     subst hA4
     have hlj : l[j]? = some (joinAt how f j) := by
      rw [← HL.out]
      unfold buildJ
      rw [List.getElem?_map, List.getElem?_range (by rw [HM.out]; omega)]
      rfl
     have hxj : lx[j]? = some ((joinAt how f j).times u) := by
      rw [← HLX.out]
      unfold buildJ
      rw [List.getElem?_map, List.getElem?_range (by rw [show (timesF u f).length = f.length by simp [timesF], HM.out]; omega), ← join_times HU0.out]
      rfl
     have hq := (HJ.out.jb _ (List.mem_of_getElem? hlj)).high
     have b0 := OwnJ.at_ (OwnW.next HJ4.out hbw) hlj
     have b1 := OwnJ.at_ (OwnW.next HJX.out hbw) hxj
     have b2 := HBOX4.out.below hbw HBOX4.out.lt
     generalize joinAt how f j = J at *
     obtain ⟨xa, xb, xs, xq⟩ := J
     have hq : QS 5528 xq := hq
     obtain ⟨z, hz⟩ : ∃ z, u * xq = z := ⟨_, rfl⟩
     have b1 : AtJ w5 gx (j * 8) ⟨xa, xb, xs, u * xq⟩ := b1
     rw [hz] at b1
     have hqz : QS 5532 z := by rw [← hz]; exact (HQU.out.mul hq).mono (by omega)
     have hmu := fun w' (hb : Below w5.heap.size w5 w') => frac_mul xq u w' (hq.mono (by omega)) (HQU.out.mono (by omega)) (HT.out.next (HB2.out.trans ((HB4.out.trans ((bthen hbw hb).mono HB4.out.size)).mono HB2.out.size)))
     rw [Rat.mul_comm, hz] at hmu
     have hcm := fun w => frac_cmp z z w (hqz.mono (by omega)) (hqz.mono (by omega))
     have e0 : cmpQ z z = 0 := by unfold cmpQ; simp
     rw [e0] at hcm
     unfold qV at hmu hcm
     have HMU := Lib.hid hmu
     have HCM := Lib.hid hcm
     have HBW5 := Lib.hid hbw
     clear hmu hcm hbw hlj hxj hq hqz hz e0
     go_upto_region 32 with fail
     go_cut [251] from 212 to 250 (fun v wc => v = .bool false ∧ Below w5.heap.size w5 wc)
     case first =>
      obtain ⟨b0q0, b0q1, b0q2, b0q3, b0q4, b0q5, b0q6, b0q7⟩ := b0.c8; have c0 := b0.drew; have c0l := c0.lt; obtain ⟨b1q0, b1q1, b1q2, b1q3, b1q4, b1q5, b1q6, b1q7⟩ := b1.c8; have c1 := b1.drew; have c1l := c1.lt; obtain ⟨b2q0, b2q1, b2q2, b2q3, b2q4⟩ := b2.c5; have c2 := b2.drew; have c2l := c2.lt; have hc := bdrew0 w5; go_region_held3 (fun w' => w'.cell? ⟨gj, j * 8, none⟩ = some (.int .i64 xa) ∧ w'.cell? ⟨gj, j * 8 + 1, none⟩ = some (.int .i64 xb) ∧ w'.cell? ⟨gj, j * 8 + 2, none⟩ = some (.int .i64 xs) ∧ w'.cell? ⟨gj, j * 8 + 3, none⟩ = some (.bool (decide (xq.num < 0))) ∧ w'.cell? ⟨gj, j * 8 + 4, none⟩ = some (.int .u64 (lo xq.num.natAbs : Int)) ∧ w'.cell? ⟨gj, j * 8 + 5, none⟩ = some (.string (mo xq.num.natAbs)) ∧ w'.cell? ⟨gj, j * 8 + 6, none⟩ = some (.int .u64 (lo (qden xq) : Int)) ∧ w'.cell? ⟨gj, j * 8 + 7, none⟩ = some (.string (mo (qden xq))) ∧ w'.cell? ⟨gx, j * 8, none⟩ = some (.int .i64 xa) ∧ w'.cell? ⟨gx, j * 8 + 1, none⟩ = some (.int .i64 xb) ∧ w'.cell? ⟨gx, j * 8 + 2, none⟩ = some (.int .i64 xs) ∧ w'.cell? ⟨gx, j * 8 + 3, none⟩ = some (.bool (decide (z.num < 0))) ∧ w'.cell? ⟨gx, j * 8 + 4, none⟩ = some (.int .u64 (lo z.num.natAbs : Int)) ∧ w'.cell? ⟨gx, j * 8 + 5, none⟩ = some (.string (mo z.num.natAbs)) ∧ w'.cell? ⟨gx, j * 8 + 6, none⟩ = some (.int .u64 (lo (qden z) : Int)) ∧ w'.cell? ⟨gx, j * 8 + 7, none⟩ = some (.string (mo (qden z))) ∧ w'.cell? ⟨g0, 0, none⟩ = some (.bool (decide (u.num < 0))) ∧ w'.cell? ⟨g0, 1, none⟩ = some (.int .u64 (lo u.num.natAbs : Int)) ∧ w'.cell? ⟨g0, 2, none⟩ = some (.string (mo u.num.natAbs)) ∧ w'.cell? ⟨g0, 3, none⟩ = some (.int .u64 (lo ((qden u)) : Int)) ∧ w'.cell? ⟨g0, 4, none⟩ = some (.string (mo ((qden u))))) (go_keep) (first | (go_at_call 37; (with_reducible refine (HMU.out _ hc).mono ?_); rintro e w1 ⟨rfl, hw1⟩; have c0 := c0.below hw1 c0.lt; (try clear c0q0 c0q1 c0q2 c0q3 c0q4 c0q5 c0q6 c0q7); obtain ⟨c0q0, c0q1, c0q2, c0q3, c0q4, c0q5, c0q6, c0q7⟩ := c0.c8; (try clear c0l); have c0l := c0.lt; have c1 := c1.below hw1 c1.lt; (try clear c1q0 c1q1 c1q2 c1q3 c1q4 c1q5 c1q6 c1q7); obtain ⟨c1q0, c1q1, c1q2, c1q3, c1q4, c1q5, c1q6, c1q7⟩ := c1.c8; (try clear c1l); have c1l := c1.lt; have c2 := c2.below hw1 c2.lt; (try clear c2q0 c2q1 c2q2 c2q3 c2q4); obtain ⟨c2q0, c2q1, c2q2, c2q3, c2q4⟩ := c2.c5; (try clear c2l); have c2l := c2.lt; have hc := bthen hc hw1) | (go_at_call 29; (with_reducible refine (HCM.out _).mono ?_); rintro e w2 ⟨rfl, hw2⟩; have c0 := c0.below hw2 c0.lt; (try clear c0q0 c0q1 c0q2 c0q3 c0q4 c0q5 c0q6 c0q7); obtain ⟨c0q0, c0q1, c0q2, c0q3, c0q4, c0q5, c0q6, c0q7⟩ := c0.c8; (try clear c0l); have c0l := c0.lt; have c1 := c1.below hw2 c1.lt; (try clear c1q0 c1q1 c1q2 c1q3 c1q4 c1q5 c1q6 c1q7); obtain ⟨c1q0, c1q1, c1q2, c1q3, c1q4, c1q5, c1q6, c1q7⟩ := c1.c8; (try clear c1l); have c1l := c1.lt; have c2 := c2.below hw2 c2.lt; (try clear c2q0 c2q1 c2q2 c2q3 c2q4); obtain ⟨c2q0, c2q1, c2q2, c2q3, c2q4⟩ := c2.c5; (try clear c2l); have c2l := c2.lt; have hc := bthen hc hw2))
      all_goals
       go_wp2
       go_meet
       exact ⟨rfl, hc⟩
     case rest =>
      obtain ⟨rfl, hbd⟩ := hcut
      have HBD := Lib.hid (HBW5.out.trans (hbd.mono HBW5.out.size))
      clear hbd b0 b1 b2
      go_wp2
      exact ⟨⟨j + 1, by omega, by go_num, HBD.out⟩, by simp [intOf]; omega⟩
    ·as_aux_lemma =>
     obtain rfl : j = nj := by omega
     have p0 : ¬ (j : Int) < (j : Int) := by omega
     obtain ⟨a1, ha1⟩ : ∃ a1, a + t = a1 := ⟨_, rfl⟩
     obtain ⟨b1, hb1⟩ : ∃ b1, b + t = b1 := ⟨_, rfl⟩
     obtain ⟨a9, ha9⟩ : ∃ a9, (a + t) % i = a9 := ⟨_, rfl⟩
     obtain ⟨b9, hb9⟩ : ∃ b9, (b + t) % i = b9 := ⟨_, rfl⟩
     have e9 : (a : Int) + (t : Int) = (a1 : Int) := by rw [← ha1]; exact (Int.natCast_add a t).symm
     have e10 : (b : Int) + (t : Int) = (b1 : Int) := by rw [← hb1]; exact (Int.natCast_add b t).symm
     have ha9m : a9 < i := by rw [← ha9]; exact mod_lt' hm1 _
     have hb9m : b9 < i := by rw [← hb9]; exact mod_lt' hm1 _
     have g1 : IntKind.i64.wrap (a1 : Int) = (a1 : Int) := IntWalk.i64_in _ (by omega)
     have g2 : IntKind.i64.wrap (b1 : Int) = (b1 : Int) := IntWalk.i64_in _ (by omega)
     have g3 : IntKind.i64.wrap (a9 : Int) = (a9 : Int) := IntWalk.i64_in _ (by omega)
     have g4 : IntKind.i64.wrap (b9 : Int) = (b9 : Int) := IntWalk.i64_in _ (by omega)
     have g5 : wrap64 (a1 : Int) = (a1 : Int) := IntWalk.wrap64_in _ (by omega)
     have g6 : wrap64 (b1 : Int) = (b1 : Int) := IntWalk.wrap64_in _ (by omega)
     have g7 : wrap64 (a9 : Int) = (a9 : Int) := IntWalk.wrap64_in _ (by omega)
     have g8 : wrap64 (b9 : Int) = (b9 : Int) := IntWalk.wrap64_in _ (by omega)
     have hT5 := HT.out.next (HB2.out.trans ((HB4.out.trans (hbw.mono HB4.out.size)).mono HB2.out.size))
     have hlt := lj_of how (farF_turn HF.out t)
     rw [HLY.out] at hlt
     have hlenT : (turnF t f).length = i := by unfold turnF; rw [matF_len, HM.out]
     have hX := lj_walk HJ.out (OwnW.next HJ4.out hbw) hT5 HM.out hm7 a9 b9 ha9m hb9m
     have hY := lj_walk hlt (OwnW.next HJY.out hbw) hT5 hlenT hm7 a b ha hb
     have hqx := (lj_far HJ.out a9 b9).2
     have hqy := (lj_far hlt a b).2
     have hxy : how = 1 → farB how f a9 b9 = farB how (turnF t f) a b := fun h => by
      subst h
      rw [turn_far HF.out (by rw [HM.out]; exact ht) (by rw [HM.out]; exact ha) (by rw [HM.out]; exact hb), HM.out, ha9, hb9]
     obtain ⟨x, ex⟩ : ∃ x, farB how f a9 b9 = x := ⟨_, rfl⟩
     obtain ⟨y, ey⟩ : ∃ y, farB how (turnF t f) a b = y := ⟨_, rfl⟩
     rw [ex] at hX hqx hxy
     rw [ey] at hY hqy hxy
     have hcm := fun w => frac_cmp x y w (hqx.mono (by omega)) (hqy.mono (by omega))
     have hx0 : how = 1 → cmpQ x y = 0 := fun h => by rw [hxy h]; unfold cmpQ; simp
     generalize cmpQ x y = cv at *
     unfold qV at hX hY hcm
     have e5 := tmod_nat (a + t) i
     have e6 := tmod_nat (b + t) i
     rw [ha9, ha1] at e5
     rw [hb9, hb1] at e6
     have HX := Lib.hid hX
     have HY := Lib.hid hY
     have HCM := Lib.hid hcm
     have HX0 := Lib.hid hx0
     have HB5 := Lib.hid (HB2.out.trans ((HB4.out.trans (hbw.mono HB4.out.size)).mono HB2.out.size))
     have HKN : Hid (∀ w', Below w5.heap.size w5 w' → Calls Tryz.prog 18 #[] w' (Ret (.bool true) w')) := Lib.hid fun w' hb => law_known w' (hT5.next hb)
     have HREFL := Lib.hid (Below.refl w5.heap.size w5)
     have b2 := HBOX4.out.below hbw HBOX4.out.lt
     clear hT5 hlt hlenT hX hY hqx hqy hxy ex ey hcm hx0 hbw ha1 hb1 ha9 hb9 HJ4 HJY HJX HBOX4 HL HLX HLY HDX HDY HU0 HQU HF2
     have hz0 : ((i : Int) == 0) = false := by simp; omega
     have hz1 : ¬ (i : Int) = 0 := by omega
     have hz2 : ¬ i = 0 := by omega
     go_wp2_with fail
     refine (HPA.out _).mono ?_
     rintro e w6 ⟨rfl, rfl⟩
     go_wp2_with fail
     refine (HPB.out _).mono ?_
     rintro e w6 ⟨rfl, rfl⟩
     go_upto_region 35 with fail
     go_cut [36, 37] from 258 to 273 (fun p e wc => e = .int .i64 0 ∧ Born w5 56 #[.bool (decide (x.num < 0)), .int .u64 (lo x.num.natAbs : Int), .string (mo x.num.natAbs), .int .u64 (lo ((qden x)) : Int), .string (mo ((qden x)))] p wc)
     case first =>
      obtain ⟨b2q0, b2q1, b2q2, b2q3, b2q4⟩ := b2.c5; have c2 := b2.drew; have c2l := c2.lt; have hc := bdrew0 w5; go_region_held3 (fun w' => w'.cell? ⟨g0, 0, none⟩ = some (.bool (decide (u.num < 0))) ∧ w'.cell? ⟨g0, 1, none⟩ = some (.int .u64 (lo u.num.natAbs : Int)) ∧ w'.cell? ⟨g0, 2, none⟩ = some (.string (mo u.num.natAbs)) ∧ w'.cell? ⟨g0, 3, none⟩ = some (.int .u64 (lo ((qden u)) : Int)) ∧ w'.cell? ⟨g0, 4, none⟩ = some (.string (mo ((qden u))))) (go_keep) (first | (go_at_call 30; (first | with_reducible refine (HX.out _ hc).mono ?_ | (have hga : w5.heap.size ≤ w5.heap.size := hc.size; have ca : Blk _ w5.heap.size _ _ := Blk.new w5.drew 56 #[.bool false, .int .u64 0, .string ⟨#[]⟩, .int .u64 0, .string ⟨#[]⟩]; have c2na := nelt (show _ < w5.heap.size from c2l) (Nat.le_refl _); have c2 := c2.alloc (.cells #[.bool false, .int .u64 0, .string ⟨#[]⟩, .int .u64 0, .string ⟨#[]⟩] 56); have hc := bthen hc (balloc1 _ (.cells #[.bool false, .int .u64 0, .string ⟨#[]⟩, .int .u64 0, .string ⟨#[]⟩] 56)); with_reducible refine (HX.out _ hc).mono ?_) | (have hga : w5.heap.size ≤ w5.heap.size := hc.size; have ca : Blk (w5.alloc (.cells #[.bool false, .int .u64 0, .string ⟨#[]⟩, .int .u64 0, .string ⟨#[]⟩] 56)).drew w5.heap.size _ _ := Blk.new w5.drew 56 #[.bool false, .int .u64 0, .string ⟨#[]⟩, .int .u64 0, .string ⟨#[]⟩]; have c2na := nelt (show _ < w5.heap.size from c2l) (Nat.le_refl _); have c2 : Blk (w5.alloc (.cells #[.bool false, .int .u64 0, .string ⟨#[]⟩, .int .u64 0, .string ⟨#[]⟩] 56)).drew _ _ _ := c2.alloc (.cells #[.bool false, .int .u64 0, .string ⟨#[]⟩, .int .u64 0, .string ⟨#[]⟩] 56); have hc : Below w5.heap.size w5 (w5.alloc (.cells #[.bool false, .int .u64 0, .string ⟨#[]⟩, .int .u64 0, .string ⟨#[]⟩] 56)).drew := bthen hc (balloc1 _ (.cells #[.bool false, .int .u64 0, .string ⟨#[]⟩, .int .u64 0, .string ⟨#[]⟩] 56)); with_reducible refine (HX.out _ hc).mono ?_)); rintro e w1 ⟨rfl, hw1⟩; (try have ca := ca.below hw1 ca.lt); have c2 := c2.below hw1 c2.lt; (try clear c2q0 c2q1 c2q2 c2q3 c2q4); obtain ⟨c2q0, c2q1, c2q2, c2q3, c2q4⟩ := c2.c5; (try clear c2l); have c2l := c2.lt; have hc := bthen hc hw1; (try (have cal := ca.lt; obtain ⟨caq0, caq1, caq2, caq3, caq4, caf0, caf1, caf2, caf3, caf4, cas0, cas1, cas2, cas3, cas4⟩ := ca.f5))))
      all_goals
       go_wp2
       go_meet
       (with_reducible refine ⟨rfl, ?_⟩)
       (first | with_reducible exact one5 hc ca hga | with_reducible exact oneN hc | with_reducible exact one5 (bthen hc (balloc1 _ _)) (Blk.new _ _ _) hc.size)
     case rest =>
     obtain ⟨rfl, g1', rfl, hg1', b0, hn0⟩ := hcut
     rename World => v0
     have HN0 := Lib.hid hn0
     clear hn0 HX HREFL b2 e5 e6 e9 e10 g1 g2 g3 g4 g5 g6 g7 g8 hz0 hz1 hz2
     go_upto_region 36 with fail
     go_cut [38, 39] from 274 to 281 (fun p e wc => e = .int .i64 0 ∧ ∃ g1, p = .pointer (some ⟨g1, 0, none⟩) ∧ Blk wc g1' 56 #[.bool (decide (x.num < 0)), .int .u64 (lo x.num.natAbs : Int), .string (mo x.num.natAbs), .int .u64 (lo ((qden x)) : Int), .string (mo ((qden x)))] ∧ Blk wc g1 56 #[.bool (decide (y.num < 0)), .int .u64 (lo y.num.natAbs : Int), .string (mo y.num.natAbs), .int .u64 (lo ((qden y)) : Int), .string (mo ((qden y)))] ∧ Below w5.heap.size w5 wc)
     case first =>
      go_wp2_with fail
      refine (HY.out _ HN0.out).mono ?_
      rintro e wd ⟨rfl, hw⟩
      have b0 := Lib.hid ((b0.below hw b0.lt).alloc (.cells #[.bool (decide (y.num < 0)), .int .u64 (lo y.num.natAbs : Int), .string (mo y.num.natAbs), .int .u64 (lo ((qden y)) : Int), .string (mo ((qden y)))] 56))
      have HN := Lib.hid (bthen (bthen HN0.out hw) (balloc1 wd (.cells #[.bool (decide (y.num < 0)), .int .u64 (lo y.num.natAbs : Int), .string (mo y.num.natAbs), .int .u64 (lo ((qden y)) : Int), .string (mo ((qden y)))] 56)))
      clear hw
      go_wp2
      go_meet
      exact ⟨rfl, wd.heap.size, rfl, b0.out, Blk.new wd 56 #[.bool (decide (y.num < 0)), .int .u64 (lo y.num.natAbs : Int), .string (mo y.num.natAbs), .int .u64 (lo ((qden y)) : Int), .string (mo ((qden y)))], HN.out⟩
     case rest =>
     obtain ⟨rfl, g2', rfl, b0, b1, hn1⟩ := hcut
     rename World => v1
     have HN1 := Lib.hid hn1
     have HK2 : Hid (∀ w', Below v1.heap.size v1 w' → Calls Tryz.prog 18 #[] w' (Ret (.bool true) w')) := Lib.hid fun w' hb => HKN.out w' (HN1.out.trans (hb.mono HN1.out.size))
     clear hn1 HY HN0 HKN
     go_upto_region 37 with fail
     go_cut [16] from 282 to 303 (fun v wc => v = .bool true ∧ Below v1.heap.size v1 wc)
     case first =>
      go_wp2_with fail
      refine (HK2.out _ (Below.refl _ _)).mono ?_
      rintro e w9 ⟨rfl, hw9⟩
      have b0 := b0.below hw9 b0.lt
      have b1 := b1.below hw9 b1.lt
      have HW9 := Lib.hid hw9
      clear hw9
      by_cases hs : how = 1
      ·have hcv := HX0.out hs
       subst hcv
       subst hs
       cases al with
       | true =>
        clear b0 b1
        go_wp2
        go_meet
        exact ⟨rfl, HW9.out⟩
       | false =>
        obtain ⟨x0, x1, x2, x3, x4⟩ := b0.c5
        obtain ⟨y0, y1, y2, y3, y4⟩ := b1.c5
        clear b0 b1
        go_wp2_with fail
        refine (HCM.out _).mono ?_
        rintro e wa ⟨rfl, hwa⟩
        have HWA := Lib.hid (HW9.out.trans (hwa.mono HW9.out.size))
        clear hwa x0 x1 x2 x3 x4 y0 y1 y2 y3 y4
        go_wp2
        go_meet
        exact ⟨rfl, HWA.out⟩
      ·have f1 : ¬ (how : Int) = 1 := by omega
       have f2 : ((how : Int) == 1) = false := beq_eq_false_iff_ne.2 f1
       have f3 : ((how : Int) != 1) = true := by rw [bne, f2]; rfl
       have f4 : (how == 1) = false := beq_eq_false_iff_ne.2 hs
       clear b0 b1
       cases al with
       | true =>
        go_wp2
        go_meet
        exact ⟨rfl, HW9.out⟩
       | false =>
        go_wp2
        go_meet
        exact ⟨rfl, HW9.out⟩
     case rest =>
     obtain ⟨rfl, hbd⟩ := hcut
     have HBD := Lib.hid (HB5.out.trans ((HN1.out.trans (hbd.mono HN1.out.size)).mono HB5.out.size))
     clear hbd
     go_wp2
     go_returns
     exact ⟨rfl, HBD.out⟩
end Go.Proofs.YtecnjlcfoobepaaGreatDoor
