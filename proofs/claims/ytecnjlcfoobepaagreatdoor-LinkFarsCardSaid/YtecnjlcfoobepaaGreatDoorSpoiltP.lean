import Derived.Test.YtecnjlcfoobepaaGreatDoorFarsD
namespace Go.Proofs.YtecnjlcfoobepaaGreatDoor
open Go.RowKit
set_option linter.unusedSimpArgs false
set_option linter.unusedVariables false
theorem Tryz.kindXRR : KindX 97 OwnR := kindXR (by decide) (by decide)
theorem OwnR.atS {w : World} {g n c : Nat} {ql : List Rat} (h : OwnR w (.slice (some ⟨g, 0, none⟩) n c) ql) {k : Nat} {q : Rat} (hq : ql[k]? = some q) : ∃ r : RC, AtR w g (k * 3) r ∧ IsQ w w.heap.size r.v q := by
 obtain ⟨r, h0, h1, h2, h3⟩ := OwnR.cell3 h hq
 exact ⟨r, ⟨h0, h1, h2⟩, h3⟩
theorem bset3' {B g i j k : Nat} {w w' : World} (h : Below B w w') (hg : B ≤ g) (x y z : Value) : Below B w (((w'.setCell ⟨g, i, none⟩ x).setCell ⟨g, j, none⟩ y).setCell ⟨g, k, none⟩ z) := ((h.setCell (p := ⟨g, i, none⟩) hg x).setCell (p := ⟨g, j, none⟩) hg y).setCell (p := ⟨g, k, none⟩) hg z
theorem OwnSA.storeR {L B : Nat} {w : World} {g n c ga m k : Nat} {bl : List (List Rat)} (h : OwnSA 97 OwnR L B w (.slice (some ⟨g, 0, none⟩) n c) bl) {i : Nat} {b : List Rat} (hb : bl[i]? = some b) (hc : w.cell? ⟨g, i, none⟩ = some (.slice (some ⟨ga, 0, none⟩) m k)) :
  ga ≠ g ∧ L ≤ ga ∧ ga < B ∧ OwnR w (.slice (some ⟨ga, 0, none⟩) m k) b ∧ ∀ (j : Nat) (q : Rat) (r : RC), IsQ w w.heap.size r.v q → OwnSA 97 OwnR L B (((w.setCell ⟨ga, j * 3, none⟩ (.bool r.g)).setCell ⟨ga, j * 3 + 1, none⟩ (.slice r.A r.l r.c)).setCell ⟨ga, j * 3 + 2, none⟩ (.slice r.A' r.l' r.c')) (.slice (some ⟨g, 0, none⟩) n c) (bl.set i (b.set j q)) := by
 obtain ⟨A', m', k', hc', hr', hL', hst⟩ := OwnSA.at_ Tryz.kindXRR h hb
 have e := Option.some.inj (hc'.symm.trans hc)
 injection e with e1 e2 e3
 subst e1 e2 e3
 obtain ⟨hne, hst⟩ := hst ga rfl
 have hLB := hL' ga rfl
 refine ⟨hne, hLB.1, hLB.2, hr', fun j q r hq => hst _ _ ?_ (OwnR.store hr' j r hq)⟩
 exact (((Exc.refl ga w).set_ _ _).set_ _ _).set_ _ _
theorem ReadsR.cut {w : World} {B n : Nat} {A : Option Addr} {ql : List Rat} (h : ReadsR w B A n ql) {u c : Nat} (hu : u ≤ n) (hc : n ≤ c) : ReadsR w B (cutA A c u 3) (n - u) (ql.drop u) := by
 obtain ⟨rl, h1, h2⟩ := h
 refine ⟨rl.drop u, ⟨by rw [List.length_drop, h1.1], ?_⟩, by rw [List.length_drop, List.length_drop, h2.1], fun i r q hr hq => ?_⟩
 ·have h3 := Reads.cut h1.2 hu hc
  have e : (rl.flatMap RC.cs).drop (u * 3) = (rl.drop u).flatMap RC.cs := by
   have : ∀ (l : List RC) u, (l.flatMap RC.cs).drop (u * 3) = (l.drop u).flatMap RC.cs := by
    intro l
    induction l with
    | nil => intro u; simp
    | cons r l ih =>
     intro u
     cases u with
     | zero => simp
     | succ u =>
      rw [List.flatMap_cons, List.drop_succ_cons, ← ih u, show (u + 1) * 3 = (RC.cs r).length + u * 3 from by rw [RC.len]; omega, List.drop_append]
      simp
   exact this rl u
  rw [e] at h3
  exact h3
 ·rw [List.getElem?_drop] at hr hq
  exact h2.2 _ r q hr hq
theorem OwnS.cutRow {w : World} {g n c m k : Nat} {A : Option Addr} {bl : List (List Rat)} (h : OwnS 97 OwnR w (.slice (some ⟨g, 0, none⟩) n c) bl) {i : Nat} {b : List Rat} (hb : bl[i]? = some b) (hc : w.cell? ⟨g, i, none⟩ = some (.slice A m k)) {u : Nat} (hu : u ≤ m) (hk : m ≤ k) :
  ReadsRR (w.setCell ⟨g, i, none⟩ (.slice (cutA A k u 3) (m - u) (k - u))) w.heap.size (some ⟨g, 0, none⟩) n (bl.set i (b.drop u)) := by
 obtain ⟨rl, h1, h2, h3⟩ := h
 have hn : n = rl.length := by
  obtain ⟨A', c', h4, _, _⟩ := Own.form h1
  injection h4
 subst hn
 have hi : i < rl.length := by rw [h2]; exact (List.getElem?_eq_some_iff.1 hb).1
 have hr : rl[i]? = some rl[i] := List.getElem?_eq_getElem hi
 have hcell := Own.cellf h1 hr
 have e := Option.some.inj (hcell.symm.trans hc)
 have hst := World.ownsRow.stored h1 i (.slice (cutA A k u 3) (m - u) (k - u))
 have hex : Exc g w (w.setCell ⟨g, i, none⟩ (.slice (cutA A k u 3) (m - u) (k - u))) := (Exc.refl g w).set_ i _
 have ho1 : Only1 w (w.setCell ⟨g, i, none⟩ (.slice (cutA A k u 3) (m - u) (k - u))) (.slice (some ⟨g, 0, none⟩) rl.length c) := Only1.exc hex
 have hz : (w.setCell ⟨g, i, none⟩ (.slice (cutA A k u 3) (m - u) (k - u))).heap.size = w.heap.size := by simp
 have hown : Own (w.setCell ⟨g, i, none⟩ (.slice (cutA A k u 3) (m - u) (k - u))) 97 SW.v (.slice (some ⟨g, 0, none⟩) rl.length c) (rl.set i ⟨cutA A k u 3, m - u, k - u⟩) := by
  unfold Own
  rw [List.length_set, List.map_set]
  exact hst.1
 have hrd := Own.reads hown
 rw [hz, List.length_set] at hrd
 refine ⟨rl.set i ⟨cutA A k u 3, m - u, k - u⟩, hrd, by simp [h2], fun j r b'' hr' hb'' => ?_⟩
 rcases getElem?_set_cases hr' with ⟨rfl, rfl⟩ | ⟨hj, hr2⟩
 ·have e9 : b'' = b.drop u := by
   rw [List.getElem?_set, if_pos rfl] at hb''
   split at hb''
   ·exact (Option.some.inj hb'').symm
   ·cases hb''
  subst e9
  have h4 := Tryz.kindRR.only (h3 j _ b hr hb) h1 ho1
  have h5 : OwnR (w.setCell ⟨g, j, none⟩ (.slice (cutA A k u 3) (m - u) (k - u))) (.slice A m k) b := by rw [← e]; exact h4
  have h6 := OwnR.reads_ h5
  rw [hz] at h6
  exact h6.cut hu hk
 ·rw [List.getElem?_set, if_neg (fun e => hj e.symm)] at hb''
  have h4 := OwnR.reads_ (Tryz.kindRR.only (h3 j r b'' hr2 hb'') h1 ho1)
  rw [hz] at h4
  exact h4
def setAt (f : List (List Rat)) (a b : Nat) (q : Rat) : List (List Rat) := f.set a ((f.getD a []).set b q)
def spoiltF (f : List (List Rat)) (way a b : Nat) (q : Rat) : List (List Rat) :=
 if way = 0 then setAt f a b q else if way = 1 then setAt (setAt f a b q) b a q else if way = 2 then f.set a ((f.getD a []).drop 1) else f
structure Small (f : List (List Rat)) : Prop where
 len : f.length ≤ 7
 row : ∀ l ∈ f, l.length ≤ 7 ∧ ∀ y ∈ l, QS 47 y
theorem Small.set_ {f : List (List Rat)} (h : Small f) (a : Nat) (l : List Rat) (hl : l.length ≤ 7 ∧ ∀ y ∈ l, QS 47 y) : Small (f.set a l) :=
 ⟨by rw [List.length_set]; exact h.len, fun l' hl' => by
  rcases List.mem_or_eq_of_mem_set hl' with h1 | h1
  ·exact h.row l' h1
  ·rw [h1]; exact hl⟩
theorem Small.at_ {f : List (List Rat)} (h : Small f) (a : Nat) : (f.getD a []).length ≤ 7 ∧ ∀ y ∈ f.getD a [], QS 47 y := by
 rw [List.getD_eq_getElem?_getD]
 cases hf : f[a]? with
 | none => exact ⟨by simp, fun y hy => by cases hy⟩
 | some l => exact h.row l (List.mem_of_getElem? hf)
theorem Small.setAt {f : List (List Rat)} (h : Small f) (a b : Nat) {q : Rat} (hq : QS 47 q) : Small (setAt f a b q) := by
 refine h.set_ a _ ⟨by rw [List.length_set]; exact (h.at_ a).1, fun y hy => ?_⟩
 rcases List.mem_or_eq_of_mem_set hy with h1 | h1
 ·exact (h.at_ a).2 y h1
 ·rw [h1]; exact hq
theorem Small.spoilt {f : List (List Rat)} (h : Small f) (way a b : Nat) {q : Rat} (hq : QS 47 q) : Small (spoiltF f way a b q) := by
 unfold spoiltF
 split
 ·exact h.setAt a b hq
 ·split
  ·exact (h.setAt a b hq).setAt b a hq
  ·split
   ·exact h.set_ a _ ⟨by rw [List.length_drop]; have := (h.at_ a).1; omega, fun y hy => (h.at_ a).2 y (List.mem_of_mem_drop hy)⟩
   ·exact h
theorem small_fars {zs : List Int} {m n : Nat} (hm : m ≤ 2) (hn : n ≤ 7) : Small (farsQ (rowsOf zs m n)) := by
 have hl : (rowsOf zs m n).length ≤ 7 := by rw [rowsOf_len]; exact hn
 refine ⟨by rw [farsQ_len]; exact hl, fun l hl' => ⟨?_, fun y hy => ?_⟩⟩
 ·obtain ⟨a, ha, rfl⟩ := List.mem_map.1 hl'
  rw [List.length_map]
  exact hl
 ·refine (fars_QS (m := 5) (wd := m) (fun l hl => ?_) (by omega) (fun l hl => ?_) l hl' y hy).mono ?_
  ·obtain ⟨zs', rfl⟩ := rowsOf_row hl
   exact rowOf_size zs' m
  ·obtain ⟨zs', rfl⟩ := rowsOf_row hl
   exact rowOf_len zs' m
  ·omega
theorem ownSA_reads {L B : Nat} {w : World} {g n c : Nat} {f : List (List Rat)} (h : OwnSA 97 OwnR L B w (.slice (some ⟨g, 0, none⟩) n c) f) : ReadsRR w w.heap.size (some ⟨g, 0, none⟩) n f := OwnRR.readsRR h.plain
theorem ownSA_row {L B : Nat} {w : World} {g n c N : Nat} {f : List (List Rat)} (h : OwnSA 97 OwnR L B w (.slice (some ⟨g, 0, none⟩) n c) f) {i : Nat} (hi : i < f.length) (hN : (f.getD i []).length = N) (h1 : 1 ≤ N) :
  ∃ ga k, f[i]? = some (f.getD i []) ∧ N ≤ k ∧ w.cell? ⟨g, i, none⟩ = some (.slice (some ⟨ga, 0, none⟩) N k) ∧ L ≤ ga ∧ OwnR w (.slice (some ⟨ga, 0, none⟩) N k) (f.getD i []) := by
 have hf : f[i]? = some (f.getD i []) := by rw [List.getD_eq_getElem?_getD, List.getElem?_eq_getElem hi]; rfl
 obtain ⟨A, m, k, h2, h3, h4, -⟩ := OwnSA.at_ Tryz.kindXRR h hf
 obtain ⟨A', c', hv, hle, -⟩ := OwnR.form h3
 injection hv with e1 e2 e3
 subst e1 e2 e3
 obtain ⟨ga, rfl⟩ := OwnR.addr h3 (by omega)
 rw [hN] at h2 h3 hle
 exact ⟨ga, _, hf, hle, h2, (h4 ga rfl).1, h3⟩
theorem setAt_row {f : List (List Rat)} {a b : Nat} {q : Rat} {N : Nat} (h : ∀ i, i < N → (f.getD i []).length = N) (hl : f.length = N) : (setAt f a b q).length = N ∧ ∀ i, i < N → ((setAt f a b q).getD i []).length = N := by
 refine ⟨by unfold setAt; rw [List.length_set, hl], fun i hi => ?_⟩
 unfold setAt
 rw [List.getD_eq_getElem?_getD, List.getElem?_set]
 by_cases hai : a = i
 ·subst hai
  rw [if_pos rfl, if_pos (by omega)]
  show ((f.getD a []).set b q).length = N
  rw [List.length_set]
  exact h a hi
 ·rw [if_neg hai, ← List.getD_eq_getElem?_getD]
  exact h i hi
theorem setAt_at {f : List (List Rat)} {a b : Nat} {q : Rat} (ha : a < f.length) (hb : b < (f.getD a []).length) : ((setAt f a b q).getD a [])[b]? = some q := by
 unfold setAt
 rw [List.getD_eq_getElem?_getD, List.getElem?_set, if_pos rfl, if_pos ha]
 show ((f.getD a []).set b q)[b]? = some q
 rw [List.getElem?_set, if_pos rfl, if_pos hb]
theorem farsQ_rows {x : List (List Rat)} {N : Nat} (hx : x.length = N) : ∀ i, i < N → ((farsQ x).getD i []).length = N := by
 intro i hi
 rw [List.getD_eq_getElem?_getD, farsQ_at (List.getElem?_eq_getElem (by omega))]
 show (x.map _).length = N
 rw [List.length_map, hx]
set_option maxRecDepth 100000 in
set_option maxHeartbeats 8000000 in
theorem law_spoilt (A : Option Addr) (n1 c1 : Nat) (zl : List Int) (zn zw zy za zb zk : Int) (w : World) (h1 : ArgZ w A n1 c1 zl) (hn : I64 zn) (hz : I64 zw) (hy : I64 zy) (ha : I64 za) (hb : I64 zb) (hk : I64 zk) :
  ∃ g, Small g ∧ ∀ w', Below w.heap.size w w' → Calls Tryz.prog 17 #[.slice A n1 c1, .int .i64 zn, .int .i64 zw, .int .i64 zy, .int .i64 za, .int .i64 zb, .int .i64 zk] w' fun e w'' =>
   ∃ A' n' c', e = .returned (.slice A' n' c') ∧ ReadsRR w'' w''.heap.size A' n' g ∧ Below w'.heap.size w' w'' := by
 obtain ⟨nn, hnn, hp0⟩ := pick_of zn 8 w hn.1 hn.2 (by omega) (by omega)
 obtain ⟨k2, hk2, hp2⟩ := pick_of zw 2 w hz.1 hz.2 (by omega) (by omega)
 obtain ⟨way, hway, hpw⟩ := pick_of zy 8 w hy.1 hy.2 (by omega) (by omega)
 obtain ⟨wd, hwd⟩ : ∃ wd, k2 + 1 = wd := ⟨_, rfl⟩
 have e2 : (k2 : Int) + 1 = (wd : Int) := by omega
 have hSm := small_fars (zs := zl) (m := wd) (n := nn) (by omega) (by omega)
 obtain ⟨a, hpa⟩ : ∃ a, 0 < nn → a < nn ∧ ∀ w, Calls Tryz.prog 14 #[.int .i64 za, .int .i64 (nn : Int)] w fun e w' => e = .returned (.int .i64 (a : Int)) ∧ w = w' := by
  by_cases h0 : 0 < nn
  ·obtain ⟨a, h2, h3⟩ := pick_of za nn w ha.1 ha.2 (by omega) (by omega)
   exact ⟨a, fun _ => ⟨h2, h3⟩⟩
  ·exact ⟨0, fun h => absurd h h0⟩
 obtain ⟨b, hpb⟩ : ∃ b, 0 < nn → b < nn ∧ ∀ w, Calls Tryz.prog 14 #[.int .i64 zb, .int .i64 (nn : Int)] w fun e w' => e = .returned (.int .i64 (b : Int)) ∧ w = w' := by
  by_cases h0 : 0 < nn
  ·obtain ⟨a, h2, h3⟩ := pick_of zb nn w hb.1 hb.2 (by omega) (by omega)
   exact ⟨a, fun _ => ⟨h2, h3⟩⟩
  ·exact ⟨0, fun h => absurd h h0⟩
 obtain ⟨q, hq⟩ : ∃ q, rOf zk = q := ⟨_, rfl⟩
 have hqs : QS 47 q := by rw [← hq]; exact (rOf_size zk).mono (by omega)
 obtain ⟨g, hg⟩ : ∃ g, (if nn = 0 then farsQ (rowsOf zl wd nn) else spoiltF (farsQ (rowsOf zl wd nn)) way a b q) = g := ⟨_, rfl⟩
 refine ⟨g, ?_, fun w' hbw => ?_⟩
 ·rw [← hg]
  split
  ·exact hSm
  ·exact hSm.spoilt way a b hqs
 have hrows := hand_rows A n1 c1 w.heap.size zl nn wd w' ⟨h1.rd.1.below hbw, h1.rd.2⟩ hbw.size h1.cap h1.most (by omega) (by omega)
 have hrow : ∀ l ∈ rowsOf zl wd nn, l.length = wd ∧ ∀ x ∈ l, QS 5 x := fun l hl => by
  obtain ⟨zs', rfl⟩ := rowsOf_row hl
  exact ⟨rowOf_len zs' wd, rowOf_size zs' wd⟩
 have hlen := rowsOf_len zl wd nn
 have hrk := fun w' => hand_r zk w' hk.1 hk.2
 rw [hq] at hrk
 have hfl : (farsQ (rowsOf zl wd nn)).length = nn := by rw [farsQ_len, hlen]
 have hfr := farsQ_rows hlen
 generalize rowsOf zl wd nn = x at *
 have HP0 := Lib.hid hp0
 have HP2 := Lib.hid hp2
 have HPW := Lib.hid hpw
 have HR := Lib.hid hrows
 have HX := Lib.hid hrow
 have HLEN := Lib.hid hlen
 have HRK := Lib.hid hrk
 have HPA := Lib.hid hpa
 have HPB := Lib.hid hpb
 have HG := Lib.hid hg
 have HFL := Lib.hid hfl
 have HFR := Lib.hid hfr
 clear hp0 hp2 hpw hrows hrow hlen hrk hpa hpb h1 hn hz hy ha hb hk hbw hwd hg hq hqs hSm hfl hfr
 go_enter Tryz.func17, Tryz.ntmps17
 go_wp2_with fail
 refine (HP0.out _).mono ?_
 rintro e w1 ⟨rfl, rfl⟩
 go_wp2_with fail
 refine (HP2.out _).mono ?_
 rintro e w1 ⟨rfl, rfl⟩
 go_wp2_with fail
 refine HR.out.mono ?_
 rintro e w1 ⟨v, rfl, ho, -, hb1⟩
 obtain ⟨A1, c1', hv⟩ := OwnS.form ho
 rw [HLEN.out] at hv
 subst hv
 have HO := Lib.hid (OwnRR.readsRR ho)
 have HB1 := Lib.hid hb1
 clear ho hb1 HR HP0 HP2
 go_wp2_with fail
 refine (ref_fars A1 nn c1' w1.heap.size 5 wd x w1 HO.out (Nat.le_refl _) (by omega) (by omega) (by omega) (by omega) HX.out).mono ?_
 rintro e w2 ⟨v, rfl, ho, hfv, hb2⟩
 obtain ⟨A2, c2, hv⟩ := OwnSA.form ho
 rw [HFL.out] at hv
 subst hv
 have HB2 := Lib.hid (bthen HB1.out hb2)
 have hL := HB1.out.size
 clear hb2 HO HB1
 by_cases h0 : nn = 0
 ·subst h0
  rw [if_pos rfl] at HG
  have HO := Lib.hid (OwnRR.readsRR ho.plain)
  rw [HG.out] at HO
  clear ho HPA HPB
  go_wp2
  go_ret
  exact ⟨_, _, _, rfl, HO.out, HB2.out⟩
 have hn0 : 0 < nn := by omega
 rw [if_neg h0] at HG
 obtain ⟨ha, hpa⟩ := HPA.out hn0
 obtain ⟨hb, hpb⟩ := HPB.out hn0
 have HPA := Lib.hid hpa
 have HPB := Lib.hid hpb
 obtain ⟨gf, rfl⟩ := OwnSA.addr ho (by rw [HFL.out]; exact hn0)
 have HO := Lib.hid ho
 have k0 : ((nn : Int) == 0) = false := by simp; omega
 have k0' : ¬ (nn : Int) = 0 := by omega
 clear hpa hpb ho
 generalize farsQ x = F at *
 go_wp2_with fail
 refine (HPA.out _).mono ?_
 rintro e w3 ⟨rfl, rfl⟩
 go_wp2_with fail
 refine (HPB.out _).mono ?_
 rintro e w3 ⟨rfl, rfl⟩
 go_wp2_with fail
 refine (HPW.out _).mono ?_
 rintro e w3 ⟨rfl, rfl⟩
 clear HPA HPB HPW k0 k0'
 have ka : (a : Int) < (nn : Int) := by omega
 have kb : (b : Int) < (nn : Int) := by omega
 obtain ⟨ga, ca, hfa, hca, hcell, hLa, hra⟩ := ownSA_row HO.out (i := a) (by rw [HFL.out]; exact ha) (HFR.out a ha) hn0
 obtain ⟨r0, hat, hiq0⟩ := OwnR.atS hra (k := b) (q := _) (List.getElem?_eq_getElem (by rw [HFR.out a ha]; exact hb))
 by_cases hw0 : way = 0
 ·subst hw0
  have hsp : setAt F a b q = g := by rw [← HG.out]; rfl
  have HSP := Lib.hid hsp
  have b3 := At1.mk' hcell
  have HRA := Lib.hid hra
  have HFA := Lib.hid hfa
  have hne := (OwnSA.storeR HO.out hfa hcell).1
  clear hcell hat hiq0 hra hfa hsp HG
  go_upto_region 8 with fail
  obtain ⟨b3q0, b3q1⟩ := b3.c2; have c3 := b3.drew; have c3l := c3.lt; have hc := bdrew0 w2; go_region_with (first | (go_at_call 48; (with_reducible refine (HRK.out _).mono ?_); rintro e w1 ⟨v1, rfl, hR1, hw1⟩; obtain ⟨g1, A1, l1, c1c, A1', l1', c1c', hv1⟩ := hR1.shape; subst hv1; have c3 := c3.below hw1 c3.lt; (try clear c3q0 c3q1); obtain ⟨c3q0, c3q1⟩ := c3.c2; (try clear c3l); have c3l := c3.lt; have hc := bthen hc hw1; have hrn := HRA.out.next hc; obtain ⟨r5, hat5, -⟩ := OwnR.atS hrn (k := b) (List.getElem?_eq_getElem (by rw [HFR.out a ha]; exact hb)); obtain ⟨y0, y1, y2⟩ := hat5.c3; have z0 := OwnR.frozen hrn (b * 3); have z1 := OwnR.frozen hrn (b * 3 + 1); have z2 := OwnR.frozen hrn (b * 3 + 2)))
  all_goals
   have o1 := (OwnSA.next Tryz.kindRR HO.out hc).more hc.size
   obtain ⟨-, -, -, -, hst⟩ := OwnSA.storeR o1 HFA.out c3.c2.1
   have HO2 := Lib.hid (ownSA_reads (hst b q ⟨g1, A1, l1, c1c, A1', l1', c1c'⟩ hR1))
   rw [show F.set a ((F.getD a []).set b q) = g from HSP.out] at HO2
   have HB3 := Lib.hid (bset3' (i := b * 3) (j := b * 3 + 1) (k := b * 3 + 2) (HB2.out.trans (hc.mono HB2.out.size)) (g := ga) (by omega) (.bool g1) (.slice A1 l1 c1c) (.slice A1' l1' c1c'))
   clear o1 hst
   go_wp2
   go_ret
   first | exact ⟨_, _, _, rfl, HO2.out, HB3.out⟩ | exact ⟨_, _, ⟨_, rfl⟩, HO2.out, HB3.out⟩
 have p0 : ((way : Int) == 0) = false := by simp; omega
 have p0' : ¬ (way : Int) = 0 := by omega
 by_cases hw1 : way = 1
 ·subst hw1
  have hsp : setAt (setAt F a b q) b a q = g := by rw [← HG.out]; rfl
  have HSP := Lib.hid hsp
  have b3 := At1.mk' hcell
  have HRA := Lib.hid hra
  have HFA := Lib.hid hfa
  have hne := (OwnSA.storeR HO.out hfa hcell).1
  clear hcell hat hiq0 hra hfa hsp HG
  go_upto_region 10 with fail
  go_cut [] (fun wc => OwnSA 97 OwnR w1.heap.size wc.heap.size wc (.slice (some ⟨gf, 0, none⟩) nn c2) (setAt F a b q) ∧ Below w'.heap.size w' wc)
  case first =>
   obtain ⟨b3q0, b3q1⟩ := b3.c2; have c3 := b3.drew; have c3l := c3.lt; have hc := bdrew0 w2; go_region_with (first | (go_at_call 48; (with_reducible refine (HRK.out _).mono ?_); rintro e w1 ⟨v1, rfl, hR1, hw1⟩; obtain ⟨g1, A1, l1, c1c, A1', l1', c1c', hv1⟩ := hR1.shape; subst hv1; have c3 := c3.below hw1 c3.lt; (try clear c3q0 c3q1); obtain ⟨c3q0, c3q1⟩ := c3.c2; (try clear c3l); have c3l := c3.lt; have hc := bthen hc hw1; have hrn := HRA.out.next hc; obtain ⟨r5, hat5, -⟩ := OwnR.atS hrn (k := b) (List.getElem?_eq_getElem (by rw [HFR.out a ha]; exact hb)); obtain ⟨y0, y1, y2⟩ := hat5.c3; have z0 := OwnR.frozen hrn (b * 3); have z1 := OwnR.frozen hrn (b * 3 + 1); have z2 := OwnR.frozen hrn (b * 3 + 2)))
   all_goals
    go_wp2
    go_meet
    have o1 := (OwnSA.next Tryz.kindRR HO.out hc).more hc.size
    obtain ⟨-, -, -, -, hst⟩ := OwnSA.storeR o1 HFA.out c3.c2.1
    have o2 := hst b q ⟨g1, A1, l1, c1c, A1', l1', c1c'⟩ hR1
    refine ⟨?_, bset3' (HB2.out.trans (hc.mono HB2.out.size)) (by omega) _ _ _⟩
    rw [World.size_setCell, World.size_setCell, World.size_setCell]
    exact o2
  case rest =>
   obtain ⟨ho2, hb2⟩ := hcut
   rename World => w5
   obtain ⟨hl2, hr2⟩ := setAt_row (f := F) (a := a) (b := b) (q := q) HFR.out HFL.out
   have hq2 := setAt_at (f := F) (a := a) (b := b) (q := q) (by rw [HFL.out]; exact ha) (by rw [HFR.out a ha]; exact hb)
   clear HO HB2 HRA HFA b3
   obtain ⟨gx, cx, hfx, hcx, hcellx, hLx, hrx⟩ := ownSA_row ho2 (i := a) (by rw [hl2]; exact ha) (hr2 a ha) hn0
   obtain ⟨gy, cy, hfy, hcy, hcelly, hLy, hry⟩ := ownSA_row ho2 (i := b) (by rw [hl2]; exact hb) (hr2 b hb) hn0
   obtain ⟨r0, hat, hiq⟩ := OwnR.atS hrx hq2
   obtain ⟨r1, hat1, -⟩ := OwnR.atS hry (k := a) (List.getElem?_eq_getElem (by rw [hr2 b hb]; exact ha))
   obtain ⟨-, -, -, -, hst⟩ := OwnSA.storeR ho2 hfy hcelly
   have o2 := ownSA_reads (hst a q r0 hiq)
   have z0 := OwnR.frozen hry (a * 3)
   have z1 := OwnR.frozen hry (a * 3 + 1)
   have z2 := OwnR.frozen hry (a * 3 + 2)
   obtain ⟨rg, rA, rl, rc, rA', rl', rc'⟩ := r0
   obtain ⟨x0, x1, x2⟩ := hat.c3
   obtain ⟨y0, y1, y2⟩ := hat1.c3
   simp only [] at x0 x1 x2 o2
   have HO2 : Hid (ReadsRR _ _ (some ⟨gf, 0, none⟩) nn g) := Lib.hid (by rw [← HSP.out]; exact o2)
   have HB3 := Lib.hid (bset3' (i := a * 3) (j := a * 3 + 1) (k := a * 3 + 2) hb2 (g := gy) (by omega) (.bool rg) (.slice rA rl rc) (.slice rA' rl' rc'))
   clear ho2 hb2 hl2 hr2 hq2 hfx hfy hrx hry hat hat1 hiq hst o2 HSP HFL HFR
   go_upto_region 11 with fail
   go_region
   all_goals
    go_wp2
    go_ret
    exact ⟨_, _, _, rfl, HO2.out, by first | exact HB3.out | exact HB3.out.trans ((bdrew0 _).mono HB3.out.size)⟩
 have p1 : ((way : Int) == 1) = false := by simp; omega
 have p1' : ¬ (way : Int) = 1 := by omega
 by_cases hw2 : way = 2
 ·subst hw2
  have hsp : F.set a ((F.getD a []).drop 1) = g := by rw [← HG.out]; rfl
  have o2 := OwnS.cutRow HO.out.plain hfa hcell (u := 1) (by omega) hca
  rw [hsp] at o2
  have hs : ∀ w, (Instr.slice 97 (.slice (some ⟨ga, 0, none⟩) nn ca) (some (.int .i64 1)) none none).run Tryz.prog w = .ok (.slice (cutA (some ⟨ga, 0, none⟩) ca 1 3) (nn - 1) (ca - 1)) w := fun w => by
   have := run_cut (P := Tryz.prog) Tryz.underlying97 (Tryz.eltR).info (some ⟨ga, 0, none⟩) nn ca .i64 1 (by omega) (by omega) w
   rw [this]
   rfl
  have z0 := HO.out.frozen a
  have HO2 := Lib.hid o2
  have hL2 : w'.heap.size ≤ gf := Nat.le_trans hL (hfv gf rfl)
  have HB3 := Lib.hid (HB2.out.setCell (p := ⟨gf, a, none⟩) hL2 (.slice (cutA (some ⟨ga, 0, none⟩) ca 1 3) (nn - 1) (ca - 1)))
  clear hsp o2 hat hiq0 hra hfa HG HO HB2 HFL HFR
  go_wp2
  go_ret
  exact ⟨_, _, _, rfl, by simpa using HO2.out, HB3.out⟩
 have p2 : ((way : Int) == 2) = false := by simp; omega
 have p2' : ¬ (way : Int) = 2 := by omega
 have hsp : F = g := by rw [← HG.out]; unfold spoiltF; rw [if_neg hw0, if_neg hw1, if_neg hw2]
 have HO2 := Lib.hid (ownSA_reads HO.out)
 rw [hsp] at HO2
 clear hcell hat hiq0 hra hfa HG HO hsp
 go_wp2
 go_ret
 exact ⟨_, _, _, rfl, HO2.out, HB2.out⟩
end Go.Proofs.YtecnjlcfoobepaaGreatDoor
