import Derived.Test.YtecnjlcfoobepaaGreatDoorLinkBuildP
import Derived.Test.YtecnjlcfoobepaaGreatDoorHandPick
namespace Go.Proofs.YtecnjlcfoobepaaGreatDoor
open Go.RowKit
set_option linter.unusedSimpArgs false
set_option linter.unusedVariables false
theorem pick_of (z : Int) (m : Nat) (w : World) (b0 : -9223372036854775808 ≤ z) (b1 : z ≤ 9223372036854775807) (hm : 1 ≤ m) (hm2 : m ≤ 4611686018427387904) :
  ∃ n : Nat, n < m ∧ ∀ w, Calls Tryz.prog 14 #[.int .i64 z, .int .i64 (m : Int)] w fun e w' => e = .returned (.int .i64 (n : Int)) ∧ w = w' := by
 have h0 : 0 ≤ z % (m : Int) := Int.emod_nonneg _ (by omega)
 have h1 : z % (m : Int) < (m : Int) := Int.emod_lt_of_pos _ (by omega)
 obtain ⟨n, hn⟩ := Int.eq_ofNat_of_zero_le h0
 refine ⟨n, by omega, fun w => ?_⟩
 have := hand_pick z m w b0 b1 hm hm2
 rw [hn] at this
 exact this
theorem OwnRR.readsRR {w : World} {A : Option Addr} {n c : Nat} {f : List (List Rat)} (h : OwnRR w (.slice A n c) f) : ReadsRR w w.heap.size A n f := OwnS.readS (fun h => OwnR.reads_ h) h
structure ArgZ (w : World) (A : Option Addr) (n c : Nat) (zl : List Int) : Prop where
 rd : ReadsZ w w.heap.size A n zl
 cap : n ≤ c
 most : c ≤ 9223372036854775807
def I64 (z : Int) : Prop := -9223372036854775808 ≤ z ∧ z ≤ 9223372036854775807
structure FarF (f : List (List Rat)) : Prop where
 chk : checkFar f = 0
 one : 1 ≤ f.length
 most : f.length ≤ 7
 qs : ∀ l ∈ f, ∀ x ∈ l, QS 47 x
theorem farF_rows (zl : List Int) {wd nn : Nat} (hw : 1 ≤ wd) (hw2 : wd ≤ 2) (hn : 1 ≤ nn) (hn2 : nn ≤ 7) : FarF (farsQ (rowsOf zl wd nn)) := by
 have hrow : ∀ l ∈ rowsOf zl wd nn, l.length = wd := fun l hl => by
  obtain ⟨zs', rfl⟩ := rowsOf_row hl
  exact rowOf_len zs' wd
 refine ⟨fars_check (by rw [rowsOf_len]; omega) (by rw [rowsOf_len]; omega) fun a ha b hb => by rw [hrow a ha, hrow b hb], by rw [farsQ_len, rowsOf_len]; omega, by rw [farsQ_len, rowsOf_len]; omega, fun l hl x hx => ?_⟩
 refine (fars_QS (m := 5) (wd := wd) (fun l hl y hy => ?_) (by omega) hrow l hl x hx).mono ?_
 ·obtain ⟨zs', rfl⟩ := rowsOf_row hl
  exact rowOf_size zs' wd y hy
 ·have := Nat.mul_le_mul_right 23 hw2
  omega
set_option maxRecDepth 100000 in
set_option maxHeartbeats 4000000 in
theorem law_drawn (A : Option Addr) (n1 c1 : Nat) (zl : List Int) (zn zw : Int) (w : World) (h1 : ArgZ w A n1 c1 zl) (hn : I64 zn) (hz : I64 zw) :
  ∃ f, FarF f ∧ ∀ how w', (how = 1 ∨ how = 2 ∨ how = 3) → Tab w' → Below w.heap.size w w' → Calls Tryz.prog 27 #[.slice A n1 c1, .int .i64 zn, .int .i64 zw, .int .i64 ((how : Nat) : Int)] w' fun e w'' =>
   ∃ vf vj, e = .returned (.tuple #[vf, vj, .bool true]) ∧ OwnQQ w'' vf f ∧ OwnJ w'' vj (buildJ how f) ∧ ((∀ b, vf.ownBlock = some b → w'.heap.size ≤ b) ∧ ∀ b, vj.ownBlock = some b → w'.heap.size ≤ b) ∧ Below w'.heap.size w' w'' := by
 obtain ⟨k0, hk0, hp0⟩ := pick_of zn 7 w hn.1 hn.2 (by omega) (by omega)
 obtain ⟨k2, hk2, hp2⟩ := pick_of zw 2 w hz.1 hz.2 (by omega) (by omega)
 obtain ⟨nn, hnn⟩ : ∃ nn, k0 + 1 = nn := ⟨_, rfl⟩
 obtain ⟨wd, hwd⟩ : ∃ wd, k2 + 1 = wd := ⟨_, rfl⟩
 have hF := farF_rows zl (wd := wd) (nn := nn) (by omega) (by omega) (by omega) (by omega)
 refine ⟨_, hF, fun how w' hh hT hbw => ?_⟩
 have e1 : (k0 : Int) + 1 = (nn : Int) := by omega
 have e2 : (k2 : Int) + 1 = (wd : Int) := by omega
 have hnn7 : nn ≤ 7 := by omega
 have hwd2 : wd ≤ 2 := by omega
 have hwd1 : 1 ≤ wd := by omega
 have hnn1 : 1 ≤ nn := by omega
 have hrows := hand_rows A n1 c1 w.heap.size zl nn wd w' ⟨h1.rd.1.below hbw, h1.rd.2⟩ hbw.size h1.cap h1.most (by omega) (by omega)
 have hrow : ∀ l ∈ rowsOf zl wd nn, l.length = wd ∧ ∀ x ∈ l, QS 5 x := fun l hl => by
  obtain ⟨zs', rfl⟩ := rowsOf_row hl
  exact ⟨rowOf_len zs' wd, rowOf_size zs' wd⟩
 have hlen := rowsOf_len zl wd nn
 have hlearn : learnB (rowsOf zl wd nn) = true := by rw [rowsOf_learn (by omega) (by omega) (by omega)]; exact decide_eq_true hnn1
 have hfl := farsQ_len (rowsOf zl wd nn)
 generalize rowsOf zl wd nn = x at *
 have HP0 := Lib.hid hp0
 have HP2 := Lib.hid hp2
 have HR := Lib.hid hrows
 have HX := Lib.hid hrow
 have HLEN := Lib.hid hlen
 have HLE := Lib.hid hlearn
 have HF := Lib.hid hF
 have HFL := Lib.hid hfl
 have HT := Lib.hid hT
 have HH := Lib.hid hh
 clear hp0 hp2 hrows hrow hlen hlearn hF hfl hT h1 hn hz hbw hnn hwd hh
 go_enter Tryz.func27, Tryz.ntmps27
 go_wp2_with fail
 refine (HP0.out _).mono ?_
 rintro e w1 ⟨rfl, rfl⟩
 go_wp2_with fail
 refine (HP2.out _).mono ?_
 rintro e w1 ⟨rfl, rfl⟩
 go_wp2_with fail
 refine HR.out.mono ?_
 rintro e w1 ⟨v, rfl, ho, -, hb1⟩
 obtain ⟨A1, c1', hv⟩ := OwnS.form ho
 rw [HLEN.out] at hv
 subst hv
 have HB1 := Lib.hid hb1
 have HO := Lib.hid ho
 clear ho hb1 HR HP0 HP2
 go_wp2_with fail
 refine (hand_inRows A1 nn c1' w1.heap.size x w1 (OwnRR.readsRR HO.out) (Nat.le_refl _) (by omega) (fun l hl => ⟨by rw [(HX.out l hl).1]; omega, fun y hy => ((HX.out l hl).2 y hy).mono (by omega)⟩) (HT.out.next HB1.out)).mono ?_
 rintro e w2 ⟨v, rfl, ho, -, hb2⟩
 obtain ⟨A2, c2, hv⟩ := OwnS.form ho
 rw [HLEN.out] at hv
 subst hv
 have HB2 := Lib.hid (bthen HB1.out hb2)
 have HO2 := Lib.hid ho
 clear ho hb2 HB1 HO
 go_wp2_with fail
 refine (link_fars A2 nn c2 w2.heap.size 5 x w2 (OwnQQ.readsQQ HO2.out) (Nat.le_refl _) (by omega) (by omega) (by omega) (fun l hl => (HX.out l hl).2) (HT.out.next HB2.out) HLE.out).mono ?_
 rintro e w3 ⟨v, rfl, ho, hfr3, hb3⟩
 obtain ⟨A3, c3, hv⟩ := OwnS.form ho
 rw [HFL.out, HLEN.out] at hv
 subst hv
 have HB3 := Lib.hid (bthen HB2.out hb3)
 have HO3 := Lib.hid ho
 have HF3 := Lib.hid (fun b (hb : (Value.slice A3 nn c3).ownBlock = some b) => Nat.le_trans HB2.out.size (hfr3 b hb))
 clear ho hb3 HB2 HO2 hfr3
 go_wp2_with fail
 refine (link_build A3 nn c3 47 how (farsQ x) w3 HO3.out (by omega) (by omega) (by omega) HF.out.qs HF.out.chk HH.out (HT.out.next HB3.out)).mono ?_
 rintro e w4 ⟨v, rfl, ho, hfr4, hb4⟩
 obtain ⟨A4, c4, hv, -⟩ := OwnW.form ho
 have hbl := buildJ_len how (farsQ x)
 rw [HFL.out, HLEN.out] at hbl
 rw [hbl] at hv
 subst hv
 have HB4 := Lib.hid (bthen HB3.out hb4)
 have HO4 := Lib.hid ho
 have HF4 := Lib.hid (fun b (hb : (Value.slice A4 (nn - 1) c4).ownBlock = some b) => Nat.le_trans HB3.out.size (hfr4 b hb))
 have HO3 := Lib.hid (OwnS.next Tryz.kindQQ HO3.out hb4)
 obtain ⟨n2, hn2⟩ : ∃ n2, nn - 1 = n2 := ⟨_, rfl⟩
 have k1 : (nn : Int) - 1 = (n2 : Int) := by omega
 have k2 : (0 : Int) < (nn : Int) := by omega
 clear ho hb4 HB3 hfr4 hbl
 rw [hn2] at HO4 HF4 ⊢
 go_wp2
 go_returns
 exact ⟨_, _, rfl, HO3.out, HO4.out, ⟨HF3.out, HF4.out⟩, HB4.out⟩
end Go.Proofs.YtecnjlcfoobepaaGreatDoor
namespace Go.Proofs.YtecnjlcfoobepaaGreatDoor
open Go.RowKit
set_option linter.unusedSimpArgs false
set_option linter.unusedVariables false
def zi (z : Int) : Value := .int .i64 z
theorem make_cap {α : Type} {P : Program} (f : α → Value) (a : α) (t e : TypeId) (bytes : Nat) (ht : P.underlying t = some (.slice e)) (hinfo : (P.info? e).map (fun i => (i.zero, i.size, i.bytes)) = some (some (f a), 1, bytes)) (hz1 : (f a).cells = #[f a])
  (n c : Nat) (hnc : n ≤ c) (hbytes : bytes * c ≤ 281474976710656) (h63 : c ≤ maxLen) (w : World) :
  ∃ w', (Instr.makeSlice t (.int .i64 (n : Int)) (.int .i64 (c : Int))).run P w = .ok (.slice (some ⟨w.heap.size, 0, none⟩) n c) w' ∧ Own w' e f (.slice (some ⟨w.heap.size, 0, none⟩) n c) (List.replicate n a) ∧ Below w.heap.size w w' := by
 obtain ⟨i0, hi0, hz0, hs0, hz2⟩ := info_parts hinfo
 have h63' : (c : Int) ≤ 9223372036854775807 := by unfold maxLen at h63; omega
 have hb' : (i0.bytes : Int) * (c : Int) ≤ 281474976710656 := by
  have h : ((i0.bytes * c : Nat) : Int) ≤ 281474976710656 := by rw [hz2]; omega
  rwa [Int.natCast_mul] at h
 have hr := run_make (P := P) w t e i0 (f a) ht hi0 hz0 .i64 .i64 (n : Int) (c : Int) (by omega) (by omega) hb' h63'
 simp only [Int.toNat_natCast, hs0, Nat.mul_one] at hr
 refine ⟨_, hr, ?_, balloc1 _ _⟩
 unfold Own
 rw [List.length_replicate, hz1]
 refine ⟨by simp, .inr ⟨w.heap.size, c, madeCells #[f a] c, rfl, Nat.zero_le _, heap_alloc_new w _, hnc, h63, by simp [size_madeCells], ?_⟩⟩
 rw [madeCells_eq, Nat.mul_one]
 simp [Nat.min_eq_left hnc]
theorem own_step (n : Nat) (J : Nat → Jn) (r k : Nat) : ownAt n J r (k + 1) = if ownAt n J r k = (J k).a ∨ ownAt n J r k = (J k).b then ((n + k : Nat) : Int) else ownAt n J r k := rfl
structure FS (w : World) (m2 gg g8 gj : Nat) (vs : Value) (sz : List Int) (go : List Bool) (la : Rat) (tj : TypeId) (ja : Array Value) (wr : World) : Prop where
 size : Own wr 3 zi vs sz
 fresh : ∀ b, vs.ownBlock = some b → w.heap.size ≤ b
 gone : Own wr 4 Value.bool (.slice (some ⟨gg, 0, none⟩) m2 m2) go
 last : Blk wr g8 56 #[.bool (decide (la.num < 0)), .int .u64 (lo la.num.natAbs : Int), .string (mo la.num.natAbs), .int .u64 (lo ((qden la)) : Int), .string (mo ((qden la)))]
 bj : Blk wr gj tj ja
 hg : w.heap.size ≤ gg
 h8 : w.heap.size ≤ g8
 below : Below w.heap.size w wr
section
variable {w wr w1 : World} {m2 gg g8 gj : Nat} {vs vs' : Value} {sz : List Int} {go : List Bool} {la : Rat} {tj : TypeId} {ja : Array Value}
theorem FS.next (h : FS w m2 gg g8 gj vs sz go la tj ja wr) (hb : Below wr.heap.size wr w1) : FS w m2 gg g8 gj vs sz go la tj ja w1 :=
 ⟨h.size.below hb h.size.lt, h.fresh, h.gone.below hb h.gone.lt, h.last.below hb h.last.lt, h.bj.below hb h.bj.lt, h.hg, h.h8, h.below.trans (hb.mono h.below.size)⟩
theorem FS.setGone (h : FS w m2 gg g8 gj vs sz go la tj ja wr) (ht : tj ≠ 4) (i : Nat) (x : Bool) : FS w m2 gg g8 gj vs sz (go.set i x) la tj ja (wr.setCell ⟨gg, i, none⟩ (.bool x)) := by
 obtain ⟨cs, fr, hb⟩ := Own.blk h.gone (g := gg) rfl
 have t1 : TExc [4] 0 wr (wr.setCell ⟨gg, i, none⟩ (.bool x)) := TExc.exc ((Exc.refl gg wr).set_ i (.bool x)) (Nat.zero_le _) hb (by simp)
 exact ⟨h.size.texc t1 (by decide), h.fresh, h.gone.putc i x, h.last.texc t1 (by decide), h.bj.texc t1 (by simpa using ht), h.hg, h.h8, h.below.setCell h.hg _⟩
theorem FS.setLast (h : FS w m2 gg g8 gj vs sz go la tj ja wr) (hne : gj ≠ g8) (q : Rat) : FS w m2 gg g8 gj vs sz go q tj ja (((((wr.setCell ⟨g8, 0, none⟩ (.bool (decide (q.num < 0)))).setCell ⟨g8, 1, none⟩ (.int .u64 (lo q.num.natAbs : Int))).setCell ⟨g8, 2, none⟩ (.string (mo q.num.natAbs))).setCell ⟨g8, 3, none⟩ (.int .u64 (lo (qden q) : Int))).setCell ⟨g8, 4, none⟩ (.string (mo (qden q)))) := by
 have t1 : TExc [56] 0 wr (((((wr.setCell ⟨g8, 0, none⟩ (.bool (decide (q.num < 0)))).setCell ⟨g8, 1, none⟩ (.int .u64 (lo q.num.natAbs : Int))).setCell ⟨g8, 2, none⟩ (.string (mo q.num.natAbs))).setCell ⟨g8, 3, none⟩ (.int .u64 (lo (qden q) : Int))).setCell ⟨g8, 4, none⟩ (.string (mo (qden q)))) :=
  TExc.exc ((((((Exc.refl g8 wr).set_ 0 _).set_ 1 _).set_ 2 _).set_ 3 _).set_ 4 _) (Nat.zero_le _) h.last (by simp)
 have e1 := ((((h.last.set_ 0 (.bool (decide (q.num < 0)))).set_ 1 (.int .u64 (lo q.num.natAbs : Int))).set_ 2 (.string (mo q.num.natAbs))).set_ 3 (.int .u64 (lo (qden q) : Int))).set_ 4 (.string (mo (qden q)))
 exact ⟨h.size.texc t1 (by decide), h.fresh, h.gone.texc t1 (by decide), by simpa using e1, Blk.far5' h.bj hne _ _ _ _ _, h.hg, h.h8, bset5' h.below h.h8 _ _ _ _ _⟩
theorem FS.add {s : Int} (h : FS w m2 gg g8 gj vs sz go la tj ja wr) (ht : tj ≠ 3) (hgr : Grew wr w1 vs vs') (ho : Own w1 3 zi vs' (sz ++ [s])) : FS w m2 gg g8 gj vs' (sz ++ [s]) go la tj ja w1 := by
 have t1 : TExc [3] w.heap.size wr w1 := TExc.grew1 hgr h.size (by simp) h.fresh
 exact ⟨ho, grewL hgr h.fresh h.below.size, h.gone.texc t1 (by decide), h.last.texc t1 (by decide), h.bj.texc t1 (by simpa using ht), h.hg, h.h8, h.below.trans (t1.below h.below.size)⟩
end
structure FInv (n : Nat) (J : Nat → Jn) (k : Nat) (sz : List Int) (go : List Bool) : Prop where
 lens : sz.length = n + k
 leng : go.length = 2 * n
 val : ∀ i, i < n + k → go.getD i true = false → sz.getD i 0 = szAt n J k i
 off : ∀ i, i < n + k → szAt n J k i ≠ 0 → go.getD i true = false
 later : ∀ i, n + k ≤ i → i < 2 * n → go.getD i true = false
 small : ∀ z ∈ sz, -1000 ≤ z ∧ z ≤ 1000
 pos : ∀ i, i < n + k → go.getD i true = false → 0 < szAt n J k i
theorem finv_start (n : Nat) (J : Nat → Jn) : FInv n J 0 (List.replicate n 1) (List.replicate (2 * n) false) := by
 have hg : ∀ i, i < 2 * n → (List.replicate (2 * n) false).getD i true = false := fun i hi => by
  rw [List.getD_eq_getElem?_getD, List.getElem?_replicate, if_pos hi]
  rfl
 refine ⟨by simp, by simp, fun i hi _ => ?_, fun i hi _ => hg i (by omega), fun i _ hi => hg i hi, fun z hz => ?_, fun i hi _ => ?_⟩
 ·rw [List.getD_eq_getElem?_getD, List.getElem?_replicate, if_pos (by omega)]
  show (1 : Int) = if i < n then 1 else 0
  rw [if_pos (by omega)]
 ·have := List.eq_of_mem_replicate hz
  omega
 ·show (0 : Int) < if i < n then 1 else 0
  rw [if_pos (by omega)]
  decide
theorem getD_set {α : Type} {l : List α} {i j : Nat} {x d : α} : (l.set i x).getD j d = if i = j ∧ j < l.length then x else l.getD j d := by
 rw [List.getD_eq_getElem?_getD, List.getD_eq_getElem?_getD, List.getElem?_set]
 by_cases h : i = j
 ·subst h
  by_cases h2 : i < l.length
  ·simp [h2]
  ·simp [h2]
 ·simp [h]
theorem FInv.step {n : Nat} {J : Nat → Jn} {k A B : Nat} {S : Int} {q : Rat} {sz : List Int} {go : List Bool} (h : FInv n J k sz go) (hj : J k = ⟨A, B, S, q⟩) (hAB : A < B) (hB : B < n + k) (hk : n + k < 2 * n) (hS : 0 < S ∧ S ≤ 1000) :
  FInv n J (k + 1) (sz ++ [S]) ((go.set A true).set B true) := by
 have hsz : ∀ i, szAt n J (k + 1) i = if i = n + k then S else if i = A ∨ i = B then 0 else szAt n J k i := fun i => by
  show (if i = n + k then (J k).size else if (i : Int) = (J k).a ∨ (i : Int) = (J k).b then 0 else szAt n J k i) = _
  rw [hj]
  simp only [Int.natCast_inj]
 have hgo : ∀ i, ((go.set A true).set B true).getD i true = false ↔ i ≠ A ∧ i ≠ B ∧ go.getD i true = false := fun i => by
  rw [getD_set, getD_set]
  have hl := h.leng
  by_cases h1 : B = i
  ·subst h1
   simp [hl]
   omega
  ·by_cases h2 : A = i
   ·subst h2
    simp [h1, hl]
    omega
   ·have h3 : ¬ i = A := fun e => h2 e.symm
    have h4 : ¬ i = B := fun e => h1 e.symm
    simp [h1, h2, h3, h4]
 refine ⟨by simp [h.lens]; omega, by simp [h.leng], fun i hi hg => ?_, fun i hi hne => ?_, fun i hi hi2 => ?_, fun z hz => ?_, fun i hi hg => ?_⟩
 ·obtain ⟨h1, h2, h3⟩ := (hgo i).1 hg
  rw [hsz]
  by_cases he : i = n + k
  ·rw [if_pos he, getD_append_last (by rw [h.lens]; exact he)]
  ·rw [if_neg he, if_neg (by omega), getD_append_lt (by rw [h.lens]; omega)]
   exact h.val i (by omega) h3
 ·rw [hsz] at hne
  refine (hgo i).2 ?_
  by_cases he : i = n + k
  ·exact ⟨by omega, by omega, h.later i (by omega) (by omega)⟩
  ·rw [if_neg he] at hne
   by_cases hab : i = A ∨ i = B
   ·rw [if_pos hab] at hne
    exact absurd rfl hne
   ·rw [if_neg hab] at hne
    exact ⟨by omega, by omega, h.off i (by omega) hne⟩
 ·exact (hgo i).2 ⟨by omega, by omega, h.later i (by omega) hi2⟩
 ·rcases List.mem_append.1 hz with hz | hz
  ·exact h.small z hz
  ·obtain rfl := List.mem_singleton.1 hz
   omega
 ·obtain ⟨h1, h2, h3⟩ := (hgo i).1 hg
  rw [hsz]
  by_cases he : i = n + k
  ·rw [if_pos he]
   exact hS.1
  ·rw [if_neg he, if_neg (by omega)]
   exact h.pos i (by omega) h3
theorem FInv.fine {n : Nat} {J : Nat → Jn} {k A B : Nat} {S : Int} {q : Rat} {sz : List Int} {go : List Bool} (h : FInv n J k sz go) (hj : J k = ⟨A, B, S, q⟩) (hAB : A < B) (hB : B < n + k) (ga : go.getD A true = false) (gb : go.getD B true = false)
  (hS : S = sz.getD A 0 + sz.getD B 0) (hq : lastH J k ≤ q) : FineAt n J k := by
 have ha := h.pos A (by omega) ga
 have hb := h.pos B hB gb
 have e1 := h.val A (by omega) ga
 have e2 := h.val B hB gb
 have t1 : ((A : Nat) : Int).toNat = A := Int.toNat_natCast A
 have t2 : ((B : Nat) : Int).toNat = B := Int.toNat_natCast B
 refine ⟨?_, ?_, ?_, ?_, ?_, ?_, ?_⟩ <;> rw [hj]
 ·show (0 : Int) ≤ (A : Int)
  omega
 ·show (A : Int) < (B : Int)
  omega
 ·show (B : Int) < _
  omega
 ·show szAt n J k ((A : Nat) : Int).toNat ≠ 0
  rw [t1]
  omega
 ·show szAt n J k ((B : Nat) : Int).toNat ≠ 0
  rw [t2]
  omega
 ·show S = szAt n J k ((A : Nat) : Int).toNat + szAt n J k ((B : Nat) : Int).toNat
  rw [t1, t2, hS, e1, e2]
 ·exact hq
theorem FInv.not {n : Nat} {J : Nat → Jn} {k A B : Nat} {S : Int} {q : Rat} {sz : List Int} {go : List Bool} (h : FInv n J k sz go) (hj : J k = ⟨A, B, S, q⟩) (hf : FineAt n J k) : A < B ∧ B < n + k ∧ go.getD A true = false ∧ go.getD B true = false ∧ S = sz.getD A 0 + sz.getD B 0 ∧ lastH J k ≤ q := by
 obtain ⟨h1, h2, h3, h4, h5, h6, h7⟩ := hf
 rw [hj] at h1 h2 h3 h4 h5 h6 h7
 have h2 : (A : Int) < (B : Int) := h2
 have h3 : (B : Int) < ((n + k : Nat) : Int) := h3
 have h4 : szAt n J k ((A : Nat) : Int).toNat ≠ 0 := h4
 have h5 : szAt n J k ((B : Nat) : Int).toNat ≠ 0 := h5
 have h6 : S = szAt n J k ((A : Nat) : Int).toNat + szAt n J k ((B : Nat) : Int).toNat := h6
 rw [Int.toNat_natCast] at h4 h5
 rw [Int.toNat_natCast, Int.toNat_natCast] at h6
 have ga := h.off A (by omega) h4
 have gb := h.off B (by omega) h5
 refine ⟨by omega, by omega, ga, gb, ?_, h7⟩
 rw [h.val A (by omega) ga, h.val B (by omega) gb]
 exact h6
structure JB (m : Nat) (j : Jn) : Prop where
 size : -1000 ≤ j.size ∧ j.size ≤ 1000
 high : QS m j.high
theorem build_bound {how m : Nat} {f : List (List Rat)} (hf : SymF f) (hm : 1 ≤ m) (hq : ∀ l ∈ f, ∀ x ∈ l, QS m x) (h7 : f.length ≤ 7) : ∀ j ∈ buildJ how f, JB (64 * m + 2520) j := by
 intro j hj
 obtain ⟨k, hk, rfl⟩ := List.mem_map.1 hj
 have hk := List.mem_range.1 hk
 obtain ⟨A, B, hj, hc⟩ := joined_at (how := how) (k := k) hf (by omega)
 have hi := inv_at (how := how) hf k (by omega)
 have hw := walkC_at (how := how) (m := m) (k := k) hf hm hq (by omega) (by omega)
 have la := nodup_le (hi.nodup A) fun r hr => ((hi.mem A r).1 hr).1
 have lb := nodup_le (hi.nodup B) fun r hr => ((hi.mem B r).1 hr).1
 rw [hj.eq]
 refine ⟨?_, hw.qs.betw (by omega) A B⟩
 show -1000 ≤ (((partAt f.length (joinAt how f) k A).length + (partAt f.length (joinAt how f) k B).length : Nat) : Int) ∧ (((partAt f.length (joinAt how f) k A).length + (partAt f.length (joinAt how f) k B).length : Nat) : Int) ≤ 1000
 omega
theorem fineB_true {n : Nat} {l : List Jn} (h1 : 1 ≤ n) (h2 : n ≤ 64) (hl : l.length + 1 = n) (h : ∀ k, k < l.length → FineAt n (fun i => l.getD i default) k) : fineB n l = true := by
 unfold fineB
 simp only [decide_eq_true_eq]
 exact ⟨h1, h2, hl, h⟩
theorem fineB_len {n : Nat} {l : List Jn} (hl : l.length + 1 ≠ n) : fineB n l = false := by
 unfold fineB
 simp only [decide_eq_false_iff_not]
 exact fun h => hl h.2.2.1
theorem fineB_not {n k : Nat} {l : List Jn} (hk : k < l.length) (h : ¬ FineAt n (fun i => l.getD i default) k) : fineB n l = false := by
 unfold fineB
 simp only [decide_eq_false_iff_not]
 exact fun h2 => h (h2.2.2.2 k hk)
section
variable {α : Type} {n i : Nat} {r : Nat → α} {z : α}
def fillG (n : Nat) (r : Nat → α) (z : α) (i : Nat) : List α := (List.range n).map fun k => if k < i then r k else z
theorem fillG_zero (n : Nat) (r : Nat → α) (z : α) : fillG n r z 0 = List.replicate n z := by
 unfold fillG
 refine List.ext_getElem (by simp) fun i h1 h2 => by simp
theorem fillG_full (n : Nat) (r : Nat → α) (z : α) : fillG n r z n = (List.range n).map r := by
 unfold fillG
 refine List.map_congr_left fun i hi => ?_
 rw [if_pos (List.mem_range.1 hi)]
theorem fillG_len (n : Nat) (r : Nat → α) (z : α) (i : Nat) : (fillG n r z i).length = n := by simp [fillG]
theorem fillG_at (hi : i < n) : (fillG n r z i)[i]? = some z := by
 unfold fillG
 rw [List.getElem?_map, List.getElem?_range hi]
 simp
theorem fillG_set : (fillG n r z i).set i (r i) = fillG n r z (i + 1) := by
 unfold fillG
 refine List.ext_getElem (by simp) fun k h1 h2 => ?_
 rw [List.getElem_set]
 simp only [List.getElem_map, List.getElem_range]
 by_cases hki : i = k
 ·subst hki; rw [if_pos rfl, if_pos (by omega)]
 ·rw [if_neg hki]
  by_cases hlt : k < i
  ·rw [if_pos hlt, if_pos (show k < i + 1 by omega)]
  ·rw [if_neg hlt, if_neg (show ¬ k < i + 1 by omega)]
end
theorem FS.fresh8 {w wr : World} {m2 gg g8 gj : Nat} {vs : Value} {sz : List Int} {go : List Bool} {la : Rat} {tj : TypeId} {ja : Array Value} (h : FS w m2 gg g8 gj vs sz go la tj ja wr) (a b s : Int) (q : Rat) :
  FS w m2 gg g8 wr.heap.size vs sz go la 58 (jA ⟨a, b, s, q⟩) (wr.alloc (.cells #[.int .i64 a, .int .i64 b, .int .i64 s, .bool (decide (q.num < 0)), .int .u64 (lo q.num.natAbs : Int), .string (mo q.num.natAbs), .int .u64 (lo ((qden q)) : Int), .string (mo ((qden q)))] 58)) := by
 have h1 := h.next (balloc1 wr (.cells #[.int .i64 a, .int .i64 b, .int .i64 s, .bool (decide (q.num < 0)), .int .u64 (lo q.num.natAbs : Int), .string (mo q.num.natAbs), .int .u64 (lo ((qden q)) : Int), .string (mo ((qden q)))] 58))
 have hb := Blk.new wr 58 #[.int .i64 a, .int .i64 b, .int .i64 s, .bool (decide (q.num < 0)), .int .u64 (lo q.num.natAbs : Int), .string (mo q.num.natAbs), .int .u64 (lo ((qden q)) : Int), .string (mo ((qden q)))]
 exact ⟨h1.size, h1.fresh, h1.gone, h1.last, hb, h1.hg, h1.h8, h1.below⟩
set_option maxRecDepth 100000 in
set_option maxHeartbeats 8000000 in
theorem link_fine (A : Option Addr) (n len c M : Nat) (l : List Jn) (w : World) (h : OwnJ w (.slice A len c) l) (hn1 : 1 ≤ n) (hn : n ≤ 64) (hM : M ≤ 100000000) (hb : ∀ j ∈ l, JB M j) (hT : Tab w) :
  Calls Tryz.prog 28 #[.int .i64 (n : Int), .slice A len c] w (Ret (.bool (fineB n l)) w) := by
 have hlen : len = l.length := by
  obtain ⟨A', c', h4, -⟩ := OwnW.form h
  injection h4
 have q1 : ¬ (n : Int) < 1 := by omega
 have q2 : ¬ (n : Int) > 64 := by omega
 have q3 : ¬ (64 : Int) < (n : Int) := by omega
 obtain ⟨fb, hfb⟩ : ∃ fb, fineB n l = fb := ⟨_, rfl⟩
 have HNOT : Hid (∀ k, k < len → ¬ FineAt n (fun i => l.getD i default) k → fb = false) := Lib.hid fun k hk hf => by rw [← hfb]; exact fineB_not (by omega) hf
 have HALL : Hid (len + 1 = n → (∀ k, k < len → FineAt n (fun i => l.getD i default) k) → fb = true) := Lib.hid fun hl hk => by rw [← hfb]; exact fineB_true hn1 hn (by omega) (fun k h => hk k (by omega))
 have HLEN : Hid (len + 1 ≠ n → fb = false) := Lib.hid fun hl => by rw [← hfb]; exact fineB_len (by omega)
 rw [hfb]
 have HO := Lib.hid h
 have HB := Lib.hid hb
 have HT := Lib.hid hT
 clear h hb hfb hT
 obtain ⟨m2, hm2⟩ : ∃ m2, 2 * n = m2 := ⟨_, rfl⟩
 have k2 : (2 : Int) * (n : Int) = (m2 : Int) := by omega
 go_enter Tryz.func28, Tryz.ntmps28
 by_cases hl : len + 1 = n
 ·have k1 : (n : Int) - 1 = (len : Int) := by omega
  obtain ⟨w1, hmk, ho1, hb1⟩ := make_cap (P := Tryz.prog) zi 0 22 3 8 (Tryz.eltIntR).under (Tryz.eltIntR).info rfl n m2 (by omega) (by omega) (by unfold maxLen; omega) w
  obtain ⟨gs, hgs⟩ : ∃ gs, w.heap.size = gs := ⟨_, rfl⟩
  have hgs1 : w.heap.size ≤ gs := by omega
  rw [← fillG_zero n (fun _ => (1 : Int))] at ho1
  rw [hgs] at hmk ho1
  have HO1 := Lib.hid ho1
  have HB1 := Lib.hid hb1
  clear ho1 hb1 hgs
  go_wp2_with fail
  clear hmk
  go_loopw [30] (fun p wr => ∃ i : Nat, i ≤ n ∧ p = .int .i64 (i : Int) ∧ Own wr 3 zi (.slice (some ⟨gs, 0, none⟩) n m2) (fillG n (fun _ => (1 : Int)) 0 i) ∧ Below w.heap.size w wr) (fun p _ => n - (intOf p).toNat)
  case atStart => exact ⟨0, by omega, rfl, HO1.out, HB1.out⟩
  case round =>
   obtain ⟨i, hi, rfl, ho, hbw⟩ := hrel
   rename World => wr
   clear HO1 HB1
   by_cases hik : i < n
   ·have q4 : (i : Int) < (n : Int) := by omega
    have hst := ho.putc i (1 : Int)
    have hfz := ho.frozenc i
    have hcl := Own.cellf (by rw [fillG_len]; exact ho) (fillG_at (r := fun _ => (1 : Int)) (z := 0) hik)
    rw [fillG_set (r := fun _ => (1 : Int))] at hst
    unfold zi at hst hcl
    have HST := Lib.hid hst
    have HBW := Lib.hid hbw
    clear ho hbw hst
    go_wp2
    exact ⟨⟨i + 1, by omega, by go_num, HST.out, HBW.out.setCell hgs1 _⟩, by simp [intOf]; omega⟩
   ·obtain rfl : i = n := by omega
    have q4 : ¬ (i : Int) < (i : Int) := by omega
    obtain ⟨w2, hmk, ho2, hb2⟩ := make_cap (P := Tryz.prog) Value.bool false 105 4 1 (Tryz.eltBool).under (Tryz.eltBool).info rfl m2 m2 (Nat.le_refl _) (by omega) (by unfold maxLen; omega) wr
    obtain ⟨gg, hgg⟩ : ∃ gg, wr.heap.size = gg := ⟨_, rfl⟩
    have hgg1 : w.heap.size ≤ gg := by have := hbw.size; omega
    rw [hgg] at hmk ho2
    have ho3 := ho.below hb2 ho.lt
    have hbw2 := hbw.trans (hb2.mono hbw.size)
    rw [fillG_full] at ho3
    have hrep : (List.range i).map (fun _ => (1 : Int)) = List.replicate i 1 := List.ext_getElem (by simp) fun a h1 h2 => by simp
    rw [hrep] at ho3
    have HF : Hid (FS w m2 gg w2.heap.size w2.heap.size (.slice (some ⟨gs, 0, none⟩) i m2) (List.replicate i 1) (List.replicate m2 false) 0 56 #[.bool false, .int .u64 0, .string ⟨#[]⟩, .int .u64 0, .string ⟨#[]⟩] (w2.alloc (.cells #[.bool false, .int .u64 0, .string ⟨#[]⟩, .int .u64 0, .string ⟨#[]⟩] 56))) := Lib.hid
     ⟨ho3.alloc _, fun b hb => by
       have hb : some gs = some b := hb
       injection hb with hb
       omega, ho2.alloc _, Blk.new w2 56 #[.bool false, .int .u64 0, .string ⟨#[]⟩, .int .u64 0, .string ⟨#[]⟩], Blk.new w2 56 #[.bool false, .int .u64 0, .string ⟨#[]⟩, .int .u64 0, .string ⟨#[]⟩], hgg1, hbw2.size, hbw2.trans ((balloc1 w2 _).mono hbw2.size)⟩
    have HI := Lib.hid (finv_start i (fun i => l.getD i default))
    rw [hm2] at HI
    obtain ⟨g8, hg8⟩ : ∃ g8, w2.heap.size = g8 := ⟨_, rfl⟩
    rw [hg8] at HF
    have hgg8 : gg < g8 := by have := ho2.lt gg rfl; omega
    clear ho hbw hb2 ho2 ho3 hbw2 hrep hgg
    go_wp2_with fail
    clear hmk
    (try rw [hg8])
    clear hg8
    go_loopw [5, 42] (fun vs p wr => ∃ k sz go la gj tj ja, k ≤ len ∧ p = .int .i64 ((k : Nat) : Int) ∧ Hid (FInv i (fun i => l.getD i default) k sz go) ∧ Hid (∀ m, m < k → FineAt i (fun i => l.getD i default) m) ∧ Hid (lastH (fun i => l.getD i default) k = la ∧ QS (M + 1) la) ∧ FS w m2 gg g8 gj vs sz go la tj ja wr) (fun _ p _ => len - (intOf p).toNat)
    case atStart => exact ⟨0, _, _, 0, _, _, _, by omega, rfl, HI, Lib.hid fun m hm => absurd hm (by omega), Lib.hid ⟨rfl, ⟨Nat.zero_le _, Nat.le_add_left 1 M⟩⟩, HF.out⟩
    case round =>
     obtain ⟨k, sz, go, la, gj0, tj0, ja0, hk, rfl, hinv, hall, hla, hfs⟩ := hrel
     rename World => wa
     clear HF HI q4
     obtain ⟨A5, c5, hv5, -⟩ := Own.form hfs.size
     rw [hinv.out.lens] at hv5
     subst hv5
     generalize hN : i + k = N at hfs ⊢
     have hN1 : N ≤ i + k := by omega
     have hN2 : i + k ≤ N := by omega
     clear hN
     have hbw := hfs.below
     by_cases hkl : k < len
     ·have q5 : (k : Int) < (len : Int) := by omega
      obtain ⟨j, hj⟩ : ∃ j, l[k]? = some j := ⟨_, List.getElem?_eq_getElem (by omega)⟩
      have hjd : l.getD k default = j := by rw [List.getD_eq_getElem?_getD, hj]; rfl
      have hjb := HB.out j (List.mem_of_getElem? hj)
      obtain ⟨-, g1, hA1⟩ := OwnJ.addr HO.out (by omega)
      subst hA1
      have hoj := OwnW.next HO.out hbw
      obtain ⟨x0, x1, x2, x3, x4, x5, x6, x7⟩ := (OwnJ.at_ hoj hj).c8
      obtain ⟨a, b, s, q⟩ := j
      obtain ⟨⟨s1, s2⟩, hq⟩ := hjb
      have HF := Lib.hid (hfs.fresh8 a b s q)
      have hl8 := hfs.last.lt
      clear hfs hbw hoj
      go_upto_region 13 with fail
      go_cut [10] (fun v wc => ∃ gj, v = .pointer (some ⟨gj, 0, none⟩) ∧ g8 < gj ∧ FS w m2 gg g8 gj (.slice A5 N c5) sz go la 58 (jA ⟨a, b, s, q⟩) wc)
      case first =>
       go_wp2
       go_meet
       (with_reducible refine ⟨wa.heap.size, rfl, hl8, ?_⟩)
       with_reducible exact HF.out
      case rest =>
       obtain ⟨gj, rfl, hne, hfs⟩ := hcut
       rename World => wc
       clear x0 x1 x2 x3 x4 x5 x6 x7 HF
       have hjb : Blk wc gj 58 #[.int .i64 a, .int .i64 b, .int .i64 s, .bool (decide (q.num < 0)), .int .u64 (lo q.num.natAbs : Int), .string (mo q.num.natAbs), .int .u64 (lo ((qden q)) : Int), .string (mo ((qden q)))] := hfs.bj
       obtain ⟨x0, x1, x2, x3, x4, x5, x6, x7⟩ := hjb.c8
       have HBW := Lib.hid hfs.below
       clear hjb
       by_cases ha : a < 0
       ·have HZ := Lib.hid (HNOT.out k hkl fun hf => by
         have e : 0 ≤ (l.getD k default).a := hf.a0
         rw [hjd] at e
         exact absurd ha (by show ¬ a < 0; have e : (0 : Int) ≤ a := e; omega))
        clear hfs hj hjd
        go_wp2
        go_returns
        exact ⟨by rw [HZ.out]; rfl, HBW.out⟩
       obtain ⟨A, rfl⟩ : ∃ A : Nat, a = (A : Int) := ⟨a.toNat, by omega⟩
       by_cases hab : b ≤ (A : Int)
       ·have HZ := Lib.hid (HNOT.out k hkl fun hf => by
         have e : (l.getD k default).a < (l.getD k default).b := hf.ab
         rw [hjd] at e
         have e : (A : Int) < b := e
         omega)
        have e1 : ¬ (A : Int) < b := by omega
        clear hfs hj hjd
        go_wp2
        go_returns
        exact ⟨by rw [HZ.out]; rfl, HBW.out⟩
       obtain ⟨B, rfl⟩ : ∃ B : Nat, b = (B : Int) := ⟨b.toNat, by omega⟩
       have hAB : A < B := by omega
       have e1 : (A : Int) < (B : Int) := by omega
       have HNF : Hid (¬ (A < B ∧ B < i + k ∧ go.getD A true = false ∧ go.getD B true = false ∧ s = sz.getD A 0 + sz.getD B 0 ∧ la ≤ q) → fb = false) := Lib.hid fun hn => HNOT.out k hkl fun hf => hn (by
        have := hinv.out.not hjd hf
        rw [hla.out.1] at this
        exact this)
       by_cases hbn : N ≤ B
       ·have e2 : (N : Int) ≤ (B : Int) := by omega
        have HZ := Lib.hid (HNF.out fun h => by omega)
        clear hfs hj hjd
        go_wp2
        go_returns
        exact ⟨by rw [HZ.out]; rfl, HBW.out⟩
       have e2 : ¬ (N : Int) ≤ (B : Int) := by omega
       have e3 : (B : Int) < (N : Int) := by omega
       have e4 : (A : Int) < (N : Int) := by omega
       have e5 : (A : Int) < (m2 : Int) := by omega
       have e6 : (B : Int) < (m2 : Int) := by omega
       have hgo := hfs.gone
       have hgl := hinv.out.leng
       rw [hm2] at hgl
       rw [← hgl] at hgo
       obtain ⟨xa, hxa⟩ : ∃ x, go[A]? = some x := ⟨_, List.getElem?_eq_getElem (by omega)⟩
       obtain ⟨xb, hxb⟩ : ∃ x, go[B]? = some x := ⟨_, List.getElem?_eq_getElem (by omega)⟩
       have y1 := Own.cellf hgo hxa
       have y2 := Own.cellf hgo hxb
       rw [hgl] at hgo
       have hga : go.getD A true = xa := by rw [List.getD_eq_getElem?_getD, hxa]; rfl
       have hgb : go.getD B true = xb := by rw [List.getD_eq_getElem?_getD, hxb]; rfl
       cases xa with
       | true =>
        have HZ := Lib.hid (HNF.out fun h => by rw [hga] at h; exact absurd h.2.2.1 (by decide))
        clear hfs hj hjd hxa hxb hga hgb hgo
        go_wp2
        go_returns
        exact ⟨by rw [HZ.out]; rfl, HBW.out⟩
       | false =>
        cases xb with
        | true =>
         have HZ := Lib.hid (HNF.out fun h => by rw [hgb] at h; exact absurd h.2.2.2.1 (by decide))
         clear hfs hj hjd hxa hxb hga hgb hgo
         go_wp2
         go_returns
         exact ⟨by rw [HZ.out]; rfl, HBW.out⟩
        | false =>
         obtain ⟨za, hza⟩ : ∃ z, sz[A]? = some z := ⟨_, List.getElem?_eq_getElem (by rw [hinv.out.lens]; omega)⟩
         obtain ⟨zb, hzb⟩ : ∃ z, sz[B]? = some z := ⟨_, List.getElem?_eq_getElem (by rw [hinv.out.lens]; omega)⟩
         have b1 := hinv.out.small za (List.mem_of_getElem? hza)
         have b2 := hinv.out.small zb (List.mem_of_getElem? hzb)
         have hda : sz.getD A 0 = za := by rw [List.getD_eq_getElem?_getD, hza]; rfl
         have hdb : sz.getD B 0 = zb := by rw [List.getD_eq_getElem?_getD, hzb]; rfl
         rw [hda, hdb] at HNF
         have hsz := hfs.size
         obtain ⟨g5, rfl⟩ := Own.addr hsz (by rw [hinv.out.lens]; omega)
         have hsl : sz.length = N := by have := hinv.out.lens; omega
         rw [← hsl] at hsz
         have y3 := Own.cellf hsz hza
         have y4 := Own.cellf hsz hzb
         unfold zi at y3 y4
         have HFS := Lib.hid hfs
         have HFINE : Hid (s = za + zb → la ≤ q → FineAt i (fun i => l.getD i default) k ∧ 0 < za + zb) := Lib.hid fun hs hq => ⟨hinv.out.fine hjd hAB (by omega) hga hgb (by rw [hda, hdb]; exact hs) (by rw [hla.out.1]; exact hq), by
          have h1 := hinv.out.pos A (by omega) hga
          have h2 := hinv.out.pos B (by omega) hgb
          have h3 := hinv.out.val A (by omega) hga
          have h4 := hinv.out.val B (by omega) hgb
          omega⟩
         have HD := Lib.hid hjd
         have HQ := Lib.hid hq
         have HXA := Lib.hid (And.intro hxa (And.intro hxb hgl))
         clear hfs hj hjd hxa hxb hga hgb hgo hza hzb hda hdb hsz hq hsl hgl
         by_cases hs : za + zb = s
         ·have e8 : (s == za + zb) = true := by simp [hs]
          have e9 : (s != za + zb) = false := by simp [hs]
          have s1 : -1000 ≤ s := s1
          have s2 : s ≤ 1000 := s2
          have hw : IntKind.i64.wrap s = s := IntWalk.i64_in _ (by omega)
          have hs := Lib.hid hs
          have hcm := fun w => frac_cmp q la w (HQ.out.mono (by omega)) (hla.out.2.mono (by omega))
          have hlt := cmp_lt la q
          generalize cmpQ q la = cv at *
          unfold qV at hcm
          have HCM := Lib.hid hcm
          have HLT := Lib.hid hlt
          clear hcm hlt
          have b0 : Blk wc gj 58 #[.int .i64 (A : Int), .int .i64 (B : Int), .int .i64 s, .bool (decide (q.num < 0)), .int .u64 (lo q.num.natAbs : Int), .string (mo q.num.natAbs), .int .u64 (lo ((qden q)) : Int), .string (mo ((qden q)))] := HFS.out.bj
          have b5 := HFS.out.last
          have b3 := At1.mk' y3
          have b4 := At1.mk' y4
          clear y3 y4
          by_cases hcv : cv < 0
          ·have q9 : decide (cv < 0) = true := decide_eq_true hcv
           have HZ := Lib.hid (HNF.out fun h => by
            have := HLT.out.1 hcv
            have h2 := h.2.2.2.2.2
            grind)
           go_upto_region 16 with fail
           clear x0 x1 x2 x3 x4 x5 x6 x7 y1 y2
           go_cut [97] (fun v wd => v = .bool true ∧ Below wc.heap.size wc wd)
           case first =>
            obtain ⟨b0q0, b0q1, b0q2, b0q3, b0q4, b0q5, b0q6, b0q7⟩ := b0.c8; have c0 := b0.drew; have c0l := c0.lt; obtain ⟨b5q0, b5q1, b5q2, b5q3, b5q4⟩ := b5.c5; have c5 := b5.drew; have c5l := c5.lt; obtain ⟨b3q0, b3q1⟩ := b3.c2; have c3 := b3.drew; have c3l := c3.lt; obtain ⟨b4q0, b4q1⟩ := b4.c2; have c4 := b4.drew; have c4l := c4.lt; have hc := bdrew0 wc; go_region_held3 (fun w' => w'.cell? ⟨gj, 0, none⟩ = some (.int .i64 (A : Int)) ∧ w'.cell? ⟨gj, 1, none⟩ = some (.int .i64 (B : Int)) ∧ w'.cell? ⟨gj, 2, none⟩ = some (.int .i64 s) ∧ w'.cell? ⟨gj, 3, none⟩ = some (.bool (decide (q.num < 0))) ∧ w'.cell? ⟨gj, 4, none⟩ = some (.int .u64 (lo q.num.natAbs : Int)) ∧ w'.cell? ⟨gj, 5, none⟩ = some (.string (mo q.num.natAbs)) ∧ w'.cell? ⟨gj, 6, none⟩ = some (.int .u64 (lo (qden q) : Int)) ∧ w'.cell? ⟨gj, 7, none⟩ = some (.string (mo (qden q))) ∧ w'.cell? ⟨g8, 0, none⟩ = some (.bool (decide (la.num < 0))) ∧ w'.cell? ⟨g8, 1, none⟩ = some (.int .u64 (lo la.num.natAbs : Int)) ∧ w'.cell? ⟨g8, 2, none⟩ = some (.string (mo la.num.natAbs)) ∧ w'.cell? ⟨g8, 3, none⟩ = some (.int .u64 (lo ((qden la)) : Int)) ∧ w'.cell? ⟨g8, 4, none⟩ = some (.string (mo ((qden la)))) ∧ w'.cell? ⟨g5, A, none⟩ = some (.int .i64 za) ∧ w'.cell? ⟨g5, B, none⟩ = some (.int .i64 zb)) (go_keep) (first | (go_at_call 29; (with_reducible refine (HCM.out _).mono ?_); rintro e w1 ⟨rfl, hw1⟩; have c0 := c0.below hw1 c0.lt; (try clear c0q0 c0q1 c0q2 c0q3 c0q4 c0q5 c0q6 c0q7); obtain ⟨c0q0, c0q1, c0q2, c0q3, c0q4, c0q5, c0q6, c0q7⟩ := c0.c8; (try clear c0l); have c0l := c0.lt; have c5 := c5.below hw1 c5.lt; (try clear c5q0 c5q1 c5q2 c5q3 c5q4); obtain ⟨c5q0, c5q1, c5q2, c5q3, c5q4⟩ := c5.c5; (try clear c5l); have c5l := c5.lt; have c3 := c3.below hw1 c3.lt; (try clear c3q0 c3q1); obtain ⟨c3q0, c3q1⟩ := c3.c2; (try clear c3l); have c3l := c3.lt; have c4 := c4.below hw1 c4.lt; (try clear c4q0 c4q1); obtain ⟨c4q0, c4q1⟩ := c4.c2; (try clear c4l); have c4l := c4.lt; have hc := bthen hc hw1))
            all_goals
             go_wp2
             go_meet
             exact ⟨rfl, hc⟩
           case rest =>
            obtain ⟨rfl, hbd⟩ := hcut
            go_wp2
            go_returns
            exact ⟨by rw [HZ.out]; rfl, HBW.out.trans (hbd.mono HBW.out.size)⟩
          ·have q9 : decide (cv < 0) = false := decide_eq_false hcv
           have hqq : la ≤ q := Rat.not_lt.1 fun h => hcv (HLT.out.2 h)
           go_upto_region 16 with fail
           clear x0 x1 x2 x3 x4 x5 x6 x7 y1 y2
           go_cut [97] (fun v wd => v = .bool false ∧ Below wc.heap.size wc wd)
           case first =>
            obtain ⟨b0q0, b0q1, b0q2, b0q3, b0q4, b0q5, b0q6, b0q7⟩ := b0.c8; have c0 := b0.drew; have c0l := c0.lt; obtain ⟨b5q0, b5q1, b5q2, b5q3, b5q4⟩ := b5.c5; have c5 := b5.drew; have c5l := c5.lt; obtain ⟨b3q0, b3q1⟩ := b3.c2; have c3 := b3.drew; have c3l := c3.lt; obtain ⟨b4q0, b4q1⟩ := b4.c2; have c4 := b4.drew; have c4l := c4.lt; have hc := bdrew0 wc; go_region_held3 (fun w' => w'.cell? ⟨gj, 0, none⟩ = some (.int .i64 (A : Int)) ∧ w'.cell? ⟨gj, 1, none⟩ = some (.int .i64 (B : Int)) ∧ w'.cell? ⟨gj, 2, none⟩ = some (.int .i64 s) ∧ w'.cell? ⟨gj, 3, none⟩ = some (.bool (decide (q.num < 0))) ∧ w'.cell? ⟨gj, 4, none⟩ = some (.int .u64 (lo q.num.natAbs : Int)) ∧ w'.cell? ⟨gj, 5, none⟩ = some (.string (mo q.num.natAbs)) ∧ w'.cell? ⟨gj, 6, none⟩ = some (.int .u64 (lo (qden q) : Int)) ∧ w'.cell? ⟨gj, 7, none⟩ = some (.string (mo (qden q))) ∧ w'.cell? ⟨g8, 0, none⟩ = some (.bool (decide (la.num < 0))) ∧ w'.cell? ⟨g8, 1, none⟩ = some (.int .u64 (lo la.num.natAbs : Int)) ∧ w'.cell? ⟨g8, 2, none⟩ = some (.string (mo la.num.natAbs)) ∧ w'.cell? ⟨g8, 3, none⟩ = some (.int .u64 (lo ((qden la)) : Int)) ∧ w'.cell? ⟨g8, 4, none⟩ = some (.string (mo ((qden la)))) ∧ w'.cell? ⟨g5, A, none⟩ = some (.int .i64 za) ∧ w'.cell? ⟨g5, B, none⟩ = some (.int .i64 zb)) (go_keep) (first | (go_at_call 29; (with_reducible refine (HCM.out _).mono ?_); rintro e w1 ⟨rfl, hw1⟩; have c0 := c0.below hw1 c0.lt; (try clear c0q0 c0q1 c0q2 c0q3 c0q4 c0q5 c0q6 c0q7); obtain ⟨c0q0, c0q1, c0q2, c0q3, c0q4, c0q5, c0q6, c0q7⟩ := c0.c8; (try clear c0l); have c0l := c0.lt; have c5 := c5.below hw1 c5.lt; (try clear c5q0 c5q1 c5q2 c5q3 c5q4); obtain ⟨c5q0, c5q1, c5q2, c5q3, c5q4⟩ := c5.c5; (try clear c5l); have c5l := c5.lt; have c3 := c3.below hw1 c3.lt; (try clear c3q0 c3q1); obtain ⟨c3q0, c3q1⟩ := c3.c2; (try clear c3l); have c3l := c3.lt; have c4 := c4.below hw1 c4.lt; (try clear c4q0 c4q1); obtain ⟨c4q0, c4q1⟩ := c4.c2; (try clear c4l); have c4l := c4.lt; have hc := bthen hc hw1))
            all_goals
             go_wp2
             go_meet
             exact ⟨rfl, hc⟩
           case rest =>
            obtain ⟨rfl, hbd⟩ := hcut
            rename World => wd
            obtain ⟨hfine, hpos⟩ := HFINE.out hs.out.symm hqq
            have hse : 0 < s ∧ s ≤ 1000 := by have := hs.out; have s2 : s ≤ 1000 := s2; omega
            have HINV2 : Hid (FInv i (fun i => l.getD i default) (k + 1) (sz ++ [s]) ((go.set A true).set B true)) := Lib.hid (hinv.out.step HD.out hAB (by omega) (by omega) hse)
            have HALL2 : Hid (∀ m, m < k + 1 → FineAt i (fun i => l.getD i default) m) := Lib.hid fun m hm => by
             by_cases hmk : m = k
             ·subst hmk
              exact hfine
             ·exact hall.out m (by omega)
            have HLA2 : Hid (lastH (fun i => l.getD i default) (k + 1) = q ∧ QS (M + 1) q) := Lib.hid ⟨by
             show (l.getD k default).high = q
             rw [HD.out], HQ.out.mono (by omega)⟩
            have HF1 := Lib.hid (HFS.out.next hbd)
            have hjb : Blk wd gj 58 #[.int .i64 (A : Int), .int .i64 (B : Int), .int .i64 s, .bool (decide (q.num < 0)), .int .u64 (lo q.num.natAbs : Int), .string (mo q.num.natAbs), .int .u64 (lo ((qden q)) : Int), .string (mo ((qden q)))] := HF1.out.bj
            obtain ⟨x0, x1, x2, x3, x4, x5, x6, x7⟩ := hjb.c8
            have hgo := HF1.out.gone
            have z1 := hgo.frozenc A
            have z2 := hgo.frozenc B
            rw [← HXA.out.2.2] at hgo
            have y1 := Own.cellf hgo HXA.out.1
            have y2 := Own.cellf hgo HXA.out.2.1
            have bl := HF1.out.last
            obtain ⟨blq0, blq1, blq2, blq3, blq4, blf0, blf1, blf2, blf3, blf4, bls0, bls1, bls2, bls3, bls4⟩ := bl.f5
            have n1 : ¬ gg = gj := by omega
            have n2 : ¬ gj = gg := by omega
            have n3 : ¬ gg = g8 := by omega
            have n4 : ¬ g8 = gg := by omega
            have n5 : ¬ gj = g8 := by omega
            have n6 : ¬ g8 = gj := by omega
            have n7 : ¬ A = B := by omega
            have n8 : ¬ B = A := by omega
            have HSL := Lib.hid (show sz.length ≤ 1000 by rw [hinv.out.lens]; omega)
            clear hjb hgo bl hbd b0 b3 b4 b5 HCM HLT HFINE hfine hqq hpos HNF HFS
            go_upto_region 18 with fail
            go_cut [] (fun we => FS w m2 gg g8 gj (.slice (some ⟨g5, 0, none⟩) N c5) sz ((go.set A true).set B true) q 58 (jA ⟨A, B, s, q⟩) we)
            case first =>
             go_region
             all_goals
              go_wp2
              go_meet
              have F1 := ((HF1.out.setGone (by decide) A true).setGone (by decide) B true).setLast n5 q
              with_reducible exact F1.next (bdrew0 _)
            case rest =>
             rename World => we
             have hfs := hcut
             have hjb : Blk we gj 58 #[.int .i64 (A : Int), .int .i64 (B : Int), .int .i64 s, .bool (decide (q.num < 0)), .int .u64 (lo q.num.natAbs : Int), .string (mo q.num.natAbs), .int .u64 (lo ((qden q)) : Int), .string (mo ((qden q)))] := hfs.bj
             clear x0 x1 x2 x3 x4 x5 x6 x7 z1 z2 y1 y2
             clear blq0 blq1 blq2 blq3 blq4 blf0 blf1 blf2 blf3 blf4 bls0 bls1 bls2 bls3 bls4
             obtain ⟨x0, x1, x2, x3, x4, x5, x6, x7⟩ := hjb.c8
             have HFE := Lib.hid hfs
             clear hjb hfs hcut HF1
             go_wp2_with (at_builtin; refine app1 (f := zi) Tryz.eltIntR rfl (.tmp 108) (.tmp 111) rfl we _ sz s (.int .i64 s) rfl rfl HFE.out.size rfl rfl (by have := HSL.out; unfold maxLen; omega) (by have := HSL.out; omega) ?_; intro v7 w7 ho7 hg7; obtain ⟨A7, n7, k7c, hv7⟩ := Own.form3 ho7; subst hv7; have js7 := Lib.hid (HFE.out.add (by decide) hg7 ho7); clear ho7 hg7)
             exact ⟨⟨k + 1, _, _, _, _, _, _, by omega, by go_num, HINV2, HALL2, HLA2, js7.out⟩, by simp [intOf]; omega⟩
         ·have e7 : ¬ s = za + zb := fun e => hs e.symm
          have e8 : (s == za + zb) = false := by simp; omega
          have e9 : (s != za + zb) = true := by simp; omega
          have HZ := Lib.hid (HNF.out fun h => e7 h.2.2.2.2.1)
          go_upto_region 16 with fail
          clear y1 y2
          go_cut [97] (fun v wd => v = .bool true ∧ Below wc.heap.size wc wd)
          case first =>
           go_region
           all_goals
            go_wp2
            go_meet
            exact ⟨rfl, bdrew0 _⟩
          case rest =>
           obtain ⟨rfl, hbd⟩ := hcut
           go_wp2
           go_returns
           exact ⟨by rw [HZ.out]; rfl, HBW.out.trans (hbd.mono HBW.out.size)⟩
     ·obtain rfl : k = len := by omega
      have q5 : ¬ (k : Int) < (k : Int) := by omega
      have HZ := Lib.hid (HALL.out hl hall.out)
      have HBW := Lib.hid hbw
      clear hfs hbw
      go_wp2
      go_returns
      exact ⟨by rw [HZ.out]; rfl, HBW.out⟩
 ·have e1 : ¬ (len : Int) = (n : Int) - 1 := by omega
  have e2 : ((len : Int) == (n : Int) - 1) = false := by simp; omega
  have e3 : ((len : Int) != (n : Int) - 1) = true := by simp; omega
  go_wp2
  go_returns
  exact ⟨by rw [HLEN.out hl]; rfl, Below.refl _ _⟩
structure LJ (f : List (List Rat)) (how : Nat) (l : List Jn) : Prop where
 fine : fineB f.length l = true
 jb : ∀ j ∈ l, JB 5528 j
 len : l.length + 1 = f.length
 sym : SymF f
 pos : PosF f
 diag : ∀ i, i < f.length → dOf f i i = 0
 at_ : ∀ k, k + 1 < f.length → l.getD k default = joinAt how f k
theorem lj_of (how : Nat) {f : List (List Rat)} (hF : FarF f) : LJ f how (buildJ how f) := by
 obtain ⟨hf, hp, hd, h1, h64⟩ := symF_of hF.chk
 exact ⟨fine_build hf hp h1 h64, fun j hj => build_bound hf (by omega) hF.qs hF.most j hj, by rw [buildJ_len]; omega, hf, hp, hd, fun k hk => buildJ_at hk⟩
end Go.Proofs.YtecnjlcfoobepaaGreatDoor
