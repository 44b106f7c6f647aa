import Derived.Test.YtecnjlcfoobepaaGreatDoorLinkBuildP
namespace Go.Proofs.YtecnjlcfoobepaaGreatDoor
set_option maxRecDepth 100000
set_option maxHeartbeats 8000000
open Go.RowKit
set_option linter.all false
theorem Yy (z : Int) (m : Nat) (w : World) (b0 : -9223372036854775808 <= z) (b1 : z <= 9223372036854775807) (hm : 1 <= m) (bG : m <= 4611686018427387904) :
  ∃ n : Nat, n < m /\ ∀ w, Calls Tryz.prog 14 #[.int .i64 z, .int .i64 (m : Int)] w fun e w' => e = .returned (.int .i64 (n : Int)) /\ w = w' := by
 have h0 : 0 <= z % (m : Int) := Int.emod_nonneg _ (by omega)
 have h1 : z % (m : Int) < (m : Int) := Int.emod_lt_of_pos _ (by omega)
 obtain ⟨n, hn⟩ := Int.eq_ofNat_of_zero_le h0
 refine ⟨n, by omega, fun w => ?_⟩
 have := Jc5 z m w b0 b1 hm bG
 rw [hn] at this
 exact this
theorem OwnRR.readsRR {w : World} {A : Option Addr} {n c : Nat} {f : List (List Rat)} (h : OwnRR w (.slice A n c) f) : Jcq w w.heap.size A n f := OwnS.readS (fun h => OwnR.reads_ h) h
structure ArgZ (w : World) (A : Option Addr) (n c : Nat) (zl : List Int) : Prop where
 rd : ReadsZ w w.heap.size A n zl
 cap : n <= c
 most : c <= 9223372036854775807
def I64 (z : Int) : Prop := -9223372036854775808 <= z /\ z <= 9223372036854775807
structure FarF (f : List (List Rat)) : Prop where
 chk : Xi f = 0
 one : 1 <= f.length
 most : f.length <= 7
 qs : ∀ l ∈ f, ∀ x ∈ l, QS 47 x
theorem Jn5 (zl : List Int) {wd nn : Nat} (hw : 1 <= wd) (dY : wd <= 2) (hn : 1 <= nn) (eR : nn <= 7) : FarF (Xr (Zv zl wd nn)) := by
 have y8 : ∀ l ∈ Zv zl wd nn, l.length = wd := fun l hl => by
  obtain ⟨zs', rfl⟩ := Jbt hl
  exact Ja7 zs' wd
 refine ⟨Je3 (by rw [Yr]; omega) (by rw [Yr]; omega) fun a ha b hb => by rw [y8 a ha, y8 b hb], by rw [Yu, Yr]; omega, by rw [Yu, Yr]; omega, fun l hl x hx => ?_⟩
 refine (Jml (m := 5) (wd := wd) (fun l hl y hy => ?_) (by omega) y8 l hl x hx).mono ?_
 ·obtain ⟨zs', rfl⟩ := Jbt hl
  exact Jed zs' wd y hy
 have := Nat.mul_le_mul_right 23 dY
 omega
def zi (z : Int) : Value := .int .i64 z
theorem Jap {α : Type} {P : Program} (f : α -> Value) (a : α) (t e : TypeId) (bytes : Nat) (ht : P.underlying t = some (.slice e)) (aW : (P.info? e).map (fun i => (i.zero, i.size, i.bytes)) = some (some (f a), 1, bytes)) (dZ : (f a).cells = #[f a])
  (n c : Nat) (dM : n <= c) (bP : bytes * c <= 281474976710656) (dN : c <= maxLen) (w : World) :
  ∃ w', (Instr.makeSlice t (.int .i64 (n : Int)) (.int .i64 (c : Int))).run P w = .ok (.slice (some ⟨w.heap.size, 0, none⟩) n c) w' /\ Own w' e f (.slice (some ⟨w.heap.size, 0, none⟩) n c) (List.replicate n a) /\ Below w.heap.size w w' := by
 obtain ⟨i0, eA, eB, eC, eD⟩ := info_parts aW
 have bQ : (c : Int) <= 9223372036854775807 := by unfold maxLen at dN; omega
 have eE : (i0.bytes : Int) * (c : Int) <= 281474976710656 := by
  have h : ((i0.bytes * c : Nat) : Int) <= 281474976710656 := by rw [eD]; omega
  rwa [Int.natCast_mul] at h
 have hr := run_make (P := P) w t e i0 (f a) ht eA eB .i64 .i64 (n : Int) (c : Int) (by omega) (by omega) eE bQ
 simp only [Int.toNat_natCast, eC, Nat.mul_one] at hr
 refine ⟨_, hr, ?_, Jb _ _⟩
 unfold Own
 rw [List.length_replicate, dZ]
 refine ⟨by simp, .inr ⟨w.heap.size, c, madeCells #[f a] c, rfl, Nat.zero_le _, heap_alloc_new w _, dM, dN, by simp [size_madeCells], ?_⟩⟩
 rw [Jcd, Nat.mul_one]
 simp [Nat.min_eq_left dM]
theorem Jcc (n : Nat) (J : Nat -> Jn) (r k : Nat) : Jk n J r (k + 1) = if Jk n J r k = (J k).a \/ Jk n J r k = (J k).b then ((n + k : Nat) : Int) else Jk n J r k := rfl
structure FS (w : World) (m2 gg g8 gj : Nat) (vs : Value) (sz : List Int) (go : List Bool) (la : Rat) (tj : TypeId) (ja : Array Value) (wr : World) : Prop where
 size : Own wr 3 zi vs sz
 fresh : ∀ b, vs.ownBlock = some b -> w.heap.size <= b
 gone : Own wr 4 Value.bool (.slice (some ⟨gg, 0, none⟩) m2 m2) go
 last : Blk wr g8 56 #[.bool (decide (la.num < 0)), .int .u64 (lo la.num.natAbs : Int), .string (mo la.num.natAbs), .int .u64 (lo ((qden la)) : Int), .string (mo ((qden la)))]
 bj : Blk wr gj tj ja
 hg : w.heap.size <= gg
 h8 : w.heap.size <= g8
 below : Below w.heap.size w wr
section
variable {w wr w1 : World} {m2 gg g8 gj : Nat} {vs vs' : Value} {sz : List Int} {go : List Bool} {la : Rat} {tj : TypeId} {ja : Array Value}
theorem FS.next (h : FS w m2 gg g8 gj vs sz go la tj ja wr) (hb : Below wr.heap.size wr w1) : FS w m2 gg g8 gj vs sz go la tj ja w1 :=
 ⟨h.size.below hb h.size.lt, h.fresh, h.gone.below hb h.gone.lt, h.last.below hb h.last.lt, h.bj.below hb h.bj.lt, h.hg, h.h8, h.below.trans (hb.mono h.below.size)⟩
theorem FS.setGone (h : FS w m2 gg g8 gj vs sz go la tj ja wr) (ht : tj ≠ 4) (i : Nat) (x : Bool) : FS w m2 gg g8 gj vs sz (go.set i x) la tj ja (wr.setCell ⟨gg, i, none⟩ (.bool x)) := by
 obtain ⟨cs, fr, hb⟩ := Own.blk h.gone (g := gg) rfl
 have t1 : TExc [4] 0 wr (wr.setCell ⟨gg, i, none⟩ (.bool x)) := TExc.exc ((Exc.refl gg wr).set_ i (.bool x)) (Nat.zero_le _) hb (by simp)
 exact ⟨h.size.texc t1 (by decide), h.fresh, h.gone.putc i x, h.last.texc t1 (by decide), h.bj.texc t1 (by simpa using ht), h.hg, h.h8, h.below.setCell h.hg _⟩
theorem FS.setLast (h : FS w m2 gg g8 gj vs sz go la tj ja wr) (t7 : gj ≠ g8) (q : Rat) : FS w m2 gg g8 gj vs sz go q tj ja (((((wr.setCell ⟨g8, 0, none⟩ (.bool (decide (q.num < 0)))).setCell ⟨g8, 1, none⟩ (.int .u64 (lo q.num.natAbs : Int))).setCell ⟨g8, 2, none⟩ (.string (mo q.num.natAbs))).setCell ⟨g8, 3, none⟩ (.int .u64 (lo (qden q) : Int))).setCell ⟨g8, 4, none⟩ (.string (mo (qden q)))) := by
 have t1 : TExc [56] 0 wr (((((wr.setCell ⟨g8, 0, none⟩ (.bool (decide (q.num < 0)))).setCell ⟨g8, 1, none⟩ (.int .u64 (lo q.num.natAbs : Int))).setCell ⟨g8, 2, none⟩ (.string (mo q.num.natAbs))).setCell ⟨g8, 3, none⟩ (.int .u64 (lo (qden q) : Int))).setCell ⟨g8, 4, none⟩ (.string (mo (qden q)))) :=
  TExc.exc ((((((Exc.refl g8 wr).set_ 0 _).set_ 1 _).set_ 2 _).set_ 3 _).set_ 4 _) (Nat.zero_le _) h.last (by simp)
 have e1 := ((((h.last.set_ 0 (.bool (decide (q.num < 0)))).set_ 1 (.int .u64 (lo q.num.natAbs : Int))).set_ 2 (.string (mo q.num.natAbs))).set_ 3 (.int .u64 (lo (qden q) : Int))).set_ 4 (.string (mo (qden q)))
 exact ⟨h.size.texc t1 (by decide), h.fresh, h.gone.texc t1 (by decide), by simpa using e1, Blk.far5' h.bj t7 _ _ _ _ _, h.hg, h.h8, Jb0 h.below h.h8 _ _ _ _ _⟩
theorem FS.add {s : Int} (h : FS w m2 gg g8 gj vs sz go la tj ja wr) (ht : tj ≠ 3) (dO : Grew wr w1 vs vs') (ho : Own w1 3 zi vs' (sz ++ [s])) : FS w m2 gg g8 gj vs' (sz ++ [s]) go la tj ja w1 := by
 have t1 : TExc [3] w.heap.size wr w1 := TExc.grew1 dO h.size (by simp) h.fresh
 exact ⟨ho, Kx dO h.fresh h.below.size, h.gone.texc t1 (by decide), h.last.texc t1 (by decide), h.bj.texc t1 (by simpa using ht), h.hg, h.h8, h.below.trans (t1.below h.below.size)⟩
end
structure FInv (n : Nat) (J : Nat -> Jn) (k : Nat) (sz : List Int) (go : List Bool) : Prop where
 lens : sz.length = n + k
 leng : go.length = 2 * n
 val : ∀ i, i < n + k -> go.getD i true = false -> sz.getD i 0 = Zh n J k i
 off : ∀ i, i < n + k -> Zh n J k i ≠ 0 -> go.getD i true = false
 later : ∀ i, n + k <= i -> i < 2 * n -> go.getD i true = false
 small : ∀ z ∈ sz, -1000 <= z /\ z <= 1000
 pos : ∀ i, i < n + k -> go.getD i true = false -> 0 < Zh n J k i
theorem Jld (n : Nat) (J : Nat -> Jn) : FInv n J 0 (List.replicate n 1) (List.replicate (2 * n) false) := by
 have hg : ∀ i, i < 2 * n -> (List.replicate (2 * n) false).getD i true = false := fun i hi => by
  rw [List.getD_eq_getElem?_getD, List.getElem?_replicate, if_pos hi]
  rfl
 refine ⟨by simp, by simp, fun i hi _ => ?_, fun i hi _ => hg i (by omega), fun i _ hi => hg i hi, fun z hz => ?_, fun i hi _ => ?_⟩
 ·rw [List.getD_eq_getElem?_getD, List.getElem?_replicate, if_pos (by omega)]
  show (1 : Int) = if i < n then 1 else 0
  rw [if_pos (by omega)]
 ·have := List.eq_of_mem_replicate hz
  omega
 show (0 : Int) < if i < n then 1 else 0
 rw [if_pos (by omega)]
 decide
theorem Jjt {α : Type} {l : List α} {i j : Nat} {x d : α} : (l.set i x).getD j d = if i = j /\ j < l.length then x else l.getD j d := by
 rw [List.getD_eq_getElem?_getD, List.getD_eq_getElem?_getD, List.getElem?_set]
 by_cases h : i = j
 ·subst h
  by_cases h2 : i < l.length
  ·simp [h2]
  simp [h2]
 simp [h]
theorem FInv.step {n : Nat} {J : Nat -> Jn} {k A B : Nat} {S : Int} {q : Rat} {sz : List Int} {go : List Bool} (h : FInv n J k sz go) (hj : J k = ⟨A, B, S, q⟩) (bH : A < B) (hB : B < n + k) (hk : n + k < 2 * n) (hS : 0 < S /\ S <= 1000) :
  FInv n J (k + 1) (sz ++ [S]) ((go.set A true).set B true) := by
 have t8 : ∀ i, Zh n J (k + 1) i = if i = n + k then S else if i = A \/ i = B then 0 else Zh n J k i := fun i => by
  show (if i = n + k then (J k).size else if (i : Int) = (J k).a \/ (i : Int) = (J k).b then 0 else Zh n J k i) = _
  rw [hj]
  simp only [Int.natCast_inj]
 have j8 : ∀ i, ((go.set A true).set B true).getD i true = false ↔ i ≠ A /\ i ≠ B /\ go.getD i true = false := fun i => by
  rw [Jjt, Jjt]
  have hl := h.leng
  by_cases h1 : B = i
  ·subst h1
   simp [hl]
   omega
  by_cases h2 : A = i
  ·subst h2
   simp [h1, hl]
   omega
  have h3 : ¬ i = A := fun e => h2 e.symm
  have h4 : ¬ i = B := fun e => h1 e.symm
  simp [h1, h2, h3, h4]
 refine ⟨by simp [h.lens]; omega, by simp [h.leng], fun i hi hg => ?_, fun i hi t7 => ?_, fun i hi eF => ?_, fun z hz => ?_, fun i hi hg => ?_⟩
 ·obtain ⟨h1, h2, h3⟩ := (j8 i).1 hg
  rw [t8]
  by_cases he : i = n + k
  ·rw [if_pos he, Xy (by rw [h.lens]; exact he)]
  rw [if_neg he, if_neg (by omega), Zj (by rw [h.lens]; omega)]
  exact h.val i (by omega) h3
 ·rw [t8] at t7
  refine (j8 i).2 ?_
  by_cases he : i = n + k
  ·exact ⟨by omega, by omega, h.later i (by omega) (by omega)⟩
  rw [if_neg he] at t7
  by_cases bR : i = A \/ i = B
  ·rw [if_pos bR] at t7
   exact absurd rfl t7
  rw [if_neg bR] at t7
  exact ⟨by omega, by omega, h.off i (by omega) t7⟩
 ·exact (j8 i).2 ⟨by omega, by omega, h.later i (by omega) eF⟩
 ·rcases List.mem_append.1 hz with hz | hz
  ·exact h.small z hz
  obtain rfl := List.mem_singleton.1 hz
  omega
 obtain ⟨h1, h2, h3⟩ := (j8 i).1 hg
 rw [t8]
 by_cases he : i = n + k
 ·rw [if_pos he]
  exact hS.1
 rw [if_neg he, if_neg (by omega)]
 exact h.pos i (by omega) h3
theorem FInv.fine {n : Nat} {J : Nat -> Jn} {k A B : Nat} {S : Int} {q : Rat} {sz : List Int} {go : List Bool} (h : FInv n J k sz go) (hj : J k = ⟨A, B, S, q⟩) (bH : A < B) (hB : B < n + k) (ga : go.getD A true = false) (gb : go.getD B true = false)
  (hS : S = sz.getD A 0 + sz.getD B 0) (hq : Jat J k <= q) : FineAt n J k := by
 have ha := h.pos A (by omega) ga
 have hb := h.pos B hB gb
 have e1 := h.val A (by omega) ga
 have e2 := h.val B hB gb
 have t1 : ((A : Nat) : Int).toNat = A := Int.toNat_natCast A
 have t2 : ((B : Nat) : Int).toNat = B := Int.toNat_natCast B
 refine ⟨?_, ?_, ?_, ?_, ?_, ?_, ?_⟩ <;> rw [hj]
 ·show (0 : Int) <= (A : Int)
  omega
 ·show (A : Int) < (B : Int)
  omega
 ·show (B : Int) < _
  omega
 ·show Zh n J k ((A : Nat) : Int).toNat ≠ 0
  rw [t1]
  omega
 ·show Zh n J k ((B : Nat) : Int).toNat ≠ 0
  rw [t2]
  omega
 ·show S = Zh n J k ((A : Nat) : Int).toNat + Zh n J k ((B : Nat) : Int).toNat
  rw [t1, t2, hS, e1, e2]
 exact hq
theorem FInv.not {n : Nat} {J : Nat -> Jn} {k A B : Nat} {S : Int} {q : Rat} {sz : List Int} {go : List Bool} (h : FInv n J k sz go) (hj : J k = ⟨A, B, S, q⟩) (hf : FineAt n J k) : A < B /\ B < n + k /\ go.getD A true = false /\ go.getD B true = false /\ S = sz.getD A 0 + sz.getD B 0 /\ Jat J k <= q := by
 obtain ⟨h1, h2, h3, h4, h5, h6, h7⟩ := hf
 rw [hj] at h1 h2 h3 h4 h5 h6 h7
 have h2 : (A : Int) < (B : Int) := h2
 have h3 : (B : Int) < ((n + k : Nat) : Int) := h3
 have h4 : Zh n J k ((A : Nat) : Int).toNat ≠ 0 := h4
 have h5 : Zh n J k ((B : Nat) : Int).toNat ≠ 0 := h5
 have h6 : S = Zh n J k ((A : Nat) : Int).toNat + Zh n J k ((B : Nat) : Int).toNat := h6
 rw [Int.toNat_natCast] at h4 h5
 rw [Int.toNat_natCast, Int.toNat_natCast] at h6
 have ga := h.off A (by omega) h4
 have gb := h.off B (by omega) h5
 refine ⟨by omega, by omega, ga, gb, ?_, h7⟩
 rw [h.val A (by omega) ga, h.val B (by omega) gb]
 exact h6
structure JB (m : Nat) (j : Jn) : Prop where
 size : -1000 <= j.size /\ j.size <= 1000
 high : QS m j.high
theorem Jj1 {how m : Nat} {f : List (List Rat)} (hf : SymF f) (hm : 1 <= m) (hq : ∀ l ∈ f, ∀ x ∈ l, QS m x) (h7 : f.length <= 7) : ∀ j ∈ Zy how f, JB (64 * m + 2520) j := by
 intro j hj
 obtain ⟨k, hk, rfl⟩ := List.mem_map.1 hj
 have hk := List.mem_range.1 hk
 obtain ⟨A, B, hj, hc⟩ := Zo (how := how) (k := k) hf (by omega)
 have hi := Jau (how := how) hf k (by omega)
 have hw := Jd2 (how := how) (m := m) (k := k) hf hm hq (by omega) (by omega)
 have la := Ji3 (hi.nodup A) fun r hr => ((hi.mem A r).1 hr).1
 have lb := Ji3 (hi.nodup B) fun r hr => ((hi.mem B r).1 hr).1
 rw [hj.eq]
 refine ⟨?_, hw.qs.betw (by omega) A B⟩
 show -1000 <= (((Jq f.length (Jh how f) k A).length + (Jq f.length (Jh how f) k B).length : Nat) : Int) /\ (((Jq f.length (Jh how f) k A).length + (Jq f.length (Jh how f) k B).length : Nat) : Int) <= 1000
 omega
theorem Je1 {n : Nat} {l : List Jn} (h1 : 1 <= n) (h2 : n <= 64) (hl : l.length + 1 = n) (h : ∀ k, k < l.length -> FineAt n (fun i => l.getD i default) k) : Zk n l = true := by
 unfold Zk
 simp only [decide_eq_true_eq]
 exact ⟨h1, h2, hl, h⟩
theorem Jc7 {n : Nat} {l : List Jn} (hl : l.length + 1 ≠ n) : Zk n l = false := by
 unfold Zk
 simp only [decide_eq_false_iff_not]
 exact fun h => hl h.2.2.1
theorem Jgk {n k : Nat} {l : List Jn} (hk : k < l.length) (h : ¬ FineAt n (fun i => l.getD i default) k) : Zk n l = false := by
 unfold Zk
 simp only [decide_eq_false_iff_not]
 exact fun h2 => h (h2.2.2.2 k hk)
section
variable {α : Type} {n i : Nat} {r : Nat -> α} {z : α}
def Jab (n : Nat) (r : Nat -> α) (z : α) (i : Nat) : List α := (List.range n).map fun k => if k < i then r k else z
theorem Jlh (n : Nat) (r : Nat -> α) (z : α) : Jab n r z 0 = List.replicate n z := by
 unfold Jab
 refine List.ext_getElem (by simp) fun i h1 h2 => by simp
theorem Jli (n : Nat) (r : Nat -> α) (z : α) : Jab n r z n = (List.range n).map r := by
 unfold Jab
 refine List.map_congr_left fun i hi => ?_
 rw [if_pos (List.mem_range.1 hi)]
theorem Jn4 (n : Nat) (r : Nat -> α) (z : α) (i : Nat) : (Jab n r z i).length = n := by simp [Jab]
theorem Jqb (hi : i < n) : (Jab n r z i)[i]? = some z := by
 unfold Jab
 rw [List.getElem?_map, List.getElem?_range hi]
 simp
theorem Jn3 : (Jab n r z i).set i (r i) = Jab n r z (i + 1) := by
 unfold Jab
 refine List.ext_getElem (by simp) fun k h1 h2 => ?_
 rw [List.getElem_set]
 simp only [List.getElem_map, List.getElem_range]
 by_cases dP : i = k
 ·subst dP; rw [if_pos rfl, if_pos (by omega)]
 rw [if_neg dP]
 by_cases aX : k < i
 ·rw [if_pos aX, if_pos (show k < i + 1 by omega)]
 rw [if_neg aX, if_neg (show ¬ k < i + 1 by omega)]
end
theorem FS.fresh8 {w wr : World} {m2 gg g8 gj : Nat} {vs : Value} {sz : List Int} {go : List Bool} {la : Rat} {tj : TypeId} {ja : Array Value} (h : FS w m2 gg g8 gj vs sz go la tj ja wr) (a b s : Int) (q : Rat) :
  FS w m2 gg g8 wr.heap.size vs sz go la 58 (jA ⟨a, b, s, q⟩) (wr.alloc (.cells #[.int .i64 a, .int .i64 b, .int .i64 s, .bool (decide (q.num < 0)), .int .u64 (lo q.num.natAbs : Int), .string (mo q.num.natAbs), .int .u64 (lo ((qden q)) : Int), .string (mo ((qden q)))] 58)) := by
 have h1 := h.next (Jb wr (.cells #[.int .i64 a, .int .i64 b, .int .i64 s, .bool (decide (q.num < 0)), .int .u64 (lo q.num.natAbs : Int), .string (mo q.num.natAbs), .int .u64 (lo ((qden q)) : Int), .string (mo ((qden q)))] 58))
 have hb := Blk.new wr 58 #[.int .i64 a, .int .i64 b, .int .i64 s, .bool (decide (q.num < 0)), .int .u64 (lo q.num.natAbs : Int), .string (mo q.num.natAbs), .int .u64 (lo ((qden q)) : Int), .string (mo ((qden q)))]
 exact ⟨h1.size, h1.fresh, h1.gone, h1.last, hb, h1.hg, h1.h8, h1.below⟩
theorem Yc (A : Option Addr) (n len c M : Nat) (l : List Jn) (w : World) (h : OwnJ w (.slice A len c) l) (eG : 1 <= n) (hn : n <= 64) (hM : M <= 100000000) (hb : ∀ j ∈ l, JB M j) (hT : Tab w) :
  Calls Tryz.prog 28 #[.int .i64 (n : Int), .slice A len c] w (Ret (.bool (Zk n l)) w) := by
 have eH : len = l.length := by
  obtain ⟨A', c', h4, -⟩ := OwnW.form h
  injection h4
 have q1 : ¬ (n : Int) < 1 := by omega
 have q2 : ¬ (n : Int) > 64 := by omega
 have q3 : ¬ (64 : Int) < (n : Int) := by omega
 obtain ⟨fb, aY⟩ : ∃ fb, Zk n l = fb := ⟨_, rfl⟩
 have HNOT : Hid (∀ k, k < len -> ¬ FineAt n (fun i => l.getD i default) k -> fb = false) := lh fun k hk hf => by rw [<- aY]; exact Jgk (by omega) hf
 have HALL : Hid (len + 1 = n -> (∀ k, k < len -> FineAt n (fun i => l.getD i default) k) -> fb = true) := lh fun hl hk => by rw [<- aY]; exact Je1 eG hn (by omega) (fun k h => hk k (by omega))
 have HLEN : Hid (len + 1 ≠ n -> fb = false) := lh fun hl => by rw [<- aY]; exact Jc7 (by omega)
 rw [aY]
 have HO := lh h
 have HB := lh hb
 have HT := lh hT
 clear h hb aY hT
 obtain ⟨m2, bG⟩ : ∃ m2, 2 * n = m2 := ⟨_, rfl⟩
 have k2 : (2 : Int) * (n : Int) = (m2 : Int) := by omega
 go_enter Tryz.func28, Tryz.ntmps28
 by_cases hl : len + 1 = n
 ·have k1 : (n : Int) - 1 = (len : Int) := by omega
  obtain ⟨w1, y9, bI, dQ⟩ := Jap (P := Tryz.prog) zi 0 22 3 8 (Tryz.eltIntR).under (Tryz.eltIntR).info rfl n m2 (by omega) (by omega) (by unfold maxLen; omega) w
  obtain ⟨gs, dR⟩ : ∃ gs, w.heap.size = gs := ⟨_, rfl⟩
  have bS : w.heap.size <= gs := by omega
  rw [<- Jlh n (fun _ => (1 : Int))] at bI
  rw [dR] at y9 bI
  have HO1 := lh bI
  have HB1 := lh dQ
  clear bI dQ dR
  go_wp2_with fail
  clear y9
  go_loopw [30] (fun p wr => ∃ i : Nat, i <= n /\ p = .int .i64 (i : Int) /\ Own wr 3 zi (.slice (some ⟨gs, 0, none⟩) n m2) (Jab n (fun _ => (1 : Int)) 0 i) /\ Below w.heap.size w wr) (fun p _ => n - (intOf p).toNat)
  case atStart => exact ⟨0, by omega, rfl, HO1.out, HB1.out⟩
  case round =>
   obtain ⟨i, hi, rfl, ho, j9⟩ := hrel
   rename World => wr
   clear HO1 HB1
   by_cases eI : i < n
   ·have q4 : (i : Int) < (n : Int) := by omega
    have bJ := ho.putc i (1 : Int)
    have eT := ho.frozenc i
    have eJ := Own.cellf (by rw [Jn4]; exact ho) (Jqb (r := fun _ => (1 : Int)) (z := 0) eI)
    rw [Jn3 (r := fun _ => (1 : Int))] at bJ
    unfold zi at bJ eJ
    have HST := lh bJ
    have HBW := lh j9
    clear ho j9 bJ
    go_wp2
    exact ⟨⟨i + 1, by omega, by go_num, HST.out, HBW.out.setCell bS _⟩, by simp [intOf]; omega⟩
   obtain rfl : i = n := by omega
   have q4 : ¬ (i : Int) < (i : Int) := by omega
   obtain ⟨w2, y9, bK, bT⟩ := Jap (P := Tryz.prog) Value.bool false 105 4 1 (Tryz.eltBool).under (Tryz.eltBool).info rfl m2 m2 zd (by omega) (by unfold maxLen; omega) wr
   obtain ⟨gg, dS⟩ : ∃ gg, wr.heap.size = gg := ⟨_, rfl⟩
   have bU : w.heap.size <= gg := by have := j9.size; omega
   rw [dS] at y9 bK
   have bL := ho.below bT ho.lt
   have x8 := j9.trans (bT.mono j9.size)
   rw [Jli] at bL
   have aZ : (List.range i).map (fun _ => (1 : Int)) = List.replicate i 1 := List.ext_getElem (by simp) fun a h1 h2 => by simp
   rw [aZ] at bL
   have HF : Hid (FS w m2 gg w2.heap.size w2.heap.size (.slice (some ⟨gs, 0, none⟩) i m2) (List.replicate i 1) (List.replicate m2 false) 0 56 #[.bool false, .int .u64 0, .string ⟨#[]⟩, .int .u64 0, .string ⟨#[]⟩] (w2.alloc (.cells #[.bool false, .int .u64 0, .string ⟨#[]⟩, .int .u64 0, .string ⟨#[]⟩] 56))) := lh
    ⟨bL.alloc _, fun b hb => by
      have hb : some gs = some b := hb
      injection hb with hb
      omega, bK.alloc _, Blk.new w2 56 #[.bool false, .int .u64 0, .string ⟨#[]⟩, .int .u64 0, .string ⟨#[]⟩], Blk.new w2 56 #[.bool false, .int .u64 0, .string ⟨#[]⟩, .int .u64 0, .string ⟨#[]⟩], bU, x8.size, x8.trans ((Jb w2 _).mono x8.size)⟩
   have HI := lh (Jld i (fun i => l.getD i default))
   rw [bG] at HI
   obtain ⟨g8, bV⟩ : ∃ g8, w2.heap.size = g8 := ⟨_, rfl⟩
   rw [bV] at HF
   have eK : gg < g8 := by have := bK.lt gg rfl; omega
   clear ho j9 bT bK bL x8 aZ dS
   go_wp2_with fail
   clear y9
   (try rw [bV])
   clear bV
   go_loopw [5, 42] (fun vs p wr => ∃ k sz go la gj tj ja, k <= len /\ p = .int .i64 ((k : Nat) : Int) /\ Hid (FInv i (fun i => l.getD i default) k sz go) /\ Hid (∀ m, m < k -> FineAt i (fun i => l.getD i default) m) /\ Hid (Jat (fun i => l.getD i default) k = la /\ QS (M + 1) la) /\ FS w m2 gg g8 gj vs sz go la tj ja wr) (fun _ p _ => len - (intOf p).toNat)
   case atStart => exact ⟨0, _, _, 0, _, _, _, by omega, rfl, HI, lh fun m hm => absurd hm (by omega), lh ⟨rfl, ⟨Nat.zero_le _, Nat.le_add_left 1 M⟩⟩, HF.out⟩
   case round =>
    obtain ⟨k, sz, go, la, gj0, tj0, ja0, hk, rfl, j6, bA, bW, j7⟩ := hrel
    rename World => wa
    clear HF HI q4
    obtain ⟨A5, c5, dT, -⟩ := Own.form j7.size
    rw [j6.out.lens] at dT
    subst dT
    generalize hN : i + k = N at j7 ⊢
    have eU : N <= i + k := by omega
    have eV : i + k <= N := by omega
    clear hN
    have j9 := j7.below
    by_cases bX : k < len
    ·have q5 : (k : Int) < (len : Int) := by omega
     obtain ⟨j, hj⟩ : ∃ j, l[k]? = some j := ⟨_, List.getElem?_eq_getElem (by omega)⟩
     have o0 : l.getD k default = j := by rw [List.getD_eq_getElem?_getD, hj]; rfl
     have s9 := HB.out j (List.mem_of_getElem? hj)
     obtain ⟨-, g1, eL⟩ := OwnJ.addr HO.out (by omega)
     subst eL
     have dU := OwnW.next HO.out j9
     obtain ⟨x0, x1, x2, x3, x4, x5, x6, x7⟩ := (OwnJ.at_ dU hj).c8
     obtain ⟨a, b, s, q⟩ := j
     obtain ⟨⟨s1, s2⟩, hq⟩ := s9
     have HF := lh (j7.fresh8 a b s q)
     have eM := j7.last.lt
     clear j7 j9 dU
     go_upto_region 13 with fail
     go_cut [10] (fun v wc => ∃ gj, v = .pointer (some ⟨gj, 0, none⟩) /\ g8 < gj /\ FS w m2 gg g8 gj (.slice A5 N c5) sz go la 58 (jA ⟨a, b, s, q⟩) wc)
     case first =>
      go_wp2
      go_meet
      (with_reducible refine ⟨wa.heap.size, rfl, eM, ?_⟩)
      with_reducible exact HF.out
     case rest =>
      obtain ⟨gj, rfl, t7, j7⟩ := hcut
      rename World => wc
      clear x0 x1 x2 x3 x4 x5 x6 x7 HF
      have s9 : Blk wc gj 58 #[.int .i64 a, .int .i64 b, .int .i64 s, .bool (decide (q.num < 0)), .int .u64 (lo q.num.natAbs : Int), .string (mo q.num.natAbs), .int .u64 (lo ((qden q)) : Int), .string (mo ((qden q)))] := j7.bj
      obtain ⟨x0, x1, x2, x3, x4, x5, x6, x7⟩ := s9.c8
      have HBW := lh j7.below
      clear s9
      by_cases ha : a < 0
      ·have HZ := lh (HNOT.out k bX fun hf => by
        have e : 0 <= (l.getD k default).a := hf.a0
        rw [o0] at e
        exact absurd ha (by show ¬ a < 0; have e : (0 : Int) <= a := e; omega))
       clear j7 hj o0
       go_wp2
       go_returns
       exact ⟨by rw [HZ.out]; rfl, HBW.out⟩
      obtain ⟨A, rfl⟩ : ∃ A : Nat, a = (A : Int) := ⟨a.toNat, by omega⟩
      by_cases bR : b <= (A : Int)
      ·have HZ := lh (HNOT.out k bX fun hf => by
        have e : (l.getD k default).a < (l.getD k default).b := hf.ab
        rw [o0] at e
        have e : (A : Int) < b := e
        omega)
       have e1 : ¬ (A : Int) < b := by omega
       clear j7 hj o0
       go_wp2
       go_returns
       exact ⟨by rw [HZ.out]; rfl, HBW.out⟩
      obtain ⟨B, rfl⟩ : ∃ B : Nat, b = (B : Int) := ⟨b.toNat, by omega⟩
      have bH : A < B := by omega
      have e1 : (A : Int) < (B : Int) := by omega
      have HNF : Hid (¬ (A < B /\ B < i + k /\ go.getD A true = false /\ go.getD B true = false /\ s = sz.getD A 0 + sz.getD B 0 /\ la <= q) -> fb = false) := lh fun hn => HNOT.out k bX fun hf => hn (by
       have := j6.out.not o0 hf
       rw [bW.out.1] at this
       exact this)
      by_cases eX : N <= B
      ·have e2 : (N : Int) <= (B : Int) := by omega
       have HZ := lh (HNF.out fun h => by omega)
       clear j7 hj o0
       go_wp2
       go_returns
       exact ⟨by rw [HZ.out]; rfl, HBW.out⟩
      have e2 : ¬ (N : Int) <= (B : Int) := by omega
      have e3 : (B : Int) < (N : Int) := by omega
      have e4 : (A : Int) < (N : Int) := by omega
      have e5 : (A : Int) < (m2 : Int) := by omega
      have e6 : (B : Int) < (m2 : Int) := by omega
      have j8 := j7.gone
      have bB := j6.out.leng
      rw [bG] at bB
      rw [<- bB] at j8
      obtain ⟨xa, aT⟩ : ∃ x, go[A]? = some x := ⟨_, List.getElem?_eq_getElem (by omega)⟩
      obtain ⟨xb, aU⟩ : ∃ x, go[B]? = some x := ⟨_, List.getElem?_eq_getElem (by omega)⟩
      have y1 := Own.cellf j8 aT
      have y2 := Own.cellf j8 aU
      rw [bB] at j8
      have aA : go.getD A true = xa := by rw [List.getD_eq_getElem?_getD, aT]; rfl
      have aB : go.getD B true = xb := by rw [List.getD_eq_getElem?_getD, aU]; rfl
      cases xa with
      | true =>
       have HZ := lh (HNF.out fun h => by rw [aA] at h; exact absurd h.2.2.1 (by decide))
       clear j7 hj o0 aT aU aA aB j8
       go_wp2
       go_returns
       exact ⟨by rw [HZ.out]; rfl, HBW.out⟩
      | false =>
       cases xb with
       | true =>
        have HZ := lh (HNF.out fun h => by rw [aB] at h; exact absurd h.2.2.2.1 (by decide))
        clear j7 hj o0 aT aU aA aB j8
        go_wp2
        go_returns
        exact ⟨by rw [HZ.out]; rfl, HBW.out⟩
       | false =>
        obtain ⟨za, bM⟩ : ∃ z, sz[A]? = some z := ⟨_, List.getElem?_eq_getElem (by rw [j6.out.lens]; omega)⟩
        obtain ⟨zb, bN⟩ : ∃ z, sz[B]? = some z := ⟨_, List.getElem?_eq_getElem (by rw [j6.out.lens]; omega)⟩
        have b1 := j6.out.small za (List.mem_of_getElem? bM)
        have b2 := j6.out.small zb (List.mem_of_getElem? bN)
        have bY : sz.getD A 0 = za := by rw [List.getD_eq_getElem?_getD, bM]; rfl
        have bZ : sz.getD B 0 = zb := by rw [List.getD_eq_getElem?_getD, bN]; rfl
        rw [bY, bZ] at HNF
        have t8 := j7.size
        obtain ⟨g5, rfl⟩ := Own.addr t8 (by rw [j6.out.lens]; omega)
        have dV : sz.length = N := by have := j6.out.lens; omega
        rw [<- dV] at t8
        have y3 := Own.cellf t8 bM
        have y4 := Own.cellf t8 bN
        unfold zi at y3 y4
        have HFS := lh j7
        have HFINE : Hid (s = za + zb -> la <= q -> FineAt i (fun i => l.getD i default) k /\ 0 < za + zb) := lh fun hs hq => ⟨j6.out.fine o0 bH (by omega) aA aB (by rw [bY, bZ]; exact hs) (by rw [bW.out.1]; exact hq), by
         have h1 := j6.out.pos A (by omega) aA
         have h2 := j6.out.pos B (by omega) aB
         have h3 := j6.out.val A (by omega) aA
         have h4 := j6.out.val B (by omega) aB
         omega⟩
        have HD := lh o0
        have HQ := lh hq
        have HXA := lh (And.intro aT (And.intro aU bB))
        clear j7 hj o0 aT aU aA aB j8 bM bN bY bZ t8 hq dV bB
        by_cases hs : za + zb = s
        ·have e8 : (s == za + zb) = true := by simp [hs]
         have e9 : (s != za + zb) = false := by simp [hs]
         have s1 : -1000 <= s := s1
         have s2 : s <= 1000 := s2
         have hw : IntKind.i64.wrap s = s := IntWalk.i64_in _ (by omega)
         have hs := lh hs
         have cA := fun w => Vf q la w (HQ.out.mono (by omega)) (bW.out.2.mono (by omega))
         have aX := Je8 la q
         generalize Yw q la = cv at *
         unfold qV at cA
         have HCM := lh cA
         have HLT := lh aX
         clear cA aX
         have b0 : Blk wc gj 58 #[.int .i64 (A : Int), .int .i64 (B : Int), .int .i64 s, .bool (decide (q.num < 0)), .int .u64 (lo q.num.natAbs : Int), .string (mo q.num.natAbs), .int .u64 (lo ((qden q)) : Int), .string (mo ((qden q)))] := HFS.out.bj
         have b5 := HFS.out.last
         have b3 := At1.mk' y3
         have b4 := At1.mk' y4
         clear y3 y4
         by_cases bO : cv < 0
         ·have q9 : decide (cv < 0) = true := decide_eq_true bO
          have HZ := lh (HNF.out fun h => by
           have := HLT.out.1 bO
           have h2 := h.2.2.2.2.2
           grind)
          go_upto_region 16 with fail
          clear x0 x1 x2 x3 x4 x5 x6 x7 y1 y2
          go_cut [97] (fun v wd => v = .bool true /\ Below wc.heap.size wc wd)
          case first =>
           obtain ⟨cB, cC, cD, cE, cF, cG, cH, cI⟩ := b0.c8; have c0 := b0.drew; have bC := c0.lt; obtain ⟨cJ, cK, cL, cM, cN⟩ := b5.c5; have c5 := b5.drew; have bD := c5.lt; obtain ⟨cO, cP⟩ := b3.c2; have c3 := b3.drew; have bE := c3.lt; obtain ⟨cQ, cR⟩ := b4.c2; have c4 := b4.drew; have bF := c4.lt; have hc := Jf wc; go_region_held3 (fun w' => w'.cell? ⟨gj, 0, none⟩ = some (.int .i64 (A : Int)) /\ w'.cell? ⟨gj, 1, none⟩ = some (.int .i64 (B : Int)) /\ w'.cell? ⟨gj, 2, none⟩ = some (.int .i64 s) /\ w'.cell? ⟨gj, 3, none⟩ = some (.bool (decide (q.num < 0))) /\ w'.cell? ⟨gj, 4, none⟩ = some (.int .u64 (lo q.num.natAbs : Int)) /\ w'.cell? ⟨gj, 5, none⟩ = some (.string (mo q.num.natAbs)) /\ w'.cell? ⟨gj, 6, none⟩ = some (.int .u64 (lo (qden q) : Int)) /\ w'.cell? ⟨gj, 7, none⟩ = some (.string (mo (qden q))) /\ w'.cell? ⟨g8, 0, none⟩ = some (.bool (decide (la.num < 0))) /\ w'.cell? ⟨g8, 1, none⟩ = some (.int .u64 (lo la.num.natAbs : Int)) /\ w'.cell? ⟨g8, 2, none⟩ = some (.string (mo la.num.natAbs)) /\ w'.cell? ⟨g8, 3, none⟩ = some (.int .u64 (lo ((qden la)) : Int)) /\ w'.cell? ⟨g8, 4, none⟩ = some (.string (mo ((qden la)))) /\ w'.cell? ⟨g5, A, none⟩ = some (.int .i64 za) /\ w'.cell? ⟨g5, B, none⟩ = some (.int .i64 zb)) (go_keep) (first | (go_at_call 29; (with_reducible refine (HCM.out _).mono ?_); rintro e w1 ⟨rfl, o5⟩; (try clear aC aD aE aF aG aH aI aJ); obtain ⟨c0, aC, aD, aE, aF, aG, aH, aI, aJ⟩ := c0.zc8 o5; (try clear bC); have bC := c0.lt; (try clear aK aL aM aN aO); obtain ⟨c5, aK, aL, aM, aN, aO⟩ := c5.zc5 o5; (try clear bD); have bD := c5.lt; (try clear aP aQ); obtain ⟨c3, aP, aQ⟩ := c3.zc2 o5; (try clear bE); have bE := c3.lt; (try clear aR aS); obtain ⟨c4, aR, aS⟩ := c4.zc2 o5; (try clear bF); have bF := c4.lt; have hc := Ja hc o5))
           all_goals
            go_wp2
            go_meet
            exact ⟨rfl, hc⟩
          case rest =>
           obtain ⟨rfl, aV⟩ := hcut
           go_wp2
           go_returns
           exact ⟨by rw [HZ.out]; rfl, HBW.out.trans (aV.mono HBW.out.size)⟩
         have q9 : decide (cv < 0) = false := decide_eq_false bO
         have dW : la <= q := Rat.not_lt.1 fun h => bO (HLT.out.2 h)
         go_upto_region 16 with fail
         clear x0 x1 x2 x3 x4 x5 x6 x7 y1 y2
         go_cut [97] (fun v wd => v = .bool false /\ Below wc.heap.size wc wd)
         case first =>
          obtain ⟨cB, cC, cD, cE, cF, cG, cH, cI⟩ := b0.c8; have c0 := b0.drew; have bC := c0.lt; obtain ⟨cJ, cK, cL, cM, cN⟩ := b5.c5; have c5 := b5.drew; have bD := c5.lt; obtain ⟨cO, cP⟩ := b3.c2; have c3 := b3.drew; have bE := c3.lt; obtain ⟨cQ, cR⟩ := b4.c2; have c4 := b4.drew; have bF := c4.lt; have hc := Jf wc; go_region_held3 (fun w' => w'.cell? ⟨gj, 0, none⟩ = some (.int .i64 (A : Int)) /\ w'.cell? ⟨gj, 1, none⟩ = some (.int .i64 (B : Int)) /\ w'.cell? ⟨gj, 2, none⟩ = some (.int .i64 s) /\ w'.cell? ⟨gj, 3, none⟩ = some (.bool (decide (q.num < 0))) /\ w'.cell? ⟨gj, 4, none⟩ = some (.int .u64 (lo q.num.natAbs : Int)) /\ w'.cell? ⟨gj, 5, none⟩ = some (.string (mo q.num.natAbs)) /\ w'.cell? ⟨gj, 6, none⟩ = some (.int .u64 (lo (qden q) : Int)) /\ w'.cell? ⟨gj, 7, none⟩ = some (.string (mo (qden q))) /\ w'.cell? ⟨g8, 0, none⟩ = some (.bool (decide (la.num < 0))) /\ w'.cell? ⟨g8, 1, none⟩ = some (.int .u64 (lo la.num.natAbs : Int)) /\ w'.cell? ⟨g8, 2, none⟩ = some (.string (mo la.num.natAbs)) /\ w'.cell? ⟨g8, 3, none⟩ = some (.int .u64 (lo ((qden la)) : Int)) /\ w'.cell? ⟨g8, 4, none⟩ = some (.string (mo ((qden la)))) /\ w'.cell? ⟨g5, A, none⟩ = some (.int .i64 za) /\ w'.cell? ⟨g5, B, none⟩ = some (.int .i64 zb)) (go_keep) (first | (go_at_call 29; (with_reducible refine (HCM.out _).mono ?_); rintro e w1 ⟨rfl, o5⟩; (try clear aC aD aE aF aG aH aI aJ); obtain ⟨c0, aC, aD, aE, aF, aG, aH, aI, aJ⟩ := c0.zc8 o5; (try clear bC); have bC := c0.lt; (try clear aK aL aM aN aO); obtain ⟨c5, aK, aL, aM, aN, aO⟩ := c5.zc5 o5; (try clear bD); have bD := c5.lt; (try clear aP aQ); obtain ⟨c3, aP, aQ⟩ := c3.zc2 o5; (try clear bE); have bE := c3.lt; (try clear aR aS); obtain ⟨c4, aR, aS⟩ := c4.zc2 o5; (try clear bF); have bF := c4.lt; have hc := Ja hc o5))
          all_goals
           go_wp2
           go_meet
           exact ⟨rfl, hc⟩
         case rest =>
          obtain ⟨rfl, aV⟩ := hcut
          rename World => wd
          obtain ⟨x9, cS⟩ := HFINE.out hs.out.symm dW
          have eO : 0 < s /\ s <= 1000 := by have := hs.out; have s2 : s <= 1000 := s2; omega
          have HINV2 : Hid (FInv i (fun i => l.getD i default) (k + 1) (sz ++ [s]) ((go.set A true).set B true)) := lh (j6.out.step HD.out bH (by omega) (by omega) eO)
          have HALL2 : Hid (∀ m, m < k + 1 -> FineAt i (fun i => l.getD i default) m) := lh fun m hm => by
           by_cases y9 : m = k
           ·subst y9
            exact x9
           exact bA.out m (by omega)
          have HLA2 : Hid (Jat (fun i => l.getD i default) (k + 1) = q /\ QS (M + 1) q) := lh ⟨by
           show (l.getD k default).high = q
           rw [HD.out], HQ.out.mono (by omega)⟩
          have HF1 := lh (HFS.out.next aV)
          have s9 : Blk wd gj 58 #[.int .i64 (A : Int), .int .i64 (B : Int), .int .i64 s, .bool (decide (q.num < 0)), .int .u64 (lo q.num.natAbs : Int), .string (mo q.num.natAbs), .int .u64 (lo ((qden q)) : Int), .string (mo ((qden q)))] := HF1.out.bj
          obtain ⟨x0, x1, x2, x3, x4, x5, x6, x7⟩ := s9.c8
          have j8 := HF1.out.gone
          have z1 := j8.frozenc A
          have z2 := j8.frozenc B
          rw [<- HXA.out.2.2] at j8
          have y1 := Own.cellf j8 HXA.out.1
          have y2 := Own.cellf j8 HXA.out.2.1
          have bl := HF1.out.last
          obtain ⟨cT, cU, cV, cZ, dA, dB, dC, dD, dE, dF, dG, dH, dI, dJ, dK⟩ := bl.f5
          have n1 : ¬ gg = gj := by omega
          have n2 : ¬ gj = gg := by omega
          have n3 : ¬ gg = g8 := by omega
          have n4 : ¬ g8 = gg := by omega
          have n5 : ¬ gj = g8 := by omega
          have n6 : ¬ g8 = gj := by omega
          have n7 : ¬ A = B := by omega
          have n8 : ¬ B = A := by omega
          have HSL := lh (show sz.length <= 1000 by rw [j6.out.lens]; omega)
          clear s9 j8 bl aV b0 b3 b4 b5 HCM HLT HFINE x9 dW cS HNF HFS
          go_upto_region 18 with fail
          go_cut [] (fun we => FS w m2 gg g8 gj (.slice (some ⟨g5, 0, none⟩) N c5) sz ((go.set A true).set B true) q 58 (jA ⟨A, B, s, q⟩) we)
          case first =>
           go_region
           all_goals
            go_wp2
            go_meet
            have F1 := ((HF1.out.setGone (by decide) A true).setGone (by decide) B true).setLast n5 q
            with_reducible exact F1.next (Jf _)
          case rest =>
           rename World => we
           have j7 := hcut
           have s9 : Blk we gj 58 #[.int .i64 (A : Int), .int .i64 (B : Int), .int .i64 s, .bool (decide (q.num < 0)), .int .u64 (lo q.num.natAbs : Int), .string (mo q.num.natAbs), .int .u64 (lo ((qden q)) : Int), .string (mo ((qden q)))] := j7.bj
           clear x0 x1 x2 x3 x4 x5 x6 x7 z1 z2 y1 y2
           clear cT cU cV cZ dA dB dC dD dE dF dG dH dI dJ dK
           obtain ⟨x0, x1, x2, x3, x4, x5, x6, x7⟩ := s9.c8
           have HFE := lh j7
           clear s9 j7 hcut HF1
           go_wp2_with (at_builtin; refine Jds (f := zi) Tryz.eltIntR rfl (.tmp 108) (.tmp 111) rfl we _ sz s (.int .i64 s) rfl rfl HFE.out.size rfl rfl (by have := HSL.out; unfold maxLen; omega) (by have := HSL.out; omega) ?_; intro v7 w7 dL dX; obtain ⟨A7, n7, k7c, eP⟩ := Own.form3 dL; subst eP; have js7 := lh (HFE.out.add (by decide) dX dL); clear dL dX)
           exact ⟨⟨k + 1, _, _, _, _, _, _, by omega, by go_num, HINV2, HALL2, HLA2, js7.out⟩, by simp [intOf]; omega⟩
        have e7 : ¬ s = za + zb := fun e => hs e.symm
        have e8 : (s == za + zb) = false := by simp; omega
        have e9 : (s != za + zb) = true := by simp; omega
        have HZ := lh (HNF.out fun h => e7 h.2.2.2.2.1)
        go_upto_region 16 with fail
        clear y1 y2
        go_cut [97] (fun v wd => v = .bool true /\ Below wc.heap.size wc wd)
        case first =>
         go_region
         all_goals
          go_wp2
          go_meet
          exact ⟨rfl, Jf _⟩
        case rest =>
         obtain ⟨rfl, aV⟩ := hcut
         go_wp2
         go_returns
         exact ⟨by rw [HZ.out]; rfl, HBW.out.trans (aV.mono HBW.out.size)⟩
    obtain rfl : k = len := by omega
    have q5 : ¬ (k : Int) < (k : Int) := by omega
    have HZ := lh (HALL.out hl bA.out)
    have HBW := lh j9
    clear j7 j9
    go_wp2
    go_returns
    exact ⟨by rw [HZ.out]; rfl, HBW.out⟩
 have e1 : ¬ (len : Int) = (n : Int) - 1 := by omega
 have e2 : ((len : Int) == (n : Int) - 1) = false := by simp; omega
 have e3 : ((len : Int) != (n : Int) - 1) = true := by simp; omega
 go_wp2
 go_returns
 exact ⟨by rw [HLEN.out hl]; rfl, Below.refl _ _⟩
structure LJ (f : List (List Rat)) (how : Nat) (l : List Jn) : Prop where
 fine : Zk f.length l = true
 jb : ∀ j ∈ l, JB 5528 j
 len : l.length + 1 = f.length
 sym : SymF f
 pos : Jqm f
 diag : ∀ i, i < f.length -> dOf f i i = 0
 at_ : ∀ k, k + 1 < f.length -> l.getD k default = Jh how f k
theorem Jtb (how : Nat) {f : List (List Rat)} (hF : FarF f) : LJ f how (Zy how f) := by
 obtain ⟨hf, hp, hd, h1, eQ⟩ := Jg4 hF.chk
 exact ⟨Jle hf hp h1 eQ, fun j hj => Jj1 hf (by omega) hF.qs hF.most j hj, by rw [Vy]; omega, hf, hp, hd, fun k hk => Jgt hk⟩
