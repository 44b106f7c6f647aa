/-
  share.Shares: the sum by sets.
-/
import Derived.Test.YtbjemjopcoajcaaGreatDoorShareCols
import Derived.Test.YtbjemjopcoajcaaGreatDoorRowQ
import Derived.Test.YtbjemjopcoajcaaGreatDoorFracMul
namespace Go.Proofs.YtbjemjopcoajcaaGreatDoor
open Go.RowKit
set_option linter.unusedSimpArgs false
set_option linter.unusedVariables false

/-- five cells of a row from place o of block g: a fraction -/
structure AtQ (w : World) (g o : Nat) (x : Rat) : Prop where
  c5 : w.cell? ⟨g, o, none⟩ = some (.bool (decide (x.num < 0))) ∧ w.cell? ⟨g, o + 1, none⟩ = some (.int .u64 (lo x.num.natAbs : Int)) ∧ w.cell? ⟨g, o + 2, none⟩ = some (.string (mo x.num.natAbs)) ∧
      w.cell? ⟨g, o + 3, none⟩ = some (.int .u64 (lo (qden x) : Int)) ∧ w.cell? ⟨g, o + 4, none⟩ = some (.string (mo (qden x)))
theorem AtQ.lt {w : World} {g o : Nat} {x : Rat} (h : AtQ w g o x) : g < w.heap.size := cell_lt h.c5.1
theorem AtQ.below {w w' : World} {g o B : Nat} {x : Rat} (h : AtQ w g o x) (hb : Below B w w') (hg : g < B) : AtQ w' g o x := by
  obtain ⟨h0, h1, h2, h3, h4⟩ := h.c5
  refine ⟨?_⟩
  rw [hb.cell (p := ⟨g, o, none⟩) hg, hb.cell (p := ⟨g, o + 1, none⟩) hg, hb.cell (p := ⟨g, o + 2, none⟩) hg, hb.cell (p := ⟨g, o + 3, none⟩) hg, hb.cell (p := ⟨g, o + 4, none⟩) hg]
  exact ⟨h0, h1, h2, h3, h4⟩
theorem AtQ.drew {w : World} {g o : Nat} {x : Rat} (h : AtQ w g o x) : AtQ w.drew g o x := h.below (bdrew0 w) h.lt
theorem AtQ.alloc {w : World} {g o : Nat} {x : Rat} (h : AtQ w g o x) (b : Obj) : AtQ (w.alloc b) g o x := h.below (balloc1 w b) h.lt
theorem OwnQ.at_ {w : World} {g n c : Nat} {l : List Rat} (h : OwnQ w (.slice (some ⟨g, 0, none⟩) n c) l) {k : Nat} {x : Rat} (hx : l[k]? = some x) : AtQ w g (k * 5) x := ⟨OwnQ.cell5 h hx⟩
theorem ReadsQ.at_ {w : World} {B : Nat} {A : Option Addr} {n : Nat} {l : List Rat} (h : ReadsQ w B A n l) {k : Nat} {x : Rat} (hx : l[k]? = some x) : ∃ ad g o, A = some ad ∧ ad.add (k * 5) = ⟨g, o, none⟩ ∧ g < B ∧ AtQ w g o x := by
  have hk : k < n := by rw [← h.len]; exact (List.getElem?_eq_some_iff.1 hx).1
  obtain ⟨ad, g, o, y, h1, h2, h3, h4, h5⟩ := ReadsQ.cells h hk
  obtain rfl := Option.some.inj (hx.symm.trans h4)
  exact ⟨ad, g, o, h1, h2, h3, ⟨h5⟩⟩
/-- one cell -/
structure At1 (w : World) (g o : Nat) (u : Value) : Prop where
  c2 : w.cell? ⟨g, o, none⟩ = some u ∧ g < w.heap.size
theorem At1.mk' {w : World} {g o : Nat} {u : Value} (h : w.cell? ⟨g, o, none⟩ = some u) : At1 w g o u := ⟨h, cell_lt h⟩
theorem At1.lt {w : World} {g o : Nat} {u : Value} (h : At1 w g o u) : g < w.heap.size := h.c2.2
theorem At1.below {w w' : World} {g o B : Nat} {u : Value} (h : At1 w g o u) (hb : Below B w w') (hg : g < B) : At1 w' g o u := by
  refine At1.mk' ?_
  rw [hb.cell (p := ⟨g, o, none⟩) hg]
  exact h.c2.1
theorem At1.drew {w : World} {g o : Nat} {u : Value} (h : At1 w g o u) : At1 w.drew g o u := h.below (bdrew0 w) h.lt
theorem At1.alloc {w : World} {g o : Nat} {u : Value} (h : At1 w g o u) (b : Obj) : At1 (w.alloc b) g o u := h.below (balloc1 w b) h.lt
/-- the factorials that the row lists lie in memory -/
def TabF (w : World) : Prop := ∀ j, j < 11 → w.cell? ⟨0, j, none⟩ = some (.int .i64 (fact j : Int))
theorem TabF.next {w w' : World} (h : TabF w) (hb : Below w.heap.size w w') : TabF w' := fun j hj => by
  rw [hb.cell (p := ⟨0, j, none⟩) (show 0 < w.heap.size from cell_lt (h j hj))]
  exact h j hj
/-- a store into another block -/
theorem OwnW.far {α : Type} {w : World} {e : TypeId} {k : Nat} {f : α → List Value} {v : Value} {l : List α} (h : OwnW w e k f v l) {g : Nat} (hne : v.ownBlock ≠ some g) (i : Nat) (x : Value) : OwnW (w.setCell ⟨g, i, none⟩ x) e k f v l := by
  refine ⟨h.1, ?_⟩
  rcases h.2 with h3 | ⟨b, cap, cur, h3, h4, h5, h6⟩
  · exact .inl h3
  · exact .inr ⟨b, cap, cur, h3, h4, (Below.heap_setCell _ _ _ b (fun e => hne (by rw [h3]; exact congrArg some e))).trans h5, h6⟩
theorem OwnW.far5 {α : Type} {w : World} {e : TypeId} {k : Nat} {f : α → List Value} {v : Value} {l : List α} (h : OwnW w e k f v l) {g : Nat} (hne : v.ownBlock ≠ some g) (i j m p q : Nat) (x y z t u : Value) :
    OwnW (((((w.setCell ⟨g, i, none⟩ x).setCell ⟨g, j, none⟩ y).setCell ⟨g, m, none⟩ z).setCell ⟨g, p, none⟩ t).setCell ⟨g, q, none⟩ u) e k f v l := ((((h.far hne i x).far hne j y).far hne m z).far hne p t).far hne q u
theorem bset5' {B g i j m p q : Nat} {w w' : World} (h : Below B w w') (hg : B ≤ g) (x y z t u : Value) : Below B w (((((w'.setCell ⟨g, i, none⟩ x).setCell ⟨g, j, none⟩ y).setCell ⟨g, m, none⟩ z).setCell ⟨g, p, none⟩ t).setCell ⟨g, q, none⟩ u) :=
  ((((h.setCell hg x).setCell hg y).setCell hg z).setCell hg t).setCell hg u

theorem born_end {W wn : World} {t : TypeId} {cs : Array Value} (hc : Below W.heap.size W wn) : Born W t cs (.pointer (some ⟨wn.heap.size, 0, none⟩)) (wn.alloc (.cells cs t)) := ⟨_, rfl, hc.size, Blk.new _ _ _, bthen hc (balloc1 _ _)⟩

/-! ### sizes -/
theorem QS.sub {m n : Nat} {a b : Rat} (ha : QS m a) (hb : QS n b) : QS (m + n + 1) (a - b) := by
  rw [Rat.sub_eq_add_neg]
  exact ha.add hb.neg
theorem QS.getD {m : Nat} {l : List Rat} (hl : ∀ x ∈ l, QS m x) (hm : 1 ≤ m) (k : Nat) : QS m (l.getD k 0) := by
  rw [List.getD_eq_getElem?_getD]
  cases h : l[k]? with
  | none => exact QS.zero m hm
  | some x => exact hl x (List.mem_of_getElem? h)
theorem QS.set_ {m : Nat} {l : List Rat} {y : Rat} (hl : ∀ x ∈ l, QS m x) (hy : QS m y) (i : Nat) : ∀ x ∈ l.set i y, QS m x := by
  intro x hx
  rcases List.mem_or_eq_of_mem_set hx with h | h
  · exact hl x h
  · rw [h]; exact hy
theorem gainsQ_size {m : Nat} {v : List Rat} (hv : ∀ x ∈ v, QS m x) (hm : 1 ≤ m) (n c : Nat) : ∀ k, ∀ x ∈ gainsQ v n c k, QS (k * (2 * m + 2) + 1) x := by
  intro k
  induction k with
  | zero =>
    intro x hx
    obtain rfl := (List.mem_replicate.1 hx).2
    exact QS.zero _ (by omega)
  | succ k ih =>
    have e : (k + 1) * (2 * m + 2) + 1 = (k * (2 * m + 2) + 1) + (m + m + 1) + 1 := by rw [Nat.add_mul]; omega
    unfold gainsQ
    split
    · exact fun x hx => (ih x hx).mono (by omega)
    · refine QS.set_ (fun x hx => (ih x hx).mono (by omega)) ?_ _
      rw [e]
      exact (QS.getD ih (by omega) _).add ((QS.getD hv hm _).sub (QS.getD hv hm _))
theorem fact_le : ∀ k, k < 11 → fact k ≤ 3628800 ∧ 1 ≤ fact k := by decide
theorem fact_prod : ∀ n, n < 11 → ∀ k, k < n → fact k * fact (n - 1 - k) ≤ 3628800 := by decide
theorem wtQ_size : ∀ n, n < 11 → ∀ k, k < n → QS 22 (wtQ n k) := by
  have h : ∀ n, n < 11 → ∀ k, k < n → (wtQ n k).num.natAbs < 2 ^ 22 ∧ (wtQ n k).den < 2 ^ 22 := by decide +kernel
  exact fun n hn k hk => ⟨blen_le _ _ (h n hn k hk).1, blen_le _ _ (h n hn k hk).2⟩
theorem accQ_size {M n : Nat} {g : List Rat} (hg : ∀ x ∈ g, QS M x) (hM : 1 ≤ M) (hn : n ≤ 10) : ∀ j, j ≤ n → QS (j * (M + 23) + 1) (accQ n g j) := by
  intro j
  induction j with
  | zero => intro _; exact QS.zero _ (by omega)
  | succ j ih =>
    intro hj
    have e : (j + 1) * (M + 23) + 1 = (j * (M + 23) + 1) + (22 + M) + 1 := by rw [Nat.add_mul]; omega
    show QS _ (accQ n g j + wtQ n j * g.getD j 0)
    rw [e]
    exact (ih (by omega)).add ((wtQ_size n (by omega) j (by omega)).mul (QS.getD hg hM _))
theorem shareQ_size {m n : Nat} {v : List Rat} (hv : ∀ x ∈ v, QS m x) (hm : 1 ≤ m) (hn : n ≤ 10) (c : Nat) : QS (20480 * m + 20721) (shareQ v n c) := by
  have hp := pow10 hn
  have h1 := gainsQ_size hv hm n c (2 ^ n)
  obtain ⟨M, hM⟩ : ∃ M, 2048 * m + 2049 = M := ⟨_, rfl⟩
  have h2 : ∀ x ∈ gainsQ v n c (2 ^ n), QS M x := fun x hx => (h1 x hx).mono (by have := Nat.mul_le_mul_right (2 * m + 2) hp; omega)
  have h3 := accQ_size (n := n) h2 (by omega) hn n (Nat.le_refl _)
  have h4 := Nat.mul_le_mul_right (M + 23) hn
  exact h3.mono (by omega)
theorem sharesQ_size {m n : Nat} {v : List Rat} (hv : ∀ x ∈ v, QS m x) (hm : 1 ≤ m) (hn : n ≤ 10) : ∀ x ∈ sharesQ v n, QS (20480 * m + 20721) x := by
  intro x hx
  obtain ⟨c, _, rfl⟩ := List.mem_map.1 hx
  exact shareQ_size hv hm hn c
/-! ### the row of the shares, column by column -/
def partS (v : List Rat) (n c : Nat) : List Rat := (List.range c).map (shareQ v n) ++ List.replicate (n - c) 0
theorem partS_len (v : List Rat) {n c : Nat} (hc : c ≤ n) : (partS v n c).length = n := by simp [partS]; omega
theorem partS_all (v : List Rat) (n : Nat) : partS v n n = sharesQ v n := by simp [partS, sharesQ]
theorem partS_succ (v : List Rat) {n c : Nat} (hc : c < n) : (partS v n c).set c (shareQ v n c) = partS v n (c + 1) := by
  have hl : ((List.range c).map (shareQ v n)).length = c := by simp
  unfold partS
  rw [List.set_append_right _ _ (by omega), hl, Nat.sub_self, List.range_succ, List.map_append, show n - c = (n - (c + 1)) + 1 from by omega, List.replicate_succ, List.set_cons_zero]
  simp
theorem partS_zero (v : List Rat) {n c : Nat} (hc : c < n) : (partS v n c).set c 0 = partS v n c := by
  have hl : ((List.range c).map (shareQ v n)).length = c := by simp
  unfold partS
  rw [List.set_append_right _ _ (by omega), hl, Nat.sub_self, show n - c = (n - (c + 1)) + 1 from by omega, List.replicate_succ, List.set_cons_zero]

/-! ### the walk -/
/-- behind k sets for column c -/
def SetRel (w : World) (lv : List Rat) (n c g6 g8 : Nat) (k : Nat) (wr : World) : Prop :=
  OwnQ wr (.slice (some ⟨g6, 0, none⟩) n n) (partS lv n c) ∧ OwnQ wr (.slice (some ⟨g8, 0, none⟩) n n) (gainsQ lv n c k) ∧ Below w.heap.size w wr
/-- behind j sizes for column c -/
def SizeRel (w : World) (lv : List Rat) (n c g6 g8 : Nat) (j : Nat) (wr : World) : Prop :=
  OwnQ wr (.slice (some ⟨g6, 0, none⟩) n n) ((partS lv n c).set c (accQ n (gainsQ lv n c (2 ^ n)) j)) ∧ OwnQ wr (.slice (some ⟨g8, 0, none⟩) n n) (gainsQ lv n c (2 ^ n)) ∧ Below w.heap.size w wr
set_option maxRecDepth 100000 in
set_option maxHeartbeats 8000000 in
theorem share_shares (A : Option Addr) (m cp n B M : Nat) (lv : List Rat) (w : World) (h : ReadsQ w B A m lv) (hB : B ≤ w.heap.size) (hm : m = 2 ^ n) (hn1 : 1 ≤ n) (hn : n ≤ 10) (hM : 1 ≤ M) (hM2 : M ≤ 1000000) (hl : ∀ x ∈ lv, QS M x) (hT : Tab w) (hF : TabF w) :
    Calls Tryz.prog 17 #[.slice A m cp] w fun e w' => ∃ v, e = .returned (.tuple #[v, .int .i64 0]) ∧ OwnQ w' v (sharesQ lv n) ∧ (∀ b, v.ownBlock = some b → w.heap.size ≤ b) ∧ Below w.heap.size w w' := by
  have hcol := share_columns A m cp n
  have HCOL := Lib.hid (fun w => hcol w hm hn1 hn)
  have HM := Lib.hid hm
  have HLN := Lib.hid h.len
  have HR := Lib.hid h
  have HT := Lib.hid hT
  have HF := Lib.hid hF
  have HL := Lib.hid hl
  have hm10 : m ≤ 1024 := by rw [hm]; exact pow10 hn
  clear hcol hm h hT hF hl
  go_enter Tryz.func17, Tryz.ntmps17
  go_wp2_with fail
  refine (HCOL.out w).mono ?_
  rintro e w' ⟨rfl, rfl⟩
  clear HCOL
  obtain ⟨w1, hmk, ho1, hb1⟩ := make_q n (by omega) w
  have hg6 : w.heap.size < w1.heap.size := (OwnW.lt ho1 _ rfl)
  go_wp2_with fail
  clear hmk
  obtain ⟨g6, hg6e⟩ : ∃ g6, w.heap.size = g6 := ⟨_, rfl⟩
  rw [hg6e] at ho1 hg6 ⊢
  have hg6w : w.heap.size ≤ g6 := by omega
  have HB1 := Lib.hid hb1
  have HO1 := Lib.hid ho1
  clear hg6e hb1 ho1
  go_loopw [27] (fun p wr => ∃ c : Nat, c ≤ n ∧ p = .int .i64 (c : Int) ∧ OwnQ wr (.slice (some ⟨g6, 0, none⟩) n n) (partS lv n c) ∧ Below w.heap.size w wr) (fun p _ => n - (intOf p).toNat)
  case atStart => exact ⟨0, by omega, rfl, by simpa [partS] using HO1.out, HB1.out⟩
  case round =>
    obtain ⟨c, hc, rfl, ho6, hbw⟩ := hrel
    rename World => wr
    clear HB1 HO1
    by_cases hcn : c < n
    · have hc1 : (c : Int) < (n : Int) := by omega
      obtain ⟨w2, hmk2, ho8, hb2⟩ := make_q n (by omega) wr
      have hg8 : g6 < wr.heap.size := OwnW.lt ho6 _ rfl
      have hg8l : wr.heap.size < w2.heap.size := OwnW.lt ho8 _ rfl
      have ho6 := OwnW.next ho6 hb2
      have hbw2 := hbw.trans (hb2.mono hbw.size)
      have hg8w : w.heap.size ≤ wr.heap.size := hbw.size
      go_wp2_with fail
      clear hmk2
      generalize wr.heap.size = g8 at *
      have HS := Lib.hid (show SetRel w lv n c g6 g8 0 w2 from ⟨ho6, ho8, hbw2⟩)
      clear ho6 ho8 hbw2 hbw hb2
      go_loopw [34] (fun p wq => ∃ k : Nat, k ≤ m ∧ p = .int .i64 (k : Int) ∧ SetRel w lv n c g6 g8 k wq) (fun p _ => m - (intOf p).toNat)
      case atStart => exact ⟨0, by omega, rfl, HS.out⟩
      case round =>
        obtain ⟨k, hk, rfl, hrel⟩ := hrel
        rename World => wq
        clear HS
        obtain ⟨ho6, ho8, hbw⟩ := hrel
        by_cases hkm : k < m
        · have k1 : (k : Int) < (m : Int) := by omega
          obtain ⟨y, hy⟩ : ∃ y, lv[k]? = some y := ⟨_, List.getElem?_eq_getElem (by have := HLN.out; omega)⟩
          obtain ⟨ad, gv, ov, rfl, hP, hgB, hat⟩ := ReadsQ.at_ (HR.out.below (hbw.mono hB)) hy
          obtain ⟨y0, y1, y2, y3, y4⟩ := hat.c5
          have hmN : m ≤ 1024 := hm10
          cases hbit : bitOn k c with
          | true =>
            have he : (bits BinOp.and IntKind.i64 ((k : Int) / 2 ^ c) 1 == 0) = false := by rw [bit_eq0 (by omega), hbit]; rfl
            have hg : gainsQ lv n c (k + 1) = gainsQ lv n c k := by rw [gainsQ, if_pos hbit]
            have HS := Lib.hid (show SetRel w lv n c g6 g8 (k + 1) (wq.alloc (.cells #[.bool (decide (y.num < 0)), .int .u64 (lo y.num.natAbs : Int), .string (mo y.num.natAbs), .int .u64 (lo ((qden y)) : Int), .string (mo ((qden y)))] 52)) from ⟨OwnW.alloc ho6 _, by rw [hg]; exact OwnW.alloc ho8 _, hbw.alloc (Nat.le_trans (Nat.le_refl _) hbw.size) _⟩)
            clear ho6 ho8 hbw hat hg
            go_wp2
            exact ⟨⟨k + 1, by omega, by go_num, HS.out⟩, by simp [intOf]; omega⟩
          | false =>
            have he : (bits BinOp.and IntKind.i64 ((k : Int) / 2 ^ c) 1 == 0) = true := by rw [bit_eq0 (by omega), hbit]; rfl
            have hk2 : k < 2 ^ n := by rw [← HM.out]; exact hkm
            obtain ⟨hw1, hw2⟩ := with_lt hn hk2 hcn hbit
            have hor := or_walk (k := k) (c := c) (by omega) (by omega)
            have hpw := pow_wrap (k := c) (by omega)
            have hsz := ones_lt hn hk2 hcn hbit
            rw [hw2] at hor
            have hkb : k + 2 ^ c < m := by rw [HM.out]; exact hw1
            obtain ⟨kb, hkbe⟩ : ∃ kb, k + 2 ^ c = kb := ⟨_, rfl⟩
            obtain ⟨x, hx⟩ : ∃ x, lv[kb]? = some x := ⟨_, List.getElem?_eq_getElem (by have := HLN.out; omega)⟩
            obtain ⟨gs, hgs⟩ : ∃ gs, (gainsQ lv n c k)[ones k]? = some gs := ⟨_, List.getElem?_eq_getElem (by rw [gainsQ_len]; exact hsz)⟩
            have hxd : lv.getD (k + 2 ^ c) 0 = x := by rw [hkbe, List.getD_eq_getElem?_getD, hx]; rfl
            have hyd : lv.getD k 0 = y := by rw [List.getD_eq_getElem?_getD, hy]; rfl
            have hgd : (gainsQ lv n c k).getD (ones k) 0 = gs := by rw [List.getD_eq_getElem?_getD, hgs]; rfl
            have hg : gainsQ lv n c (k + 1) = (gainsQ lv n c k).set (ones k) (gs + (x - y)) := by rw [gainsQ, if_neg (by rw [hbit]; simp), hxd, hyd, hgd]
            have hxs : QS 1000000 x := (HL.out x (List.mem_of_getElem? hx)).mono hM2
            have hys : QS 1000000 y := (HL.out y (List.mem_of_getElem? hy)).mono hM2
            have hgz : QS 2100000000 gs := (gainsQ_size HL.out hM n c k gs (List.mem_of_getElem? hgs)).mono (by
              have := Nat.mul_le_mul (show k ≤ 1024 by omega) (show 2 * M + 2 ≤ 2000002 by omega)
              omega)
            rw [hkbe] at hor hkb
            have hs1 : ((ones k : Nat) : Int) < (n : Int) := by omega
            obtain ⟨adx, gx, ox, hAx, hPx, hgBx, hatx⟩ := ReadsQ.at_ (HR.out.below (hbw.mono hB)) hx
            obtain rfl := Option.some.inj hAx
            have hatg := OwnQ.at_ ho8 hgs
            generalize hsk : ones k = sk at *
            have hsub := fun w (hT : Tab w) => frac_sub x y w (hxs.mono (by omega)) (hys.mono (by omega)) hT
            have hds : QS 2000001 (x - y) := (hxs.sub hys).mono (by omega)
            generalize x - y = dd at *
            have hadd := fun w (hT : Tab w) => frac_add gs dd w (hgz.mono (by omega)) (hds.mono (by omega)) hT
            generalize gs + dd = s' at *
            unfold qV at hsub hadd
            have HSUB := Lib.hid hsub
            have HADD := Lib.hid hadd
            have HG := Lib.hid hg
            have hones := fun w => bits_ones k w (by omega)
            rw [hsk] at hones
            have HONES := Lib.hid hones
            have hkb1 : (kb : Int) < (m : Int) := by omega
            clear hsub hadd hg hones hxs hys hgz hds hxd hyd hgd hx hgs hw1 hw2 hAx hkbe hsz hk2 hsk
            go_wp2_with fail
            refine (HONES.out _).mono ?_
            rintro e w' ⟨rfl, rfl⟩
            have b3 := Blk.new wq 52 #[.bool (decide (y.num < 0)), .int .u64 (lo y.num.natAbs : Int), .string (mo y.num.natAbs), .int .u64 (lo ((qden y)) : Int), .string (mo ((qden y)))]
            have b1 := hatg.alloc (.cells #[.bool (decide (y.num < 0)), .int .u64 (lo y.num.natAbs : Int), .string (mo y.num.natAbs), .int .u64 (lo ((qden y)) : Int), .string (mo ((qden y)))] 52)
            have b2 := hatx.alloc (.cells #[.bool (decide (y.num < 0)), .int .u64 (lo y.num.natAbs : Int), .string (mo y.num.natAbs), .int .u64 (lo ((qden y)) : Int), .string (mo ((qden y)))] 52)
            have ho6 := OwnW.alloc ho6 (.cells #[.bool (decide (y.num < 0)), .int .u64 (lo y.num.natAbs : Int), .string (mo y.num.natAbs), .int .u64 (lo ((qden y)) : Int), .string (mo ((qden y)))] 52)
            have ho8 := OwnW.alloc ho8 (.cells #[.bool (decide (y.num < 0)), .int .u64 (lo y.num.natAbs : Int), .string (mo y.num.natAbs), .int .u64 (lo ((qden y)) : Int), .string (mo ((qden y)))] 52)
            have hbw := hbw.alloc hbw.size (.cells #[.bool (decide (y.num < 0)), .int .u64 (lo y.num.natAbs : Int), .string (mo y.num.natAbs), .int .u64 (lo ((qden y)) : Int), .string (mo ((qden y)))] 52)
            have tT := HT.out.next hbw
            have hl8 : g8 < wq.heap.size := hatg.lt
            have ne1 : ¬ g8 = wq.heap.size := by omega
            have ne2 : ¬ wq.heap.size = g8 := by omega
            have ne3 : ¬ g8 = gx := by omega
            have ne4 : ¬ gx = g8 := by omega
            have ne5 : ¬ g6 = g8 := by omega
            clear hat hatx hatg y0 y1 y2 y3 y4
            go_upto_region 14 with fail
            generalize wq.alloc (.cells #[.bool (decide (y.num < 0)), .int .u64 (lo y.num.natAbs : Int), .string (mo y.num.natAbs), .int .u64 (lo ((qden y)) : Int), .string (mo ((qden y)))] 52) = W at *
            generalize wq.heap.size = b10 at *
            obtain ⟨b1q0, b1q1, b1q2, b1q3, b1q4⟩ := b1.c5; have c1 := b1.drew; have c1l := c1.lt; obtain ⟨b2q0, b2q1, b2q2, b2q3, b2q4⟩ := b2.c5; have c2 := b2.drew; have c2l := c2.lt; obtain ⟨b3q0, b3q1, b3q2, b3q3, b3q4⟩ := b3.c5; have c3 := b3.drew; have c3l := c3.lt; have hc := bdrew0 W; go_region_with (first | (go_at_call 31; (with_reducible refine (HSUB.out _ (tT.next hc)).mono ?_); rintro e w1 ⟨rfl, hw1⟩; have c1 := c1.below hw1 c1.lt; (try clear c1q0 c1q1 c1q2 c1q3 c1q4); obtain ⟨c1q0, c1q1, c1q2, c1q3, c1q4⟩ := c1.c5; (try clear c1l); have c1l := c1.lt; have c2 := c2.below hw1 c2.lt; (try clear c2q0 c2q1 c2q2 c2q3 c2q4); obtain ⟨c2q0, c2q1, c2q2, c2q3, c2q4⟩ := c2.c5; (try clear c2l); have c2l := c2.lt; have c3 := c3.below hw1 c3.lt; (try clear c3q0 c3q1 c3q2 c3q3 c3q4); obtain ⟨c3q0, c3q1, c3q2, c3q3, c3q4⟩ := c3.c5; (try clear c3l); have c3l := c3.lt; have hc := bthen hc hw1) | (go_at_call 26; (with_reducible refine (HADD.out _ (tT.next hc)).mono ?_); rintro e w2 ⟨rfl, hw2⟩; have c1 := c1.below hw2 c1.lt; (try clear c1q0 c1q1 c1q2 c1q3 c1q4); obtain ⟨c1q0, c1q1, c1q2, c1q3, c1q4⟩ := c1.c5; (try clear c1l); have c1l := c1.lt; have c2 := c2.below hw2 c2.lt; (try clear c2q0 c2q1 c2q2 c2q3 c2q4); obtain ⟨c2q0, c2q1, c2q2, c2q3, c2q4⟩ := c2.c5; (try clear c2l); have c2l := c2.lt; have c3 := c3.below hw2 c3.lt; (try clear c3q0 c3q1 c3q2 c3q3 c3q4); obtain ⟨c3q0, c3q1, c3q2, c3q3, c3q4⟩ := c3.c5; (try clear c3l); have c3l := c3.lt; have hc := bthen hc hw2; have o8 := OwnW.next ho8 hc; have f0 := OwnQ.frozen o8 (sk * 5); have f1 := OwnQ.frozen o8 (sk * 5 + 1); have f2 := OwnQ.frozen o8 (sk * 5 + 2); have f3 := OwnQ.frozen o8 (sk * 5 + 3); have f4 := OwnQ.frozen o8 (sk * 5 + 4)))
            all_goals
              go_wp2
              exact ⟨⟨k + 1, by omega, by go_num, OwnW.far5 (OwnW.next ho6 hc) (by simp [Value.ownBlock]; omega) _ _ _ _ _ _ _ _ _ _, by rw [HG.out]; exact OwnQ.store o8 sk s', bset5' (hbw.trans (hc.mono hbw.size)) (by omega) _ _ _ _ _⟩, by simp [intOf]; omega⟩
        · obtain rfl : k = m := by omega
          have k1 : ¬ (k : Int) < (k : Int) := by omega
          have ne5 : ¬ g6 = g8 := by omega
          have HS := Lib.hid (show SizeRel w lv n c g6 g8 0 wq from ⟨by rw [show accQ n (gainsQ lv n c (2 ^ n)) 0 = 0 from rfl, partS_zero lv hcn]; exact ho6, by rw [← HM.out]; exact ho8, hbw⟩)
          clear ho6 ho8 hbw
          go_wp2_with fail
          go_loopw [67] (fun p wq => ∃ j : Nat, j ≤ n ∧ p = .int .i64 (j : Int) ∧ SizeRel w lv n c g6 g8 j wq) (fun p _ => n - (intOf p).toNat)
          case atStart => exact ⟨0, by omega, rfl, HS.out⟩
          case round =>
            obtain ⟨j, hj, rfl, hrel⟩ := hrel
            rename World => wz
            clear HS
            obtain ⟨ho6, ho8, hbw⟩ := hrel
            by_cases hjn : j < n
            · have j1 : (j : Int) < (n : Int) := by omega
              obtain ⟨gq, hgq⟩ : ∃ gq, (gainsQ lv n c (2 ^ n))[j]? = some gq := ⟨_, List.getElem?_eq_getElem (by rw [gainsQ_len]; exact hjn)⟩
              have hgd : (gainsQ lv n c (2 ^ n)).getD j 0 = gq := by rw [List.getD_eq_getElem?_getD, hgq]; rfl
              obtain ⟨ac, hac⟩ : ∃ ac, accQ n (gainsQ lv n c (2 ^ n)) j = ac := ⟨_, rfl⟩
              obtain ⟨wt, hwt⟩ : ∃ wt, wtQ n j = wt := ⟨_, rfl⟩
              have hacs : accQ n (gainsQ lv n c (2 ^ n)) (j + 1) = ac + wt * gq := by rw [accQ, hac, hwt, hgd]
              have hac6 : ((partS lv n c).set c ac)[c]? = some ac := List.getElem?_set_self (by rw [partS_len lv hc]; exact hcn)
              have h1 := gainsQ_size HL.out hM n c (2 ^ n)
              obtain ⟨M2, hM2e⟩ : ∃ M2 : Nat, M2 = 2049000000 := ⟨_, rfl⟩
              have h2 : ∀ x ∈ gainsQ lv n c (2 ^ n), QS M2 x := fun x hx => (h1 x hx).mono (by
                have := Nat.mul_le_mul (pow10 hn) (show 2 * M + 2 ≤ 2000002 by omega)
                omega)
              have hqz : QS M2 gq := h2 gq (List.mem_of_getElem? hgq)
              have haz : QS 20490000231 ac := by
                rw [← hac]
                refine (accQ_size h2 (by omega) hn j (by omega)).mono ?_
                have := Nat.mul_le_mul_right (M2 + 23) (show j ≤ 10 by omega)
                omega
              have hwz : QS 22 wt := by rw [← hwt]; exact wtQ_size n (by omega) j hjn
              have hmul := fun w (hT : Tab w) => frac_mul wt gq w (hwz.mono (by omega)) (hqz.mono (by omega)) hT
              have hpz : QS 2049000022 (wt * gq) := (hwz.mul hqz).mono (by omega)
              obtain ⟨r, hr⟩ : ∃ r, n - 1 - j = r := ⟨_, rfl⟩
              obtain ⟨n1, hn1e⟩ : ∃ n1, n - 1 = n1 := ⟨_, rfl⟩
              have hfp := fact_prod n (by omega) j hjn
              have hfn := fact_le n (by omega)
              have hwt' : wt = Rat.divInt ((fact j * fact r : Nat) : Int) (fact n : Int) := by rw [← hwt, ← hr]; rfl
              rw [hr] at hfp
              have hf1 := At1.mk' (HF.out j (by omega))
              have hf2 := At1.mk' (HF.out r (by omega))
              have hf3 := At1.mk' (HF.out n (by omega))
              have hmm : ((fact j : Int) * (fact r : Int)) = ((fact j * fact r : Nat) : Int) := by rw [Int.natCast_mul]
              generalize hfj : fact j = fj at *
              generalize hfr : fact r = fr at *
              generalize hfnn : fact n = fn at *
              obtain ⟨pp, hpp⟩ : ∃ pp, fj * fr = pp := ⟨_, rfl⟩
              rw [hpp] at hfp hwt' hmm
              have hover := fun w (hT : Tab w) => frac_over2 (pp : Int) (fn : Int) w (by omega) (by omega) (by omega) (by omega) hT
              rw [← hwt', decide_eq_true (show (fn : Int) ≠ 0 by omega)] at hover
              clear hwt'
              generalize wt * gq = pq at *
              have hadd := fun w (hT : Tab w) => frac_add ac pq w (haz.mono (by omega)) (hpz.mono (by omega)) hT
              generalize ac + pq = at1 at *
              unfold qV at hmul hadd hover
              have HMUL := Lib.hid hmul
              have HADD := Lib.hid hadd
              have HOV := Lib.hid hover
              have HA := Lib.hid hacs
              rw [hac] at ho6
              have hatg := OwnQ.at_ ho8 hgq
              have hata := OwnQ.at_ ho6 hac6
              obtain ⟨y0, y1, y2, y3, y4⟩ := hatg.c5
              have e1 : (n : Int) - 1 = (n1 : Int) := by omega
              have e2 : (n1 : Int) - (j : Int) = (r : Int) := by omega
              have e3 : IntKind.i64.wrap (n1 : Int) = (n1 : Int) := IntWalk.i64_in _ (by omega)
              have e4 : IntKind.i64.wrap (r : Int) = (r : Int) := IntWalk.i64_in _ (by omega)
              have e5 : IntKind.i64.wrap (pp : Int) = (pp : Int) := IntWalk.i64_in _ (by omega)
              have r1 : (r : Int) < 11 := by omega
              have r2 : (j : Int) < 11 := by omega
              have r3 : (n : Int) < 11 := by omega
              clear hmul hadd hover hacs h1 h2 hM2e hqz haz hwz hpz hgd hgq hac hac6 hfj hfr hfnn hpp hfp
              have hata0 := hata
              clear hj
              go_upto_region 19 with fail
              have b13 := Blk.new wz 52 #[.bool (decide (gq.num < 0)), .int .u64 (lo gq.num.natAbs : Int), .string (mo gq.num.natAbs), .int .u64 (lo ((qden gq)) : Int), .string (mo ((qden gq)))]
              have ho6 := OwnW.alloc ho6 (.cells #[.bool (decide (gq.num < 0)), .int .u64 (lo gq.num.natAbs : Int), .string (mo gq.num.natAbs), .int .u64 (lo ((qden gq)) : Int), .string (mo ((qden gq)))] 52)
              have ho8 := OwnW.alloc ho8 (.cells #[.bool (decide (gq.num < 0)), .int .u64 (lo gq.num.natAbs : Int), .string (mo gq.num.natAbs), .int .u64 (lo ((qden gq)) : Int), .string (mo ((qden gq)))] 52)
              have hata := hata.alloc (.cells #[.bool (decide (gq.num < 0)), .int .u64 (lo gq.num.natAbs : Int), .string (mo gq.num.natAbs), .int .u64 (lo ((qden gq)) : Int), .string (mo ((qden gq)))] 52)
              have hbw := hbw.alloc hbw.size (.cells #[.bool (decide (gq.num < 0)), .int .u64 (lo gq.num.natAbs : Int), .string (mo gq.num.natAbs), .int .u64 (lo ((qden gq)) : Int), .string (mo ((qden gq)))] 52)
              have hl6 : g6 < wz.heap.size := hata0.lt
              generalize wz.alloc (.cells #[.bool (decide (gq.num < 0)), .int .u64 (lo gq.num.natAbs : Int), .string (mo gq.num.natAbs), .int .u64 (lo ((qden gq)) : Int), .string (mo ((qden gq)))] 52) = W at *
              generalize wz.heap.size = b10 at *
              have tT := HT.out.next hbw
              have f1 := hf1.below hbw hf1.lt
              have f2 := hf2.below hbw hf2.lt
              have f3 := hf3.below hbw hf3.lt
              clear hatg y0 y1 y2 y3 y4 hf1 hf2 hf3
              go_cut [14] (fun v wc => Born W 52 #[.bool (decide (wt.num < 0)), .int .u64 (lo wt.num.natAbs : Int), .string (mo wt.num.natAbs), .int .u64 (lo ((qden wt)) : Int), .string (mo ((qden wt)))] v wc)
              case first =>
                obtain ⟨f1q0, f1q1⟩ := f1.c2; have c1 := f1.drew; have c1l := c1.lt; obtain ⟨f2q0, f2q1⟩ := f2.c2; have c2 := f2.drew; have c2l := c2.lt; obtain ⟨f3q0, f3q1⟩ := f3.c2; have c3 := f3.drew; have c3l := c3.lt; have hc := bdrew0 W; go_region_held3 (fun w' => w'.cell? ⟨0, j, none⟩ = some (.int .i64 (fj : Int)) ∧ w'.cell? ⟨0, r, none⟩ = some (.int .i64 (fr : Int)) ∧ w'.cell? ⟨0, n, none⟩ = some (.int .i64 (fn : Int))) (go_keep) (first | (go_at_call 39; (first | with_reducible refine (HOV.out _ (tT.next hc)).mono ?_ | (have hga : W.heap.size ≤ W.heap.size := hc.size; have ca : Blk _ W.heap.size _ _ := Blk.new W.drew 52 #[.bool false, .int .u64 0, .string ⟨#[]⟩, .int .u64 0, .string ⟨#[]⟩]; have c1na := nelt (show _ < W.heap.size from c1l) (Nat.le_refl _); have c1 := c1.alloc (.cells #[.bool false, .int .u64 0, .string ⟨#[]⟩, .int .u64 0, .string ⟨#[]⟩] 52); have c2na := nelt (show _ < W.heap.size from c2l) (Nat.le_refl _); have c2 := c2.alloc (.cells #[.bool false, .int .u64 0, .string ⟨#[]⟩, .int .u64 0, .string ⟨#[]⟩] 52); have c3na := nelt (show _ < W.heap.size from c3l) (Nat.le_refl _); have c3 := c3.alloc (.cells #[.bool false, .int .u64 0, .string ⟨#[]⟩, .int .u64 0, .string ⟨#[]⟩] 52); have hc := bthen hc (balloc1 _ (.cells #[.bool false, .int .u64 0, .string ⟨#[]⟩, .int .u64 0, .string ⟨#[]⟩] 52)); with_reducible refine (HOV.out _ (tT.next hc)).mono ?_) | (have hga : W.heap.size ≤ W.heap.size := hc.size; have ca : Blk (W.alloc (.cells #[.bool false, .int .u64 0, .string ⟨#[]⟩, .int .u64 0, .string ⟨#[]⟩] 52)).drew W.heap.size _ _ := Blk.new W.drew 52 #[.bool false, .int .u64 0, .string ⟨#[]⟩, .int .u64 0, .string ⟨#[]⟩]; have c1na := nelt (show _ < W.heap.size from c1l) (Nat.le_refl _); have c1 : At1 (W.alloc (.cells #[.bool false, .int .u64 0, .string ⟨#[]⟩, .int .u64 0, .string ⟨#[]⟩] 52)).drew _ _ _ := c1.alloc (.cells #[.bool false, .int .u64 0, .string ⟨#[]⟩, .int .u64 0, .string ⟨#[]⟩] 52); have c2na := nelt (show _ < W.heap.size from c2l) (Nat.le_refl _); have c2 : At1 (W.alloc (.cells #[.bool false, .int .u64 0, .string ⟨#[]⟩, .int .u64 0, .string ⟨#[]⟩] 52)).drew _ _ _ := c2.alloc (.cells #[.bool false, .int .u64 0, .string ⟨#[]⟩, .int .u64 0, .string ⟨#[]⟩] 52); have c3na := nelt (show _ < W.heap.size from c3l) (Nat.le_refl _); have c3 : At1 (W.alloc (.cells #[.bool false, .int .u64 0, .string ⟨#[]⟩, .int .u64 0, .string ⟨#[]⟩] 52)).drew _ _ _ := c3.alloc (.cells #[.bool false, .int .u64 0, .string ⟨#[]⟩, .int .u64 0, .string ⟨#[]⟩] 52); have hc : Below W.heap.size W (W.alloc (.cells #[.bool false, .int .u64 0, .string ⟨#[]⟩, .int .u64 0, .string ⟨#[]⟩] 52)).drew := bthen hc (balloc1 _ (.cells #[.bool false, .int .u64 0, .string ⟨#[]⟩, .int .u64 0, .string ⟨#[]⟩] 52)); with_reducible refine (HOV.out _ (tT.next hc)).mono ?_)); rintro e w1 ⟨rfl, hw1⟩; (try have ca := ca.below hw1 ca.lt); have c1 := c1.below hw1 c1.lt; (try clear c1q0 c1q1); obtain ⟨c1q0, c1q1⟩ := c1.c2; (try clear c1l); have c1l := c1.lt; have c2 := c2.below hw1 c2.lt; (try clear c2q0 c2q1); obtain ⟨c2q0, c2q1⟩ := c2.c2; (try clear c2l); have c2l := c2.lt; have c3 := c3.below hw1 c3.lt; (try clear c3q0 c3q1); obtain ⟨c3q0, c3q1⟩ := c3.c2; (try clear c3l); have c3l := c3.lt; have hc := bthen hc hw1; (try (have cal := ca.lt; obtain ⟨caq0, caq1, caq2, caq3, caq4, caf0, caf1, caf2, caf3, caf4, cas0, cas1, cas2, cas3, cas4⟩ := ca.f5))))
                all_goals
                  go_wp2
                  go_meet
                  first | with_reducible exact born_end hc | with_reducible exact one5 hc ca hga | with_reducible exact one5 (bthen hc (balloc1 _ _)) (Blk.new _ _ _) hc.size
              case rest =>
                obtain ⟨g14, rfl, hg14, b14, hb14⟩ := hcut
                rename World => W2
                have b13 := b13.below hb14 b13.lt
                have a6 := hata.below hb14 hata.lt
                have ho6 := OwnW.next ho6 hb14
                have ho8 := OwnW.next ho8 hb14
                have hbw := hbw.trans (hb14.mono hbw.size)
                have tT := HT.out.next hbw
                have ne1 : ¬ g6 = b10 := by omega
                have ne2 : ¬ b10 = g6 := by omega
                have ne3 : ¬ g6 = g14 := by have := hata.lt; omega
                have ne4 : ¬ g14 = g6 := by omega
                clear hata f1 f2 f3 hb14 hg14 HOV
                go_upto_region 20 with fail
                obtain ⟨a6q0, a6q1, a6q2, a6q3, a6q4⟩ := a6.c5; have c6 := a6.drew; have c6l := c6.lt; obtain ⟨b13q0, b13q1, b13q2, b13q3, b13q4⟩ := b13.c5; have c13 := b13.drew; have c13l := c13.lt; obtain ⟨b14q0, b14q1, b14q2, b14q3, b14q4⟩ := b14.c5; have c14 := b14.drew; have c14l := c14.lt; have hc := bdrew0 W2; go_region_with (first | (go_at_call 40; (with_reducible refine (HMUL.out _ (tT.next hc)).mono ?_); rintro e w1 ⟨rfl, hw1⟩; have c6 := c6.below hw1 c6.lt; (try clear c6q0 c6q1 c6q2 c6q3 c6q4); obtain ⟨c6q0, c6q1, c6q2, c6q3, c6q4⟩ := c6.c5; (try clear c6l); have c6l := c6.lt; have c13 := c13.below hw1 c13.lt; (try clear c13q0 c13q1 c13q2 c13q3 c13q4); obtain ⟨c13q0, c13q1, c13q2, c13q3, c13q4⟩ := c13.c5; (try clear c13l); have c13l := c13.lt; have c14 := c14.below hw1 c14.lt; (try clear c14q0 c14q1 c14q2 c14q3 c14q4); obtain ⟨c14q0, c14q1, c14q2, c14q3, c14q4⟩ := c14.c5; (try clear c14l); have c14l := c14.lt; have hc := bthen hc hw1) | (go_at_call 26; (with_reducible refine (HADD.out _ (tT.next hc)).mono ?_); rintro e w2 ⟨rfl, hw2⟩; have c6 := c6.below hw2 c6.lt; (try clear c6q0 c6q1 c6q2 c6q3 c6q4); obtain ⟨c6q0, c6q1, c6q2, c6q3, c6q4⟩ := c6.c5; (try clear c6l); have c6l := c6.lt; have c13 := c13.below hw2 c13.lt; (try clear c13q0 c13q1 c13q2 c13q3 c13q4); obtain ⟨c13q0, c13q1, c13q2, c13q3, c13q4⟩ := c13.c5; (try clear c13l); have c13l := c13.lt; have c14 := c14.below hw2 c14.lt; (try clear c14q0 c14q1 c14q2 c14q3 c14q4); obtain ⟨c14q0, c14q1, c14q2, c14q3, c14q4⟩ := c14.c5; (try clear c14l); have c14l := c14.lt; have hc := bthen hc hw2; have o6 := OwnW.next ho6 hc; have f0 := OwnQ.frozen o6 (c * 5); have f1 := OwnQ.frozen o6 (c * 5 + 1); have f2 := OwnQ.frozen o6 (c * 5 + 2); have f3 := OwnQ.frozen o6 (c * 5 + 3); have f4 := OwnQ.frozen o6 (c * 5 + 4)))
                all_goals
                  go_wp2
                  exact ⟨⟨j + 1, by omega, by go_num, by rw [HA.out]; have st := OwnQ.store o6 c at1; rw [List.set_set] at st; exact st, OwnW.far5 (OwnW.next ho8 hc) (by simp [Value.ownBlock]; omega) _ _ _ _ _ _ _ _ _ _, bset5' (hbw.trans (hc.mono hbw.size)) (by omega) _ _ _ _ _⟩, by simp [intOf]; omega⟩
            · obtain rfl : j = n := by omega
              have j1 : ¬ (j : Int) < (j : Int) := by omega
              have HF6 := Lib.hid (show OwnQ wz (.slice (some ⟨g6, 0, none⟩) j j) (partS lv j (c + 1)) from by rw [← partS_succ lv hcn]; exact ho6)
              clear ho6 ho8
              go_wp2
              exact ⟨⟨c + 1, by omega, by go_num, HF6.out, hbw⟩, by simp [intOf]; omega⟩
    · obtain rfl : c = n := by omega
      have c1 : ¬ (c : Int) < (c : Int) := by omega
      rw [partS_all] at ho6
      have HF6 := Lib.hid ho6
      clear ho6
      go_wp2
      go_returns
      exact ⟨_, rfl, HF6.out, fun b hb => by have e : g6 = b := by simpa [Value.ownBlock] using hb
                                             omega, hbw⟩
end Go.Proofs.YtbjemjopcoajcaaGreatDoor
