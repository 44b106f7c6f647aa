/-
  Plain mathematics of dice.Pick: the first index whose partial sum of weights is above a part of the sum.
  dice.Pick.
-/
import Derived.Test.YtjmbpnogicdkgaaGreatDoorRowQ
import Derived.Test.YtjmbpnogicdkgaaGreatDoorFracMul
import Derived.Test.YtjmbpnogicdkgaaGreatDoorFracCmp
import Derived.Test.YtjmbpnogicdkgaaGreatDoorFracM
import Derived.Test.YtjmbpnogicdkgaaGreatDoorShifts
import Derived.Test.YtjmbpnogicdkgaaGreatDoorDiceW
/-! Plain mathematics of dice.Pick: the first index whose partial sum of weights is above a part of the sum. -/
namespace Go.Proofs.YtjmbpnogicdkgaaGreatDoor
open Go.RowKit
set_option linter.unusedSimpArgs false
set_option linter.unusedVariables false

/-- what Pick finds for the number u: the first index whose partial sum is above u of 2^64 parts of the sum -/
def PickRes (l : List Rat) (u : Nat) (i : Nat) (ok : Bool) : Prop :=
  (ok = true ∧ i < l.length ∧ ((u : Int) : Rat) * sumQ l < sumQ (l.take (i + 1)) * ((18446744073709551616 : Int) : Rat) ∧ ∀ j, j < i → ¬ ((u : Int) : Rat) * sumQ l < sumQ (l.take (j + 1)) * ((18446744073709551616 : Int) : Rat)) ∨
  (ok = false ∧ i = 0 ∧ ∀ j, j < l.length → ¬ ((u : Int) : Rat) * sumQ l < sumQ (l.take (j + 1)) * ((18446744073709551616 : Int) : Rat))

theorem sumQ_ones (n : Nat) : sumQ (List.replicate n ((1 : Int) : Rat)) = ((n : Int) : Rat) := by
  induction n with
  | zero => rfl
  | succ n ih =>
    rw [List.replicate_succ']
    unfold sumQ at *
    rw [List.foldl_append, ih]
    simp only [List.foldl_cons, List.foldl_nil]
    rw [← Rat.intCast_add]
    rfl
theorem take_ones {α : Type} (n k : Nat) (a : α) (h : k ≤ n) : (List.replicate n a).take k = List.replicate k a := by
  rw [List.take_replicate, Nat.min_eq_left h]
theorem ones_lt (u n j : Nat) (hj : j < n) : (((u : Int) : Rat) * sumQ (List.replicate n ((1 : Int) : Rat)) < sumQ ((List.replicate n ((1 : Int) : Rat)).take (j + 1)) * ((18446744073709551616 : Int) : Rat)) ↔ u * n < (j + 1) * 18446744073709551616 := by
  rw [take_ones n (j + 1) _ (by omega), sumQ_ones, sumQ_ones, ← Rat.intCast_mul, ← Rat.intCast_mul, Rat.intCast_lt_intCast]
  constructor
  · intro h
    have : ((u * n : Nat) : Int) < (((j + 1) * 18446744073709551616 : Nat) : Int) := by simpa using h
    omega
  · intro h
    have : ((u * n : Nat) : Int) < (((j + 1) * 18446744073709551616 : Nat) : Int) := by omega
    simpa using this
/-- of n equal weights it is the number of the part of 2^64 in which u lies -/
theorem even_pick {n u i : Nat} {ok : Bool} (h : PickRes (List.replicate n ((1 : Int) : Rat)) u i ok) (hn : 1 ≤ n) (hu : u < 18446744073709551616) : ok = true ∧ i = u * n / 18446744073709551616 := by
  rcases h with ⟨h1, h2, h3, h4⟩ | ⟨h1, h2, h3⟩
  · rw [List.length_replicate] at h2
    refine ⟨h1, ?_⟩
    rw [ones_lt u n i h2] at h3
    have h5 : i * 18446744073709551616 ≤ u * n := by
      rcases Nat.eq_zero_or_pos i with h0 | h0
      · subst h0; omega
      · have := h4 (i - 1) (by omega)
        rw [ones_lt u n (i - 1) (by omega), show i - 1 + 1 = i by omega] at this
        omega
    generalize u * n = z at *
    omega
  · have := h3 (n - 1) (by rw [List.length_replicate]; omega)
    rw [ones_lt u n (n - 1) (by omega), show n - 1 + 1 = n by omega] at this
    have h6 := Nat.mul_lt_mul_of_pos_right hu (show 0 < n by omega)
    rw [Nat.mul_comm 18446744073709551616 n] at h6
    exact absurd h6 this
theorem ones_pos (n : Nat) (hn : 1 ≤ n) : sumQ (List.replicate n ((1 : Int) : Rat)) ≠ 0 := by
  rw [sumQ_ones]
  intro h
  have h1 : (((n : Int) : Rat)).num = 0 := by rw [h]; rfl
  have h2 : (n : Int) = 0 := h1
  omega
theorem QS.one (m : Nat) (hm : 1 ≤ m) : QS m ((1 : Int) : Rat) := ⟨by show blen 1 ≤ m; exact Nat.le_trans (by decide) hm, by show blen 1 ≤ m; exact Nat.le_trans (by decide) hm⟩
end Go.Proofs.YtjmbpnogicdkgaaGreatDoor

/-! dice.Pick. -/
namespace Go.Proofs.YtjmbpnogicdkgaaGreatDoor
open Go.RowKit
set_option linter.unusedSimpArgs false
set_option linter.unusedVariables false

def PickPost (b s : Nat) (l : List Rat) (w : World) (e : Ending) (w' : World) : Prop :=
  (((∃ x ∈ l, x.num.sign < 0) ∨ sumQ l = 0) ∧ e = .returned (.tuple #[.int .i64 0, .bool false]) ∧ Below w.heap.size w w') ∨
  ((∀ x ∈ l, 0 ≤ x.num.sign) ∧ sumQ l ≠ 0 ∧ ∃ i ok, PickRes l (Dice.next s) i ok ∧ e = .returned (.tuple #[.int .i64 (i : Int), .bool ok]) ∧ Only b w w' ∧ Blk w' b 125 #[.int .u64 ((Dice.step s : Nat) : Int)])

theorem Tab.ne {w : World} {b s : Nat} {t : TypeId} (h : Tab w) (hd : Blk w b t #[.int .u64 (s : Int)]) : 3 ≠ b := by
  intro e
  have h0 := h 0 (by decide)
  rw [← e] at hd
  have h1 := hd.cell 0
  simp [Addr.add] at h0
  rw [h0] at h1
  simp at h1
theorem ReadsQ.only {w w' : World} {B b s n : Nat} {A : Option Addr} {t : TypeId} {l : List Rat} (h : ReadsQ w B A n l) (hB : B ≤ w.heap.size) (ho : Only b w w') (hd : Blk w b t #[.int .u64 (s : Int)]) : ReadsQ w' B A n l := by
  rcases Nat.eq_zero_or_pos n with h0 | h0
  · subst h0
    obtain rfl : l = [] := List.eq_nil_of_length_eq_zero h.len
    exact ReadsW.nil
  · refine ⟨h.1, h.2.exc ho.exc hB ?_⟩
    obtain ⟨ad, g, o, x, h1, h2, h3, h4, h5, _⟩ := ReadsQ.cells h h0
    intro ad' e1 e2
    rw [h1] at e1
    injection e1 with e1
    subst e1
    have e3 := block_of_add ad (0 * 5)
    rw [h2] at e3
    have e4 : g = b := e3.trans e2
    subst e4
    have h6 := hd.cell o
    rw [h5] at h6
    cases o with
    | zero => simp at h6
    | succ o => simp at h6
theorem divInt_one (n : Int) : Rat.divInt n 1 = (n : Rat) := by
  show mkRat n 1 = _
  rw [Rat.mkRat_one]
theorem cmpQ_pos (a b : Rat) : (0 < cmpQ a b) ↔ b < a := by
  unfold cmpQ
  by_cases h1 : a < b
  · rw [if_pos h1]
    exact ⟨fun h => absurd h (by decide), fun h => absurd (Std.lt_trans h1 h) (Std.lt_irrefl)⟩
  · rw [if_neg h1]
    by_cases h2 : b < a
    · rw [if_pos h2]; exact ⟨fun _ => h2, fun _ => by decide⟩
    · rw [if_neg h2]; exact ⟨fun h => absurd h (by decide), fun h => absurd h h2⟩

set_option maxRecDepth 100000 in
set_option maxHeartbeats 4000000 in
theorem dice_pick (b s : Nat) (A : Option Addr) (n c B m : Nat) (l : List Rat) (w : World) (hs : s < 18446744073709551616) (hd : Blk w b 125 #[.int .u64 (s : Int)]) (h : ReadsQ w B A n l) (hB : B ≤ w.heap.size)
    (hn : n ≤ 1000000) (hm : m ≤ 100000) (hl : ∀ x ∈ l, QS m x) (hT : Tab w) :
    Calls Tryz.prog 29 #[.pointer (some ⟨b, 0, none⟩), .slice A n c] w (PickPost b s l w) := by
  have HS := Lib.hid (QS.sum l hl)
  have HL := Lib.hid hl
  have HR := Lib.hid h
  have HT := Lib.hid hT
  have HD := Lib.hid hd
  have HLN := Lib.hid h.len
  clear hl h hT hd
  go_enter Tryz.func29, Tryz.ntmps29
  go_wp2_with fail
  go_loopw [19] (fun p wr => ∃ k : Nat, k ≤ n ∧ p = .int .i64 (k : Int) ∧ Hid (∀ j, j < k → ∀ x, l[j]? = some x → 0 ≤ x.num.sign) ∧ Below w.heap.size w wr) (fun p _ => n - (intOf p).toNat)
  case atStart => exact ⟨0, by omega, rfl, Lib.hid (fun j hj => absurd hj (by omega)), Below.refl _ _⟩
  case round =>
    obtain ⟨k, hk, rfl, hng, hb⟩ := hrel
    rename World => wr
    by_cases hkn : k < n
    · obtain ⟨ad, g, o, x, rfl, hP, hgB, hx, x0, x1, x2, x3, x4⟩ := ReadsQ.cells (HR.out.below (hb.mono hB)) hkn
      have hkl : (k : Int) < n := by omega
      have hk1 : (k : Int) + 1 ≤ 9223372036854775807 := by omega
      have hsg := fun w => frac_sign x w ((HL.out x (List.mem_of_getElem? hx)).mono (by omega))
      unfold qV at hsg
      obtain ⟨sg, hsgn⟩ : ∃ sg, x.num.sign = sg := ⟨_, rfl⟩
      rw [hsgn] at hsg
      have HSN := Lib.hid hsgn
      have HSG := Lib.hid hsg
      clear hsg hsgn
      have hb1 := bthen hb (balloc1 wr (.cells #[.bool (decide (x.num < 0)), .int .u64 (lo x.num.natAbs : Int), .string (mo x.num.natAbs), .int .u64 (lo ((qden x)) : Int), .string (mo ((qden x)))] 70))
      have HX := Lib.hid hx
      clear hx
      go_wp2_with fail
      refine (HSG.out _).mono ?_
      rintro e w1 ⟨rfl, hw1⟩
      have hb2 := bthen hb1 hw1
      by_cases hx0 : sg < 0
      · go_wp2
        go_returns
        exact .inl ⟨.inl ⟨x, List.mem_of_getElem? HX.out, by rw [HSN.out]; exact hx0⟩, rfl, hb2⟩
      · have HX0 := Lib.hid hx0
        have hx1 : decide (sg < 0) = false := decide_eq_false hx0
        clear hx0 x0 x1 x2 x3 x4 hP
        go_wp2
        have hx0 : 0 ≤ sg := by have := HX0.out; omega
        refine ⟨⟨k + 1, by omega, by simp, Lib.hid (fun j hj y hy => ?_), hb2⟩, by simp [intOf]; omega⟩
        rcases Nat.lt_or_ge j k with h | h
        · exact hng.out j h y hy
        · obtain rfl : j = k := by omega
          rw [HX.out] at hy
          have hy := Option.some.inj hy
          rw [← hy, HSN.out]
          exact hx0
    · obtain rfl : k = n := by omega
      have hnn : ∀ x ∈ l, 0 ≤ x.num.sign := by
        intro x hx
        obtain ⟨j, hj, e⟩ := List.getElem_of_mem hx
        exact hng.out j (by have := HLN.out; omega) x (by rw [List.getElem?_eq_getElem hj, e])
      have HNN := Lib.hid hnn
      clear hnn hng hkn
      have hkk : ¬ (k : Int) < (k : Int) := by omega
      have hsm := frac_sum A k c B m l wr (HR.out.below (hb.mono hB)) (Nat.le_trans hB hb.size) hn hm HL.out (HT.out.next hb)
      have htq : QS 137438953472 (sumQ l) := by
        have h1 := HS.out k
        rw [List.take_of_length_le (by have := HLN.out; omega)] at h1
        refine h1.mono ?_
        have := Nat.mul_le_mul (show k ≤ 1000000 by omega) (show m + 1 ≤ 100001 by omega)
        omega
      obtain ⟨t, ht⟩ : ∃ t, sumQ l = t := ⟨_, rfl⟩
      rw [ht] at hsm htq
      have HTT := Lib.hid ht
      clear ht
      have hsg := fun w => frac_sign t w (htq.mono (by omega))
      unfold qV at hsg hsm
      obtain ⟨sg, hsgn⟩ : ∃ sg, t.num.sign = sg := ⟨_, rfl⟩
      rw [hsgn] at hsg
      have HSN := Lib.hid hsgn
      clear hsgn
      have HSG := Lib.hid hsg
      have HTQ := Lib.hid htq
      clear hsg htq
      go_wp2_with fail
      refine hsm.mono ?_
      rintro e w1 ⟨rfl, hw1⟩
      have hb1 := bthen hb hw1
      have b8 := Blk.new w1 70 #[.bool (decide (t.num < 0)), .int .u64 (lo t.num.natAbs : Int), .string (mo t.num.natAbs), .int .u64 (lo ((qden t)) : Int), .string (mo ((qden t)))]
      have hb2 := bthen hb1 (balloc1 w1 (.cells #[.bool (decide (t.num < 0)), .int .u64 (lo t.num.natAbs : Int), .string (mo t.num.natAbs), .int .u64 (lo ((qden t)) : Int), .string (mo ((qden t)))] 70))
      clear hb hw1 hsm
      go_wp2_with fail
      generalize w1.alloc (.cells #[.bool (decide (t.num < 0)), .int .u64 (lo t.num.natAbs : Int), .string (mo t.num.natAbs), .int .u64 (lo ((qden t)) : Int), .string (mo ((qden t)))] 70) = w2 at *
      refine (HSG.out _).mono ?_
      rintro e w3 ⟨rfl, hw3⟩
      have hb3 := bthen hb2 hw3
      have b8 := b8.below hw3 b8.lt
      have hs8 := hb1.size
      generalize w1.heap.size = a8 at *
      clear hb2 hw3 hb1
      by_cases ht0 : sg = 0
      · have ht1 : (sg == 0) = true := by simp [ht0]
        have HT0 := Lib.hid ht0
        clear ht0
        go_wp2
        go_returns
        refine .inl ⟨.inr ?_, rfl, hb3⟩
        rw [HTT.out]
        exact Rat.num_eq_zero.1 (Int.sign_eq_zero_iff_zero.1 (HSN.out.trans HT0.out))
      · have ht1 : (sg == 0) = false := by simpa using ht0
        have HT0 := Lib.hid ht0
        clear ht0
        have dB : Blk w3 b 125 #[.int .u64 (s : Int)] := HD.out.below hb3 HD.out.lt
        have hne8 : a8 ≠ b := fun e => by
          have := HD.out.lt
          omega
        go_wp2_with fail
        refine (dice_next b s w3 hs (dB.cell 0) (dB.frozen 0)).mono ?_
        rintro e w4 ⟨rfl, rfl⟩
        have ho := (Only.of_below (g := b) hb3).setCell ⟨b, 0, none⟩ rfl (.int .u64 ((Dice.step s : Nat) : Int))
        have dN : Blk _ b 125 #[.int .u64 ((Dice.step s : Nat) : Int)] := dB.set_ 0 (.int .u64 ((Dice.step s : Nat) : Int))
        have b8 := b8.far (p := ⟨b, 0, none⟩) hne8 (.int .u64 ((Dice.step s : Nat) : Int))
        have hz4 := hb3.size
        rw [← World.size_setCell w3 ⟨b, 0, none⟩ (.int .u64 ((Dice.step s : Nat) : Int))] at hz4
        generalize w3.setCell ⟨b, 0, none⟩ (.int .u64 ((Dice.step s : Nat) : Int)) = w4 at *
        clear dB hb3 ht1 HSG hkk
        have hR4 := HR.out.only hB ho HD.out
        have tT := HT.out.only ho (HT.out.ne HD.out)
        obtain ⟨u, hu⟩ : ∃ u, Dice.next s = u := ⟨_, rfl⟩
        have hu1 : u < 18446744073709551616 := by rw [← hu]; exact Dice.next_lt s
        have hof := fun w => nat_of u w hu1
        have ubl : blen u ≤ 64 := blen_le u 64 hu1
        have hfu := fun w => whole_from false u w (by omega)
        rw [show signed false u = (u : Int) from rfl] at hfu
        have ho1 := fun w => whole_of 1 w (by omega) (by omega)
        have hmk := fun w (hT : Tab w) => frac_make (u : Int) 1 w (by rw [Int.natAbs_natCast]; omega) (by decide) hT
        rw [divInt_one, decide_eq_true (show (1 : Int) ≠ 0 by decide)] at hmk
        obtain ⟨i1, hi1⟩ : ∃ i : Nat, 1 = i := ⟨_, rfl⟩
        obtain ⟨M, hM⟩ : ∃ i : Nat, 18446744073709551616 = i := ⟨_, rfl⟩
        have hMb : blen M ≤ 65 := by rw [← hM]; decide +kernel
        have hof2 : ∀ w, Calls Tryz.prog 91 #[.int .u64 1] w (Ret (natV i1) w) := fun w => by rw [← hi1]; exact nat_of 1 w (by omega)
        have hsh : ∀ w, Calls Tryz.prog 92 #[natV i1, .int .i64 64] w (Ret (natV M) w) := fun w => by rw [← hM, ← hi1]; exact nat_shift_up 1 64 w (by decide) (by omega)
        have hfa := fun w => whole_from false M w (by omega)
        rw [show signed false M = (M : Int) from rfl] at hfa
        have hma := fun w (hT : Tab w) => frac_make (M : Int) 1 w (by rw [Int.natAbs_natCast]; omega) (by decide) hT
        rw [divInt_one, decide_eq_true (show (1 : Int) ≠ 0 by decide)] at hma
        have huq : QS 64 ((u : Int) : Rat) := ⟨by show blen ((u : Int)).natAbs ≤ 64; rw [Int.natAbs_natCast]; exact ubl, by show blen 1 ≤ 64; decide⟩
        have haq : QS 65 ((M : Int) : Rat) := ⟨by show blen ((M : Int)).natAbs ≤ 65; rw [Int.natAbs_natCast]; exact hMb, by show blen 1 ≤ 65; decide⟩
        have hml := fun w (hT : Tab w) => frac_mul ((u : Int) : Rat) t w (huq.mono (by omega)) (HTQ.out.mono (by omega)) hT
        have hbq : QS 549755813888 (((u : Int) : Rat) * t) := (huq.mul HTQ.out).mono (by omega)
        obtain ⟨U, hU⟩ : ∃ U : Rat, ((u : Int) : Rat) = U := ⟨_, rfl⟩
        obtain ⟨V, hV⟩ : ∃ V : Rat, ((M : Int) : Rat) = V := ⟨_, rfl⟩
        rw [hU] at hmk hml hbq
        rw [hV] at hma haq
        obtain ⟨R, hR⟩ : ∃ R : Rat, U * t = R := ⟨_, rfl⟩
        rw [hR] at hml hbq
        have HRU : Hid ((((Dice.next s : Nat) : Int) : Rat) * sumQ l = R) := Lib.hid (by rw [HTT.out, hu, hU, hR])
        have HVM : Hid (((18446744073709551616 : Int) : Rat) = V) := Lib.hid (by rw [← hV, ← hM]; rfl)
        have HUU := Lib.hid hu
        rw [hu]
        have HBQ := Lib.hid hbq
        have HAQ := Lib.hid haq
        clear hR hU hV hM hi1 hMb ubl huq haq hbq hu hu1
        unfold natV at hof hfu hof2 hsh hfa
        unfold intV at hfu ho1 hmk hfa hma
        unfold qV at hmk hma hml
        rw [Int.natAbs_natCast] at hfu hmk hfa hma
        generalize decide ((1 : Int) < 0) = n1 at *
        generalize Int.natAbs 1 = o1 at *
        generalize decide ((u : Int) < 0) = nu at *
        generalize decide ((M : Int) < 0) = nM at *
        have HOF := Lib.hid hof
        have HFU := Lib.hid hfu
        have HO1 := Lib.hid ho1
        have HMK := Lib.hid hmk
        have HOF2 := Lib.hid hof2
        have HSH := Lib.hid hsh
        have HFA := Lib.hid hfa
        have HMA := Lib.hid hma
        have HML := Lib.hid hml
        clear hof hfu ho1 hmk hof2 hsh hfa hma hml
        go_wp2_with fail
        refine (HOF.out w4).mono ?_
        rintro e w5 ⟨rfl, hw5⟩
        go_wp2_with fail
        refine (HFU.out w5).mono ?_
        rintro e w6 ⟨rfl, hw6⟩
        go_wp2_with fail
        refine (HO1.out w6).mono ?_
        rintro e w7 ⟨rfl, hw7⟩
        have hv7 := bthen (bthen hw5 hw6) hw7
        clear hw5 hw6 hw7
        go_wp2_with fail
        refine (HMK.out w7 (tT.next hv7)).mono ?_
        rintro e w8 ⟨rfl, hw8⟩
        have hv8 := bthen hv7 hw8
        have b9 := Blk.new w8 70 #[.bool (decide (U.num < 0)), .int .u64 (lo U.num.natAbs : Int), .string (mo U.num.natAbs), .int .u64 (lo ((qden U)) : Int), .string (mo ((qden U)))]
        have hv9 := bthen hv8 (balloc1 w8 (.cells #[.bool (decide (U.num < 0)), .int .u64 (lo U.num.natAbs : Int), .string (mo U.num.natAbs), .int .u64 (lo ((qden U)) : Int), .string (mo ((qden U)))] 70))
        clear hv7 hw8 hv8 HOF HFU HMK
        go_wp2_with fail
        generalize w8.alloc (.cells #[.bool (decide (U.num < 0)), .int .u64 (lo U.num.natAbs : Int), .string (mo U.num.natAbs), .int .u64 (lo ((qden U)) : Int), .string (mo ((qden U)))] 70) = w9 at *
        generalize w8.heap.size = a9 at *
        refine (HOF2.out w9).mono ?_
        rintro e w10 ⟨rfl, hw10⟩
        go_wp2_with fail
        refine (HSH.out w10).mono ?_
        rintro e w11 ⟨rfl, hw11⟩
        go_wp2_with fail
        refine (HFA.out w11).mono ?_
        rintro e w12 ⟨rfl, hw12⟩
        go_wp2_with fail
        refine (HO1.out w12).mono ?_
        rintro e w13 ⟨rfl, hw13⟩
        have hz13 := bthen (bthen (bthen hw10 hw11) hw12) hw13
        clear hw10 hw11 hw12 hw13
        go_wp2_with fail
        refine (HMA.out w13 (tT.next (bthen hv9 hz13))).mono ?_
        rintro e w14 ⟨rfl, hw14⟩
        have hz14 := bthen hz13 hw14
        have hv14 := bthen hv9 hz14
        have b9 := (b9.below hz14 b9.lt).alloc (.cells #[.bool (decide (V.num < 0)), .int .u64 (lo V.num.natAbs : Int), .string (mo V.num.natAbs), .int .u64 (lo ((qden V)) : Int), .string (mo ((qden V)))] 70)
        have b8 := (b8.below hv14 b8.lt).alloc (.cells #[.bool (decide (V.num < 0)), .int .u64 (lo V.num.natAbs : Int), .string (mo V.num.natAbs), .int .u64 (lo ((qden V)) : Int), .string (mo ((qden V)))] 70)
        have b11 := Blk.new w14 70 #[.bool (decide (V.num < 0)), .int .u64 (lo V.num.natAbs : Int), .string (mo V.num.natAbs), .int .u64 (lo ((qden V)) : Int), .string (mo ((qden V)))]
        have hv15 := bthen hv14 (balloc1 w14 (.cells #[.bool (decide (V.num < 0)), .int .u64 (lo V.num.natAbs : Int), .string (mo V.num.natAbs), .int .u64 (lo ((qden V)) : Int), .string (mo ((qden V)))] 70))
        clear hv9 hz13 hw14 hz14 hv14 HOF2 HSH HFA HMA HO1
        obtain ⟨b8q0, b8q1, b8q2, b8q3, b8q4⟩ := b8.c5; obtain ⟨b9q0, b9q1, b9q2, b9q3, b9q4⟩ := b9.c5
        go_wp2_with fail
        generalize w14.alloc (.cells #[.bool (decide (V.num < 0)), .int .u64 (lo V.num.natAbs : Int), .string (mo V.num.natAbs), .int .u64 (lo ((qden V)) : Int), .string (mo ((qden V)))] 70) = w15 at *
        generalize w14.heap.size = a11 at *
        refine (HML.out w15 (tT.next hv15)).mono ?_
        rintro e w16 ⟨rfl, hw16⟩
        have hv16 := bthen hv15 hw16
        have b11 := (b11.below hw16 b11.lt).alloc (.cells #[.bool (decide (R.num < 0)), .int .u64 (lo R.num.natAbs : Int), .string (mo R.num.natAbs), .int .u64 (lo ((qden R)) : Int), .string (mo ((qden R)))] 70)
        have b13 := Blk.new w16 70 #[.bool (decide (R.num < 0)), .int .u64 (lo R.num.natAbs : Int), .string (mo R.num.natAbs), .int .u64 (lo ((qden R)) : Int), .string (mo ((qden R)))]
        have hv17 := bthen hv16 (balloc1 w16 (.cells #[.bool (decide (R.num < 0)), .int .u64 (lo R.num.natAbs : Int), .string (mo R.num.natAbs), .int .u64 (lo ((qden R)) : Int), .string (mo ((qden R)))] 70))
        have hz17 : (w16.alloc (.cells #[.bool (decide (R.num < 0)), .int .u64 (lo R.num.natAbs : Int), .string (mo R.num.natAbs), .int .u64 (lo ((qden R)) : Int), .string (mo ((qden R)))] 70)).heap.size = w16.heap.size + 1 := World.size_alloc _ _
        have b14 := Blk.new2 w16 (.cells #[.bool (decide (R.num < 0)), .int .u64 (lo R.num.natAbs : Int), .string (mo R.num.natAbs), .int .u64 (lo ((qden R)) : Int), .string (mo ((qden R)))] 70) 70 #[.bool false, .int .u64 0, .string ⟨#[]⟩, .int .u64 0, .string ⟨#[]⟩]
        have hb14 := balloc1 (w16.alloc (.cells #[.bool (decide (R.num < 0)), .int .u64 (lo R.num.natAbs : Int), .string (mo R.num.natAbs), .int .u64 (lo ((qden R)) : Int), .string (mo ((qden R)))] 70)) (.cells #[.bool false, .int .u64 0, .string ⟨#[]⟩, .int .u64 0, .string ⟨#[]⟩] 70)
        clear b8q0 b8q1 b8q2 b8q3 b8q4 b9q0 b9q1 b9q2 b9q3 b9q4
        clear b8 b9 hv15 hw16 hv16 HML
        go_wp2_with fail
        generalize w16.alloc (.cells #[.bool (decide (R.num < 0)), .int .u64 (lo R.num.natAbs : Int), .string (mo R.num.natAbs), .int .u64 (lo ((qden R)) : Int), .string (mo ((qden R)))] 70) = w17 at *
        generalize w16.heap.size = a13 at *
        have hR17 := hR4.below (hv17.mono (by omega))
        have hB17 : B ≤ w17.heap.size := by have := hv17.size; omega
        have t17 := Lib.hid (tT.next hv17)
        have HR17 := Lib.hid hR17
        clear tT hR17 hR4
        have hdN := dN.below hv17 dN.lt
        have hoN := ho.trans (Only.of_below hv17)
        have HHO := Lib.hid (And.intro hoN hdN)
        clear hoN hdN ho dN hv17 hz4 hne8 hs8
        go_loopw [54] (fun p wr => ∃ (i : Nat) (σ : Rat), i ≤ k ∧ p = .int .i64 (i : Int) ∧ Hid (sumQ (l.take i) = σ) ∧ Hid (∀ j, j < i → ¬ R < sumQ (l.take (j + 1)) * V) ∧ Blk wr (a13 + 1) 70 #[.bool (decide ((σ).num < 0)), .int .u64 (lo (((σ).num).natAbs) : Int), .string (mo (((σ).num).natAbs)), .int .u64 (lo ((qden (σ))) : Int), .string (mo ((qden (σ))))] ∧ Below w17.heap.size w17 wr) (fun p _ => k - (intOf p).toNat)
        case atStart => exact ⟨0, 0, by omega, rfl, Lib.hid rfl, Lib.hid (fun j hj => absurd hj (by omega)), b14, hb14⟩
        case round =>
          obtain ⟨i, σ, hi, rfl, hσ, hne, c14, hbr⟩ := hrel
          clear b14 hb14
          rename World => wr
          by_cases hik : i < k
          · obtain ⟨ad, g, o, x, rfl, hP, hgB, hx, x0, x1, x2, x3, x4⟩ := ReadsQ.cells (HR17.out.below (hbr.mono hB17)) hik
            have hkl : (i : Int) < k := by omega
            have hk1 : (i : Int) + 1 ≤ 9223372036854775807 := by omega
            have hqs : ∀ z, QS 137438953472 (sumQ (l.take (min z k))) := fun z => (HS.out (min z k)).mono (by
              have := Nat.mul_le_mul (show min z k ≤ 1000000 by omega) (show m + 1 ≤ 100001 by omega)
              omega)
            have hqσ : QS 137438953472 σ := by rw [← hσ.out]; have := hqs i; rwa [show min i k = i by omega] at this
            have hqx : QS 137438953472 x := (HL.out x (List.mem_of_getElem? hx)).mono (by omega)
            have hs' : sumQ (l.take (i + 1)) = σ + x := by rw [sumQ_take l i x hx, hσ.out]
            have hqt : QS 137438953472 (σ + x) := by rw [← hs']; have := hqs (i + 1); rwa [show min (i + 1) k = i + 1 by omega] at this
            have had := fun w (hT : Tab w) => frac_add σ x w hqσ hqx hT
            have hml := fun w (hT : Tab w) => frac_mul (σ + x) V w (hqt.mono (by omega)) (HAQ.out.mono (by omega)) hT
            have hcm := fun w => frac_cmp ((σ + x) * V) R w ((hqt.mul HAQ.out).mono (by omega)) HBQ.out
            have hcp := cmpQ_pos ((σ + x) * V) R
            have HS' := Lib.hid hs'
            clear hs' hqs hqσ hqx hqt hσ hx
            generalize σ + x = τ at *
            generalize cmpQ (τ * V) R = cv at *
            have HCP := Lib.hid hcp
            clear hcp
            generalize hY : τ * V = Y at *
            have HY := Lib.hid hY
            clear hY
            unfold qV at had hml hcm
            have HAD := Lib.hid had
            have HML := Lib.hid hml
            have HCM := Lib.hid hcm
            clear had hml hcm
            obtain ⟨c14q0, c14q1, c14q2, c14q3, c14q4⟩ := c14.c5
            have cl14 := c14.lt
            have tT := t17.out.next (bthen hbr (balloc1 wr (.cells #[.bool (decide (x.num < 0)), .int .u64 (lo x.num.natAbs : Int), .string (mo x.num.natAbs), .int .u64 (lo ((qden x)) : Int), .string (mo ((qden x)))] 70)))
            have d14 := c14.alloc (.cells #[.bool (decide (x.num < 0)), .int .u64 (lo x.num.natAbs : Int), .string (mo x.num.natAbs), .int .u64 (lo ((qden x)) : Int), .string (mo ((qden x)))] 70)
            have hb1 := bthen hbr (balloc1 wr (.cells #[.bool (decide (x.num < 0)), .int .u64 (lo x.num.natAbs : Int), .string (mo x.num.natAbs), .int .u64 (lo ((qden x)) : Int), .string (mo ((qden x)))] 70))
            go_wp2_with fail
            refine (HAD.out _ tT).mono ?_
            rintro e w1 ⟨rfl, hw1⟩
            have hb2 := bthen hb1 hw1
            have d14 := d14.below hw1 d14.lt
            obtain ⟨f0, f1, f2, f3, f4⟩ : w17.heap.size ≤ a13 + 1 ∧ True ∧ True ∧ True ∧ True := ⟨by omega, trivial, trivial, trivial, trivial⟩
            have hb3 := bset5 (g := a13 + 1) hb2 f0 (.bool (decide (τ.num < 0))) (.int .u64 (lo τ.num.natAbs : Int)) (.string (mo τ.num.natAbs)) (.int .u64 (lo (qden τ) : Int)) (.string (mo (qden τ)))
            have e14 := ((((d14.set_ 0 (.bool (decide (τ.num < 0)))).set_ 1 (.int .u64 (lo τ.num.natAbs : Int))).set_ 2 (.string (mo τ.num.natAbs))).set_ 3 (.int .u64 (lo (qden τ) : Int))).set_ 4 (.string (mo (qden τ)))
            simp only [Array.set!_eq_setIfInBounds, List.setIfInBounds_toArray, List.set_cons_zero, List.set_cons_succ] at e14
            obtain ⟨d14q0, d14q1, d14q2, d14q3, d14q4, d14f0, d14f1, d14f2, d14f3, d14f4, d14s0, d14s1, d14s2, d14s3, d14s4⟩ := d14.f5
            clear c14q0 c14q1 c14q2 c14q3 c14q4 c14 cl14 x0 x1 x2 x3 x4 hP hb1 hw1 hb2 tT hbr
            have HE := Lib.hid (And.intro hb3 e14)
            clear hb3 e14
            go_upto_region 18 with fail
            obtain ⟨hb3, b14⟩ := HE.out
            clear HE d14q0 d14q1 d14q2 d14q3 d14q4 d14f0 d14f1 d14f2 d14f3 d14f4 d14s0 d14s1 d14s2 d14s3 d14s4 d14
            generalize ((((w1.setCell ⟨a13 + 1, 0, none⟩ (.bool (decide (τ.num < 0)))).setCell ⟨a13 + 1, 1, none⟩ (.int .u64 (lo τ.num.natAbs : Int))).setCell ⟨a13 + 1, 2, none⟩ (.string (mo τ.num.natAbs))).setCell ⟨a13 + 1, 3, none⟩ (.int .u64 (lo (qden τ) : Int))).setCell ⟨a13 + 1, 4, none⟩ (.string (mo (qden τ))) = w2 at *
            have tT := t17.out.next hb3
            have b11 := b11.below hb3 b11.lt
            have b13 := b13.below hb3 b13.lt
            go_cut [67] (fun v wc => v = .bool (decide (0 < cv)) ∧ Blk wc (a13 + 1) 70 #[.bool (decide ((τ).num < 0)), .int .u64 (lo (((τ).num).natAbs) : Int), .string (mo (((τ).num).natAbs)), .int .u64 (lo ((qden (τ))) : Int), .string (mo ((qden (τ))))] ∧ Below w17.heap.size w17 wc)
            case first =>
              obtain ⟨b14q0, b14q1, b14q2, b14q3, b14q4⟩ := b14.c5; have c14z := b14.lt; have c14 := b14.drew; have c14l := c14.lt; obtain ⟨b11q0, b11q1, b11q2, b11q3, b11q4⟩ := b11.c5; have c11z := b11.lt; have c11 := b11.drew; have c11l := c11.lt; obtain ⟨b13q0, b13q1, b13q2, b13q3, b13q4⟩ := b13.c5; have c13z := b13.lt; have c13 := b13.drew; have c13l := c13.lt; have hc := bdrew0 w2; have tT : Tab w2.drew := tT; go_region_held3 (fun w' => w'.cell? ⟨a13 + 1, 0, none⟩ = some (.bool (decide ((τ).num < 0))) ∧ w'.cell? ⟨a13 + 1, 1, none⟩ = some (.int .u64 (lo (((τ).num).natAbs) : Int)) ∧ w'.cell? ⟨a13 + 1, 2, none⟩ = some (.string (mo (((τ).num).natAbs))) ∧ w'.cell? ⟨a13 + 1, 3, none⟩ = some (.int .u64 (lo ((qden (τ))) : Int)) ∧ w'.cell? ⟨a13 + 1, 4, none⟩ = some (.string (mo ((qden (τ))))) ∧ w'.cell? ⟨a11, 0, none⟩ = some (.bool (decide (V.num < 0))) ∧ w'.cell? ⟨a11, 1, none⟩ = some (.int .u64 (lo V.num.natAbs : Int)) ∧ w'.cell? ⟨a11, 2, none⟩ = some (.string (mo V.num.natAbs)) ∧ w'.cell? ⟨a11, 3, none⟩ = some (.int .u64 (lo ((qden V)) : Int)) ∧ w'.cell? ⟨a11, 4, none⟩ = some (.string (mo ((qden V)))) ∧ w'.cell? ⟨a13, 0, none⟩ = some (.bool (decide (R.num < 0))) ∧ w'.cell? ⟨a13, 1, none⟩ = some (.int .u64 (lo R.num.natAbs : Int)) ∧ w'.cell? ⟨a13, 2, none⟩ = some (.string (mo R.num.natAbs)) ∧ w'.cell? ⟨a13, 3, none⟩ = some (.int .u64 (lo ((qden R)) : Int)) ∧ w'.cell? ⟨a13, 4, none⟩ = some (.string (mo ((qden R))))) (go_keep) (first | (go_at_call 93; (first | refine (HML.out _ tT).mono ?_ | refine (HML.out _ (tT.next (balloc1 _ _))).mono ?_ | refine (HML.out _ (tT.next (balloc2 _ _ _))).mono ?_); rintro e w1 ⟨rfl, hw1⟩; (first | have c14 := c14.below hw1 c14.lt | have c14 := (c14.alloc _).below hw1 (c14.alloc _).lt | have c14 := ((c14.alloc _).alloc _).below hw1 ((c14.alloc _).alloc _).lt); (try clear c14q0 c14q1 c14q2 c14q3 c14q4); obtain ⟨c14q0, c14q1, c14q2, c14q3, c14q4⟩ := c14.c5; (try clear c14l); have c14l := c14.lt; (first | have c11 := c11.below hw1 c11.lt | have c11 := (c11.alloc _).below hw1 (c11.alloc _).lt | have c11 := ((c11.alloc _).alloc _).below hw1 ((c11.alloc _).alloc _).lt); (try clear c11q0 c11q1 c11q2 c11q3 c11q4); obtain ⟨c11q0, c11q1, c11q2, c11q3, c11q4⟩ := c11.c5; (try clear c11l); have c11l := c11.lt; (first | have c13 := c13.below hw1 c13.lt | have c13 := (c13.alloc _).below hw1 (c13.alloc _).lt | have c13 := ((c13.alloc _).alloc _).below hw1 ((c13.alloc _).alloc _).lt); (try clear c13q0 c13q1 c13q2 c13q3 c13q4); obtain ⟨c13q0, c13q1, c13q2, c13q3, c13q4⟩ := c13.c5; (try clear c13l); have c13l := c13.lt; have hc := bthen hc hw1) | (go_at_call 40; refine (HCM.out _).mono ?_; rintro e w2 ⟨rfl, hw2⟩; (first | have c14 := c14.below hw2 c14.lt | have c14 := (c14.alloc _).below hw2 (c14.alloc _).lt | have c14 := ((c14.alloc _).alloc _).below hw2 ((c14.alloc _).alloc _).lt); (try clear c14q0 c14q1 c14q2 c14q3 c14q4); obtain ⟨c14q0, c14q1, c14q2, c14q3, c14q4⟩ := c14.c5; (try clear c14l); have c14l := c14.lt; (first | have c11 := c11.below hw2 c11.lt | have c11 := (c11.alloc _).below hw2 (c11.alloc _).lt | have c11 := ((c11.alloc _).alloc _).below hw2 ((c11.alloc _).alloc _).lt); (try clear c11q0 c11q1 c11q2 c11q3 c11q4); obtain ⟨c11q0, c11q1, c11q2, c11q3, c11q4⟩ := c11.c5; (try clear c11l); have c11l := c11.lt; (first | have c13 := c13.below hw2 c13.lt | have c13 := (c13.alloc _).below hw2 (c13.alloc _).lt | have c13 := ((c13.alloc _).alloc _).below hw2 ((c13.alloc _).alloc _).lt); (try clear c13q0 c13q1 c13q2 c13q3 c13q4); obtain ⟨c13q0, c13q1, c13q2, c13q3, c13q4⟩ := c13.c5; (try clear c13l); have c13l := c13.lt; have hc := bthen hc hw2))
              all_goals
                go_wp2
                go_meet
                exact ⟨by first | rfl | simp, c14, bthen hb3 hc⟩
            case rest =>
              obtain ⟨rfl, c14, hb4⟩ := hcut
              clear hb3 b14 b11 b13 tT HML HCM HAD
              by_cases hgt : 0 < cv
              · have HG := Lib.hid (HCP.out.1 hgt)
                have hgt1 : decide (0 < cv) = true := decide_eq_true hgt
                clear hgt HCP f0 f1 f2 f3 f4
                have hfin : PickPost b s l w (.returned (.tuple #[.int .i64 (i : Int), .bool true])) wc := by
                  refine .inr ⟨HNN.out, ?_, i, true, .inl ⟨rfl, by have := HLN.out; omega, ?_, ?_⟩, rfl, HHO.out.1.trans (Only.of_below hb4), HHO.out.2.below hb4 HHO.out.2.lt⟩
                  · intro e
                    rw [HTT.out] at e
                    exact HT0.out (by rw [← HSN.out, e]; rfl)
                  · rw [HRU.out, HVM.out, HS'.out, HY.out]
                    exact HG.out
                  · intro j hj
                    rw [HRU.out, HVM.out]
                    exact hne.out j hj
                have HFIN := Lib.hid hfin
                clear hfin HNN HLN HHO HTT HT0 HSN HRU HVM HS' HY HG hne HS HL HT HD HTQ HUU HBQ HAQ t17 HR17 HR c14 hb4 hB17 hz17 hB hs
                refine (‹∀ (a : Act) (w : World), Code.wp Tryz.prog (Code.cond _ _ _) _ a w → _› : ∀ (a : Act) (w : World), _ → _) _ _ ?_
                rw [hgt1]
                clear hgt1
                go_wp2
                go_returns
                exact HFIN.out
              · have hgt2 : ¬ R < Y := fun h => hgt (HCP.out.2 h)
                have HG := Lib.hid hgt2
                have hgt1 : decide (0 < cv) = false := decide_eq_false hgt
                clear hgt2 hgt HCP f0 f1 f2 f3 f4
                rw [hgt1]
                clear hgt1
                go_wp2
                refine ⟨⟨i + 1, τ, by omega, by simp, HS', Lib.hid (fun j hj => ?_), c14, hb4⟩, by simp [intOf]; omega⟩
                rcases Nat.lt_or_ge j i with h | h
                · exact hne.out j h
                · obtain rfl : j = i := by omega
                  rw [HS'.out, HY.out]
                  exact HG.out
          · obtain rfl : i = k := by omega
            have hkk : ¬ (i : Int) < (i : Int) := by omega
            go_wp2
            go_returns
            refine .inr ⟨HNN.out, ?_, 0, false, .inr ⟨rfl, rfl, ?_⟩, rfl, HHO.out.1.trans (Only.of_below hbr), HHO.out.2.below hbr HHO.out.2.lt⟩
            · intro e
              rw [HTT.out] at e
              exact HT0.out (by rw [← HSN.out, e]; rfl)
            · intro j hj
              rw [HRU.out, HVM.out]
              exact hne.out j (by have := HLN.out; omega)
end Go.Proofs.YtjmbpnogicdkgaaGreatDoor
