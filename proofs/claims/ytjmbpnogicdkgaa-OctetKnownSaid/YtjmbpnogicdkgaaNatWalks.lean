/-
  nat.Of, nat.Bits, nat.words, nat.Bytes.
-/
import Derived.Test.YtjmbpnogicdkgaaWord
import Derived.Test.YtjmbpnogicdkgaaBitLen
import Derived.Test.YtjmbpnogicdkgaaExact
namespace Go.Proofs.Ytjmbpnogicdkgaa
open Go.RowKit
set_option linter.unusedSimpArgs false
set_option linter.unusedVariables false

theorem toList_ne (s : ByteArray) (h : 0 < s.size) : ¬ s.toList = [] := by
  rw [Lib.toList_data]
  intro h1
  have := Lib.size_eq s
  rw [h1, List.length_nil] at this
  omega
/-- 's[l:]' -/
theorem run_cut_str {P : Program} (t : TypeId) (ht : P.underlying t = some .string) (s : ByteArray) (k : IntKind) (l : Int) (h0 : 0 ≤ l) (h1 : l ≤ s.size) (w : World) :
    (Instr.slice t (.string s) (some (.int k l)) none none).run P w = .ok (.string (s.extract l.toNat s.size)) w := by
  simp [Instr.slice, run_underlying ht, Instr.sliceBounds, Instr.sliceBound, asIntOf, h0, h1, Result.andThen]

theorem nat_of (n : Nat) (w : World) (hn : n < 18446744073709551616) : Calls Try.prog 50 #[.int .u64 (n : Int)] w (Ret (natV n) w) := by
  have e : natV n = .agg #[.int .u64 (n : Int), .string ⟨#[]⟩] := by unfold natV; rw [lo_small n hn, mo_small n hn]
  rw [e]
  go_enter Try.func50, Try.ntmps50
  go_wp2
  go_returns
  exact ⟨rfl, (Below.refl _ _).alloc (Nat.le_refl _) _⟩

set_option maxRecDepth 100000 in
set_option maxHeartbeats 1000000 in
theorem nat_bits (n : Nat) (w : World) (hn : blen n ≤ 4611686018427387904) : Calls Try.prog 46 #[natV n] w (Ret (.int .i64 ((blen n : Nat) : Int)) w) := by
  unfold natV
  by_cases h : n < 18446744073709551616
  · rw [mo_small n h, lo_small n h]
    have e := Lib.hid (bitLen_eq n h)
    go_enter Try.func46, Try.ntmps46
    go_wp2_with fail
    refine (Try.bits_Len64 (n : Int) _ (by omega) (by omega)).mono ?_
    rintro e' w1 ⟨rfl, rfl⟩
    go_wp2
    go_ret
    exact ⟨ret_int (by rw [e.out]), (Below.refl _ _).alloc (Nat.le_refl _) _⟩
  · have hsz := mo_size n
    have hbig := words_big n h
    have hbl := blen_words n (by omega)
    obtain ⟨_, ht0, ht1⟩ := words_top n (by omega)
    have hft := flat_top n h
    generalize hs : mo n = s at hsz hft
    have hs8 : 8 ≤ s.size := by omega
    have hs9 : (s.size : Int) * 8 ≤ 4611686018427387904 := by omega
    have HA := Lib.hid (And.intro hsz (And.intro hbl (And.intro ht0 hft)))
    have hs1 : ((s.size : Int) - 8).toNat = s.size - 8 := by omega
    clear hsz hbl ht0 hft hs hbig hn
    have hne1 := toList_ne s (by omega)
    have hne2 : s.toList.isEmpty = false := by simpa using hne1
    have hsl : ∀ w, (Instr.slice 9 (.string s) (some (.int .i64 ((s.size : Int) - 8))) none none).run Try.prog w = .ok (.string (s.extract (s.size - 8) s.size)) w := fun w => by
      have := run_cut_str (P := Try.prog) 9 Try.underlying9 s .i64 ((s.size : Int) - 8) (by omega) (by omega) w
      rw [this, hs1]
    have hex : (s.extract (s.size - 8) s.size).data.toList = leB (top n) ++ [] := by
      rw [Lib.extract_data, HA.out.2.2.2, List.take_of_length_le (by rw [leB_len]; omega), List.append_nil]
    have hmul : IntKind.i64.wrap (8 * (s.size : Int)) = 8 * (s.size : Int) := IntWalk.i64_in _ (by omega)
    have hsub : IntKind.i64.wrap ((s.size : Int) - 8) = (s.size : Int) - 8 := IntWalk.i64_in _ (by omega)
    have HEX := Lib.hid hex
    clear hex
    generalize s.extract (s.size - 8) s.size = sx at *
    go_enter Try.func46, Try.ntmps46
    go_wp2_with fail
    go_quiet (first | (go_at_call 53; refine Calls.quiet_of (nat_word_le sx (top n) [] ht1 HEX.out _)) | (go_at_call 52; refine Calls.quiet_of_same (Try.bits_Len64 _ _ (by omega) (by omega))))
    have hb64 : Lib.bitLen (top n) ≤ 64 := Lib.bitLen_le _ 64 (by omega) ht1
    go_wp2
    go_ret
    obtain ⟨h1, h2, h3, h4⟩ := HA.out
    have h5 := bitLen_eq (top n) ht1
    exact ⟨ret_int (by rw [IntWalk.wrap64_in _ (by omega), h2, ← h5]; omega), bdrewN ((Below.refl _ _).alloc (Nat.le_refl _) _) _⟩

/-- v is a slice of new memory that holds f of the members of l; nothing that was there has changed -/
def New {α : Type} (w w' : World) (e : TypeId) (f : α → Value) (v : Value) (l : List α) : Prop := Own w' e f v l ∧ Below w.heap.size w w' ∧ ∀ k, v.ownBlock = some k → w.heap.size ≤ k
/-- a word -/
def u64v (x : Nat) : Value := .int .u64 (x : Int)
theorem Try.infoU64 : (Try.prog.info? 22).map (fun i => (i.zero, i.size, i.bytes)) = some (some (u64v 0), 1, 8) := by kernel_rfl

theorem word_at (n i : Nat) (x : Nat) (hi : 1 ≤ i) (hx : (words n)[i]? = some x) : ∃ r, (mo n).data.toList.drop (8 * (i - 1)) = leB x ++ r := by
  have e : (mo n).data.toList = (words n).tail.flatMap leB := rfl
  rw [e, flat_drop, List.drop_tail, show i - 1 + 1 = i from by omega]
  have hk : i < (words n).length := (List.getElem?_eq_some_iff.1 hx).1
  have hx2 : (words n)[i] = x := (List.getElem?_eq_some_iff.1 hx).2
  rw [List.drop_eq_getElem_cons hk, hx2, List.flatMap_cons]
  exact ⟨_, rfl⟩
theorem fill_set (l : List Nat) (i x : Nat) (hx : l[i]? = some x) : (l.take i ++ List.replicate (l.length - i) 0).set i x = l.take (i + 1) ++ List.replicate (l.length - (i + 1)) 0 := by
  have hk : i < l.length := (List.getElem?_eq_some_iff.1 hx).1
  obtain ⟨m, hm⟩ : ∃ m, l.length = i + 1 + m := ⟨l.length - (i + 1), by omega⟩
  rw [hm, show i + 1 + m - i = m + 1 from by omega, show i + 1 + m - (i + 1) = m from by omega, List.replicate_succ, List.set_append_right _ _ (by rw [List.length_take]; omega)]
  rw [List.length_take, show i - min i l.length = 0 from by omega, List.set_cons_zero, List.take_add_one, hx]
  simp

theorem rep_set0 (L x : Nat) (hL : 0 < L) : (Array.replicate L (u64v 0)).setIfInBounds 0 (u64v x) = (([x] ++ List.replicate (L - 1) 0).map u64v).toArray := by
  obtain ⟨m, rfl⟩ : ∃ m, L = m + 1 := ⟨L - 1, by omega⟩
  rw [← List.toArray_replicate, List.setIfInBounds_toArray, List.replicate_succ, List.set_cons_zero]
  simp

def WordsRel (w : World) (n : Nat) (i : Nat) (wr : World) : Prop :=
  Row wr (w.heap.size + 1) 22 u64v ((words n).take i ++ List.replicate ((words n).length - i) 0) ∧ Below (w.heap.size + 1) (w.alloc (.cells #[.int .u64 (lo n : Int), .string (mo n)] 51)) wr

set_option maxRecDepth 100000 in
set_option maxHeartbeats 1000000 in
theorem nat_words (n : Nat) (w : World) (hn : blen n ≤ 4611686018427387904) (hw : (words n).length ≤ 17592186044416) : Calls Try.prog 54 #[natV n] w fun e w' => ∃ v, e = .returned v ∧ New w w' 22 u64v v (words n) := by
  unfold natV
  by_cases h0 : n = 0
  · subst h0
    rw [mo_small 0 (by omega), lo_small 0 (by omega)]
    go_enter Try.func54, Try.ntmps54
    go_wp2
    go_ret
    exact ⟨_, rfl, Own.nil_ _ _ _, (Below.refl _ _).alloc (Nat.le_refl _) _, fun k hk => by simp [Value.ownBlock] at hk⟩
  by_cases hb : n < 18446744073709551616
  · have hw1 := words_small n hb h0
    rw [mo_small n hb, lo_small n hb, hw1]
    have hz : ((n : Int) == 0) = false := by simp; omega
    have hmk := make_row (P := Try.prog) u64v 0 82 22 8 Try.underlying82 Try.infoU64 rfl .i64 .i64 1 (by omega) (by omega)
    have hmk2 : ∀ w, (Instr.makeSlice 82 (.int .i64 1) (.int .i64 1)).run Try.prog w = .ok (.slice (some ⟨w.heap.size, 0, none⟩) 1 1) (w.alloc (.cells #[.int .u64 0] 22)) := hmk
    clear hmk hw1 hw hn
    go_enter Try.func54, Try.ntmps54
    go_wp2_with fail
    go_rounds 1
    go_ret
    have ho := Own.lit (w.alloc (.cells #[.int .u64 (n : Int), .string ⟨#[]⟩] 51)) 22 u64v [n] (by unfold maxLen; simp)
    refine ⟨_, rfl, by simpa [u64v] using ho, ((Below.refl _ _).alloc (Nat.le_refl _) _).alloc (by simp) _, fun k hk => ?_⟩
    simp [Value.ownBlock] at hk
    omega
  · have hsz := mo_size n
    have hlen1 : 1 ≤ (words n).length := by rw [words_pos n h0]; simp
    obtain ⟨L, hL⟩ : ∃ L, (words n).length = L := ⟨_, rfl⟩
    have hmk := make_row (P := Try.prog) u64v 0 82 22 8 Try.underlying82 Try.infoU64 rfl .i64 .i64 L (by omega) (by omega)
    have hdiv : (1 : Int) + ((mo n).size : Int) / 8 = (L : Int) := by rw [hsz]; omega
    have d1 := toList_ne (mo n) (by have := words_big n hb; omega)
    have d2 : (mo n).toList.isEmpty = false := by simpa using d1
    have HH := Lib.hid (And.intro hsz hL)
    have hLb : L ≤ 17592186044416 := by omega
    have hs1 : ((mo n).size : Int) ≤ 140737488355328 := by omega
    have hL1 : 1 ≤ L := by omega
    have hL0 : 0 < L := by omega
    have hL2 : (0 : Int) < (L : Int) := by omega
    have hrep : (Array.replicate L (u64v 0))[0]? = some (.int .u64 0) := by rw [Array.getElem?_replicate, if_pos hL0]; rfl
    clear hsz hL hw hn hlen1
    go_enter Try.func54, Try.ntmps54
    go_wp2_with fail
    clear hmk hrep
    go_loopw [4] (fun x wr => ∃ i : Nat, 1 ≤ i ∧ i ≤ L ∧ x = .int .i64 i ∧ WordsRel w n i wr) (fun x _ => L - (intOf x).toNat)
    case atStart =>
      refine ⟨1, by omega, by omega, rfl, ?_, ?_⟩
      · have hr := Row.new (w.alloc (.cells #[.int .u64 (lo n : Int), .string (mo n)] 51)) 22 u64v ([lo n] ++ List.replicate (L - 1) 0)
        rw [← rep_set0 L (lo n) hL0] at hr
        have e1 : (words n).take 1 = [lo n] := by rw [words_head n h0]; rfl
        rw [HH.out.2, e1]
        rw [World.size_alloc] at hr
        exact hr
      · exact (Below.refl _ _).alloc (by simp) _
    case round =>
      obtain ⟨i, hi1, hi2, rfl, hrow, hbel⟩ := hrel
      by_cases hlt : i < L
      · obtain ⟨x, hx⟩ : ∃ x, (words n)[i]? = some x := ⟨_, List.getElem?_eq_getElem (by rw [HH.out.2]; exact hlt)⟩
        obtain ⟨r, hr⟩ := word_at n i x hi1 hx
        have hxl := words_lt n x (List.mem_of_getElem? hx)
        have hcell := hrow.cell (k := i) (x := 0) (by rw [List.getElem?_append_right (by rw [List.length_take]; omega), List.getElem?_replicate]; simp; have := HH.out.2; omega)
        have hfr := hrow.frozen i
        have hbox : wr.cell? ⟨w.heap.size, 1, none⟩ = some (.string (mo n)) := by
          rw [hbel.cell (p := ⟨w.heap.size, 1, none⟩) (by simp)]
          exact (Blk.new w _ _).cell 1
        have hnx := hrow.set_ i x
        have hfs := fill_set (words n) i x hx
        rw [HH.out.2] at hfs
        have hbx := hbel.setCell (p := ⟨w.heap.size + 1, i, none⟩) (Nat.le_refl _) (u64v x)
        have HR := Lib.hid (And.intro hr (And.intro hfs hx))
        unfold u64v at hcell
        have hsl : ∀ w, (Instr.slice 9 (.string (mo n)) (some (.int .i64 (8 * ((i : Int) - 1)))) none none).run Try.prog w = .ok (.string ((mo n).extract (8 * (i - 1)) (mo n).size)) w := fun w => by
          have hq := HH.out
          have := run_cut_str (P := Try.prog) 9 Try.underlying9 (mo n) .i64 (8 * ((i : Int) - 1)) (by omega) (by omega) w
          rw [this, show (8 * ((i : Int) - 1)).toNat = 8 * (i - 1) from by omega]
        have hex : ((mo n).extract (8 * (i - 1)) (mo n).size).data.toList = leB x ++ r := by
          have hq := HH.out
          rw [Lib.extract_data, hr, List.take_of_length_le]
          have h5 := congrArg List.length hr
          rw [List.length_drop, ← Lib.size_eq] at h5
          omega
        have HEX := Lib.hid hex
        clear hex hr hfs hx
        generalize (mo n).extract (8 * (i - 1)) (mo n).size = sx at *
        go_wp2_with fail
        refine (nat_word_le sx x r hxl HEX.out _).mono ?_
        rintro e w1 ⟨rfl, k, rfl⟩
        go_wp2
        refine ⟨⟨i + 1, by omega, by omega, by go_num, ?_, ?_⟩, by simp [intOf]; omega⟩
        · have h6 := (hrow.drewN k).set_ i x
          rw [HH.out.2, HR.out.2.1] at h6
          rw [HH.out.2]
          exact h6
        · exact (bdrewN hbel k).setCell (Nat.le_refl _) _
      · obtain rfl : i = L := by omega
        go_wp2
        go_ret
        have hq := HH.out.2
        rw [hq, List.take_of_length_le (by omega), Nat.sub_self, List.replicate_zero, List.append_nil] at hrow
        have ho := Own.ofBlk hrow (by unfold maxLen; omega)
        rw [hq] at ho
        exact ⟨_, rfl, ho, ((Below.refl _ _).alloc (Nat.le_refl _) _).trans (hbel.mono (by omega)), fun k hk => by simp [Value.ownBlock] at hk; omega⟩
end Go.Proofs.Ytjmbpnogicdkgaa
