/-
  nat.fromWords: the number with these words.
-/
import Derived.Test.YtjmbpnogicdkgaaTrim
import Derived.Deep.RegionWith
namespace Go.Proofs.Ytjmbpnogicdkgaa
open Go.RowKit
set_option linter.unusedSimpArgs false
set_option linter.unusedVariables false

theorem val_dv (l : List Nat) : val l = dv 18446744073709551616 l := by
  induction l with
  | nil => rfl
  | cons x r ih => simp only [val, dv, ih]
theorem words_dv (l : List Nat) (h : Dig 18446744073709551616 l) : words (dv 18446744073709551616 l) = trimL l := by
  rw [← trimL_dv, ← val_dv]
  exact words_val _ (fun x hx => h.trimL x hx) (trimL_last l)
theorem leB_get (x k : Nat) (h : k < 8) : (leB x)[k]? = some (byteAt x k) := by
  have e : k = 0 ∨ k = 1 ∨ k = 2 ∨ k = 3 ∨ k = 4 ∨ k = 5 ∨ k = 6 ∨ k = 7 := by omega
  have u : ∀ n : Nat, UInt8.ofNat (n % 256) = UInt8.ofNat n := fun n => by
    apply UInt8.toNat_inj.1
    rw [UInt8.toNat_ofNat', UInt8.toNat_ofNat']
    omega
  rcases e with rfl | rfl | rfl | rfl | rfl | rfl | rfl | rfl <;> simp [leB, byteAt, u]
theorem lo_words (n x : Nat) (r : List Nat) (h : words n = x :: r) : lo n = x := by
  have h0 : n ≠ 0 := by
    intro h0
    subst h0
    rw [words_zero] at h
    cases h
  rw [words_pos n h0] at h
  injection h

def FwRel (w : World) (b : Nat) (l : List UInt8) (wr : World) : Prop :=
  Lib.BuilderAt 88 5 b b (.pointer (some ⟨b, 0, none⟩)) (Lib.byteCells l) wr ∧ Below b w wr

set_option maxRecDepth 100000 in
set_option maxHeartbeats 1000000 in
theorem nat_fromWords (A : Option Addr) (n c B : Nat) (l : List Nat) (w : World) (h : Reads w B 1 A n (l.map u64v)) (hB : B ≤ w.heap.size) (hd : Dig 18446744073709551616 l) (hn : n ≤ 17592186044416) (hc : n ≤ c) :
    Calls Try.prog 55 #[.slice A n c] w (Ret (natV (dv 18446744073709551616 l)) w) := by
  have hw := words_dv l hd
  have hdt := hd.trimL
  obtain ⟨N, hN⟩ : ∃ N, dv 18446744073709551616 l = N := ⟨_, rfl⟩
  rw [hN] at hw ⊢
  have hlen := h.lenf
  have htl := trimL_len l
  have hr2 := h.front (k := (trimL l).length) (by omega)
  rw [Nat.mul_one, ← List.map_take, ← trimL_take] at hr2
  have htr := nat_trim A n c B l (w.alloc (.cells #[.int .u64 0, .string ⟨#[]⟩] 51)) (Reads.alloc h hB _) (by omega) hc
  generalize trimL l = t at *
  have HW := Lib.hid hw
  clear hN hw hd
  obtain ⟨m, hm⟩ : ∃ m, t.length = m := ⟨_, rfl⟩
  rw [hm] at hr2 htl htr
  have hmn : m ≤ n := by omega
  have HM := Lib.hid hm
  have HTR := Lib.hid htr
  clear hm hlen htr htl h
  have hbk := Blk.new w 51 #[.int .u64 0, .string ⟨#[]⟩]
  have q0 := hbk.cell 0
  have q1 := hbk.cell 1
  simp at q0 q1
  by_cases h0 : m = 0
  · subst h0
    obtain rfl : t = [] := List.eq_nil_of_length_eq_zero HM.out
    have hN0 : N = 0 := by rw [← val_words N, HW.out]; rfl
    subst hN0
    have e : natV 0 = .agg #[.int .u64 0, .string ⟨#[]⟩] := by unfold natV; rw [lo_small 0 (by omega), mo_small 0 (by omega)]; rfl
    rw [e]
    go_enter Try.func55, Try.ntmps55
    go_wp2_with fail
    refine HTR.out.mono ?_
    rintro e w1 ⟨rfl, rfl⟩
    go_wp2
    go_returns
    exact ⟨rfl, by go_grown⟩
  by_cases h1 : m = 1
  · subst h1
    obtain ⟨x, rfl⟩ : ∃ x, t = [x] := List.length_eq_one_iff.1 HM.out
    have hx : x < 18446744073709551616 := hdt x (by simp)
    have hN0 : N = x := by rw [← val_words N, HW.out]; simp [val]
    subst hN0
    have e : natV N = .agg #[.int .u64 (N : Int), .string ⟨#[]⟩] := by unfold natV; rw [lo_small N hx, mo_small N hx]
    rw [e]
    obtain ⟨ad, x', hA, hb, hx', hcell⟩ := hr2.atf (k := 0) (by omega)
    simp at hx'
    subst hx'
    subst hA
    have hcell2 : (w.alloc (.cells #[.int .u64 0, .string ⟨#[]⟩] 51)).cell? ad = some (.int .u64 (N : Int)) := (World.cell?_alloc_lt w _ ad (by omega)).trans hcell
    go_enter Try.func55, Try.ntmps55
    go_wp2_with fail
    refine HTR.out.mono ?_
    rintro e w1 ⟨rfl, rfl⟩
    go_wp2
    go_returns
    exact ⟨rfl, by go_grown⟩
  · obtain ⟨x0, t', rfl⟩ : ∃ x0 t', t = x0 :: t' := by
      cases t with
      | nil => exact absurd HM.out.symm h0
      | cons a b => exact ⟨a, b, rfl⟩
    have hlt' : t'.length = m - 1 := by have := HM.out; simp at this; omega
    have e : natV N = .agg #[.int .u64 (x0 : Int), .string ⟨(t'.flatMap leB).toArray⟩] := by
      unfold natV
      rw [lo_words N x0 t' HW.out]
      unfold mo more
      rw [HW.out]
      rfl
    rw [e]
    obtain ⟨ad, x', hA, hb, hx', hcell⟩ := hr2.atf (k := 0) (by omega)
    simp at hx'
    subst hx'
    subst hA
    have hr4 := Reads.part hr2 c 1 (m - 1) (by omega) (by omega)
    simp only [Nat.mul_one, List.map_cons, List.drop_succ_cons, List.drop_zero] at hr4
    rw [List.take_of_length_le (by simp; omega)] at hr4
    have hs1 : ∀ w, (Instr.slice 82 (.slice (some ad) m c) (some (.int .i64 1)) none none).run Try.prog w = .ok (.slice (cutA (some ad) c 1 1) (m - 1) (c - 1)) w :=
      fun w => run_cut Try.underlying82 Try.infoU64 (some ad) m c .i64 1 (by omega) (by omega) w
    have hm0 : ((m : Int) == 0) = false := by simp; omega
    have hm1 : ((m : Int) == 1) = false := by simp; omega
    have k1 : (8 : Int) * ((m : Int) - 1) = ((8 * (m - 1) : Nat) : Int) := by omega
    have hz0 : 0 < m := by omega
    have hf := flat_len t'
    have HF := Lib.hid hf
    have HLT := Lib.hid hlt'
    clear hf hlt'
    have hx0lt : x0 < 18446744073709551616 := hdt x0 (by simp)
    go_enter Try.func55, Try.ntmps55
    go_wp2_with fail
    refine HTR.out.mono ?_
    rintro e w1 ⟨rfl, rfl⟩
    go_wp2_with fail
    have hbb := heap_alloc_new (w.alloc (.cells #[.int .u64 0, .string ⟨#[]⟩] 51)) (.cells #[.pointer none, .slice none 0 0] 88)
    rw [World.size_alloc] at hbb
    have hg := Try.Builder_Grow_fresh (w.heap.size + 1) (w.heap.size + 1) (8 * (m - 1)) ((w.alloc (.cells #[.int .u64 0, .string ⟨#[]⟩] 51)).alloc (.cells #[.pointer none, .slice none 0 0] 88)) (Nat.le_refl _) hbb (by simp) (by omega)
    rw [show ((8 * (m - 1) : Nat) : Int) = 8 * ((m - 1 : Nat) : Int) from by omega] at hg
    refine hg.mono ?_
    rintro e w2 ⟨rfl, hbd, hbel⟩
    have hbel2 : Below w.heap.size w w2 := (((Below.refl _ _).alloc (Nat.le_refl _) _).alloc (by simp) _).trans (hbel.mono (by omega))
    have hbel3 : Below (w.heap.size + 1) (w.alloc (.cells #[.int .u64 0, .string ⟨#[]⟩] 51)) w2 := ((Below.refl _ _).alloc (by simp) _).trans hbel
    have hbk2 : Blk w2 w.heap.size 51 #[.int .u64 0, .string ⟨#[]⟩] := hbk.below hbel3 (by omega)
    generalize hbq : w.heap.size + 1 = b at *
    have hr5 : Reads w2 w.heap.size 1 (some ad) m ((x0 :: t').map u64v) := (hr2.more hB).below hbel2
    have hr6 : Reads w2 w.heap.size 1 (cutA (some ad) c 1 1) (m - 1) (t'.map u64v) := (hr4.more hB).below hbel2
    clear hg hbb hbel hbk q0 q1 hcell hr2 hr4 k1 HTR
    go_wp2_with fail
    go_loopw [5, 6, 28] (fun x5 x6 i wr => ∃ k : Nat, k ≤ m - 1 ∧ i = .int .i64 k ∧ FwRel w2 b ((t'.take k).flatMap leB) wr) (fun _ _ i _ => m - 1 - (intOf i).toNat)
    case atStart => exact ⟨0, Nat.zero_le _, rfl, hbd, Below.refl _ _⟩
    case round =>
      obtain ⟨k, hk, rfl, hbd2, hb2⟩ := hrel
      by_cases hlt : k < m - 1
      · have hr7 := hr6.below (hb2.mono (show w.heap.size ≤ b by omega))
        obtain ⟨ad2, x, hA2, hb3, hx, hcx⟩ := hr7.atf hlt
        have hxlt : x < 18446744073709551616 := hdt x (by simp; exact .inr (List.mem_of_getElem? hx))
        have hk2 : (k : Int) < ((m - 1 : Nat) : Int) := by omega
        have HX := Lib.hid hx
        unfold u64v at hcx
        rw [hA2]
        clear hx hbd
        go_wp2_with fail
        obtain ⟨wo, hwo⟩ : ∃ wo : World, wo = wr := ⟨_, rfl⟩
        rw [← hwo] at hb2 hbd2 ⊢
        clear hwo
        go_loopw [6, 32] (fun x6 j wr => ∃ p : Nat, p ≤ 8 ∧ j = .int .i64 p ∧ FwRel w2 b ((t'.take k).flatMap leB ++ (leB x).take p) wr) (fun _ j _ => 8 - (intOf j).toNat)
        case atStart => exact ⟨0, by omega, rfl, by simpa using hbd2, hb2⟩
        case round =>
          obtain ⟨p, hp, rfl, hbd3, hb4⟩ := hrel
          by_cases hp8 : p < 8
          · have hget := leB_get x p hp8
            have e1 := byte_walk x p
            have hpre : ((t'.take k).flatMap leB ++ (leB x).take p).length < 140737488355328 := by
              have h5 := flat_len (t'.take k)
              have h6 : (t'.take k).length ≤ k := by rw [List.length_take]; omega
              have h7 : ((leB x).take p).length ≤ 8 := by rw [List.length_take, leB_len]; omega
              rw [List.length_append, h5]
              omega
            have hsn : (t'.take k).flatMap leB ++ (leB x).take p ++ [byteAt x p] = (t'.take k).flatMap leB ++ (leB x).take (p + 1) := by
              rw [List.append_assoc, List.take_add_one, hget]
              rfl
            generalize byteAt x p = y at *
            generalize (t'.take k).flatMap leB ++ (leB x).take p = pre at *
            have HSN := Lib.hid hsn
            clear hsn hget
            have k3 : (8 : Int) * (p : Int) ≤ 56 := by omega
            go_wp2_with fail
            refine (builder_writeByte b b pre y wr hbd3 hpre (Nat.le_of_lt (Lib.BuilderAt.lt hbd3))).mono ?_
            rintro e w5 ⟨⟨v5, rfl⟩, hbd5, hb5⟩
            rw [HSN.out] at hbd5
            go_wp2
            refine ⟨⟨p + 1, by omega, by go_num, hbd5, hb4.trans hb5⟩, by simp [intOf]; omega⟩
          · obtain rfl : p = 8 := by omega
            rw [List.take_of_length_le (l := leB x) (by rw [leB_len]; omega)] at hbd3
            go_wp2
            refine ⟨⟨k + 1, by omega, by go_num, ?_, hb4⟩, by simp [intOf]; omega⟩
            rw [List.take_add_one, HX.out, List.flatMap_append]
            simpa using hbd3
      · obtain rfl : k = m - 1 := by omega
        rw [List.take_of_length_le (by rw [HLT.out]; omega)] at hbd2
        have hr7 := hr5.below (hb2.mono (show w.heap.size ≤ b by omega))
        obtain ⟨ad2, x2, hA2, _, hx2, hcell⟩ := hr7.atf (k := 0) (by omega)
        injection hA2 with hA2
        subst hA2
        simp at hx2
        subst hx2
        rw [show ad.add 0 = ad from rfl] at hcell
        unfold u64v at hcell
        have hbk3 : Blk wr w.heap.size 51 #[.int .u64 0, .string ⟨#[]⟩] := hbk2.below hb2 (by omega)
        have hbk4 : Blk wr.drew w.heap.size 51 #[.int .u64 0, .string ⟨#[]⟩] := hbk3
        have hcell4 : wr.drew.cell? ad = some (.int .u64 (x0 : Int)) := hcell
        have hwlt : w.heap.size < b := by omega
        have hwb : b ≤ wr.heap.size := Nat.le_of_lt (Lib.BuilderAt.lt hbd2)
        have hwb2 : b ≤ wr.drew.heap.size := hwb
        have hstr := Try.Builder_String_any b b (t'.flatMap leB) wr.drew (.inr hbd2) hwb2
        have k5 : ¬ ((m - 1 : Nat) : Int) < ((m - 1 : Nat) : Int) := by omega
        generalize hfl : (t'.flatMap leB).toArray = fl at *
        have HST := Lib.hid hstr
        clear hstr hbd hbd2 hfl
        have hadlt : ad.block < b := by omega
        go_wp2_with fail
        go_region_with (go_at_call 59; refine HST.out.mono ?_; rintro e' w5 ⟨rfl, hb5⟩; have hcell5 : w5.cell? ad = some (Value.int IntKind.u64 ↑x0) := (hb5.cell hadlt).trans hcell4; have hbk5 : Blk w5 w.heap.size 51 #[.int .u64 0, .string ⟨#[]⟩] := hbk4.below hb5 hwlt; have q0 := hbk5.cell 0; have q1 := hbk5.cell 1; have f0 := hbk5.frozen 0; have f1 := hbk5.frozen 1; have s0 := hbk5.same0 (by simp); have s1 := hbk5.same1 (by simp); simp at q0 q1)
        all_goals
          go_wp2
          refine bodyPost_ret (v := .agg #[.int .u64 (x0 : Int), .string ⟨fl⟩]) (by simp [results, Try.results55, go_sem, s0, s1]) rfl ?_
          have hb6 : Below b wr w5 := ⟨hb5.os, hb5.tape, hb5.output, hb5.size, hb5.block⟩
          have hfin : Below w.heap.size w w5 := (hbel2.trans (hb2.mono (by omega))).trans (hb6.mono (by omega))
          exact ⟨rfl, (hfin.setCell (Nat.le_refl _) _).setCell (Nat.le_refl _) _⟩
end Go.Proofs.Ytjmbpnogicdkgaa
