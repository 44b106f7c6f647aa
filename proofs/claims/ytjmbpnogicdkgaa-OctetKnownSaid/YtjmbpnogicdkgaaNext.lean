/-
  octet.Next.
-/
import Derived.Test.YtjmbpnogicdkgaaRead
import Derived.Deep.RegionWith
import Derived.Deep.RegionHeld3
namespace Go.Proofs.Ytjmbpnogicdkgaa
open Go.RowKit
set_option linter.unusedSimpArgs false
set_option linter.unusedVariables false

def beVal (l : List UInt8) : Nat := l.foldl (fun a b => a * 256 + b.toNat) 0
/-- Next: the kind, the body, the size, the error -/
def nextR : List UInt8 → Nat × List UInt8 × Nat × Nat
  | [] => (0, [], 0, 3)
  | b :: r =>
    if b = 0 then (0, [], 0, 2)
    else if (readC r).2.2 ≠ 0 then (0, [], 0, (readC r).2.2)
    else if 4194304 < (readC r).1 then (0, [], 0, 4)
    else if r.length < (readC r).2.1 + (readC r).1 + 8 then (0, [], 0, 3)
    else if beVal ((r.drop ((readC r).2.1 + (readC r).1)).take 8) ≠ fnv (b :: r.take ((readC r).2.1 + (readC r).1)) then (0, [], 0, 13)
    else (b.toNat, (r.drop (readC r).2.1).take (readC r).1, 1 + (readC r).2.1 + (readC r).1 + 8, 0)

theorem readC_bounds (bs : List UInt8) : (readC bs).1 ≤ 4611686018427387904 ∧ (readC bs).2.1 ≤ bs.length ∧ (readC bs).2.1 ≤ 9 ∧ (readC bs).2.2 ≤ 4 := by
  have := lead_le bs
  unfold readC
  simp only []
  split
  · simp
  · split
    · simp
    · split
      · simp
      · split
        · simp
        · simp; omega

theorem nextR_cons (b : UInt8) (r : List UInt8) (hb0 : ¬ b = 0) : nextR (b :: r) = if (readC r).2.2 ≠ 0 then (0, [], 0, (readC r).2.2)
    else if 4194304 < (readC r).1 then (0, [], 0, 4)
    else if r.length < (readC r).2.1 + (readC r).1 + 8 then (0, [], 0, 3)
    else if beVal ((r.drop ((readC r).2.1 + (readC r).1)).take 8) ≠ fnv (b :: r.take ((readC r).2.1 + (readC r).1)) then (0, [], 0, 13)
    else (b.toNat, (r.drop (readC r).2.1).take (readC r).1, 1 + (readC r).2.1 + (readC r).1 + 8, 0) := by
  simp only [nextR]
  rw [if_neg hb0]
theorem NewB.nil_ (w : World) : NewB w w (.slice none 0 0) [] := ⟨Own.nil_ _ _ _, Below.refl _ _, fun k hk => by simp [Value.ownBlock] at hk⟩

theorem below_of_drew {w w' : World} (h : Below w.drew.heap.size w.drew w') : Below w.heap.size w w' := ⟨h.os, h.tape, h.output, h.size, h.block⟩
theorem beVal_take (l : List UInt8) (k : Nat) (x : UInt8) (h : l[k]? = some x) : beVal (l.take (k + 1)) = beVal (l.take k) * 256 + x.toNat := by
  unfold beVal
  rw [take_snoc l k x h, List.foldl_append, List.foldl_cons, List.foldl_nil]
theorem beVal_lt (l : List UInt8) : beVal l < 256 ^ l.length := by
  have : ∀ (l : List UInt8) (a : Nat), l.foldl (fun a b => a * 256 + b.toNat) a < (a + 1) * 256 ^ l.length := by
    intro l
    induction l with
    | nil => intro a; simp
    | cons b r ih =>
      intro a
      have h1 := ih (a * 256 + b.toNat)
      have h2 := b.toNat_lt
      rw [List.foldl_cons, List.length_cons, Nat.pow_succ]
      refine Nat.lt_of_lt_of_le h1 ?_
      rw [Nat.mul_comm (256 ^ r.length) 256, ← Nat.mul_assoc]
      exact Nat.mul_le_mul_right _ (by omega)
  have h := this l 0
  unfold beVal
  simpa using h
theorem or_u64_byte (s : Nat) (x : UInt8) (hs : s < 72057594037927936) : bits .or .u64 ((s : Int) * 256) (x.toNat : Int) = ((s * 256 + x.toNat : Nat) : Int) := by
  have hx := x.toNat_lt
  have := or_u64 (s * 256) x.toNat (by omega) (by omega)
  rw [show ((s * 256 : Nat) : Int) = (s : Int) * 256 from by omega] at this
  rw [this, show s * 256 = 2 ^ 8 * s from by omega, Nat.two_pow_add_eq_or_of_lt (by omega)]

set_option maxRecDepth 100000 in
set_option maxHeartbeats 1000000 in
theorem octet_next (A : Option Addr) (n c B : Nat) (bs : List UInt8) (w : World) (h : Bytes w B A n bs) (hB : B ≤ w.heap.size) (hn : n ≤ 281474976710656) (hc : n ≤ c) (hc2 : c ≤ 9223372036854775807) :
    Calls Try.prog 23 #[.slice A n c] w fun e w' => ∃ v, e = .returned (.tuple #[.int .i64 ((nextR bs).1 : Int), v, .int .i64 ((nextR bs).2.2.1 : Int), .int .i64 ((nextR bs).2.2.2 : Int)]) ∧ NewB w w' v (nextR bs).2.1 := by
  have hl := h.len
  cases bs with
  | nil =>
    simp at hl
    subst hl
    go_enter Try.func23, Try.ntmps23
    go_wp2
    go_returns
    exact ⟨_, rfl, NewB.nil_ _⟩
  | cons b r =>
    simp at hl
    obtain ⟨ad, x, hA, hb, hx, hcell⟩ := h.at_ (k := 0) (by omega)
    simp at hx
    subst hx
    subst hA
    have hn0 : ((n : Int) == 0) = false := by simp; omega
    have hz0 : (0 : Int) < (n : Int) := by omega
    have HL := Lib.hid hl
    rw [show ad.add 0 = ad from rfl] at hcell
    by_cases hb0 : b = 0
    · subst hb0
      go_enter Try.func23, Try.ntmps23
      go_wp2
      go_returns
      exact ⟨_, rfl, NewB.nil_ _⟩
    · have hb1 : ((b.toNat : Int) == 0) = false := by
        simp
        intro h0
        exact hb0 (UInt8.toNat_inj.1 h0)
      have hr1 := Reads.part h c 1 (n - 1) (by omega) (by omega)
      simp only [Nat.mul_one, List.map_cons, List.drop_succ_cons, List.drop_zero] at hr1
      rw [List.take_of_length_le (by simp; omega)] at hr1
      have hs1 : ∀ w, (Instr.slice 29 (.slice (some ad) n c) (some (.int .i64 1)) none none).run Try.prog w = .ok (.slice (cutA (some ad) c 1 1) (n - 1) (c - 1)) w :=
        fun w => run_cut Try.underlying29 Try.infoU8 (some ad) n c .i64 1 (by omega) (by omega) w
      obtain ⟨B1, B2, B3, B4⟩ := readC_bounds r
      have hrc := read_count (cutA (some ad) c 1 1) (n - 1) (c - 1) B r w hr1 (by omega)
      have eN := nextR_cons b r hb0
      generalize nextR (b :: r) = res at *
      generalize readC r = rc at *
      obtain ⟨m, u, e⟩ := rc
      simp only [] at B1 B2 B3 B4 hrc eN
      have EN := Lib.hid eN
      have HRC := Lib.hid hrc
      clear eN hrc
      by_cases he : e = 0
      · subst he
        by_cases hm : 4194304 < m
        · go_enter Try.func23, Try.ntmps23
          go_wp2_with fail
          refine HRC.out.mono ?_
          rintro e' w1 ⟨rfl, rfl⟩
          have hm2 : (4194304 : Int) < (m : Int) := by omega
          go_wp2
          have hres := EN.out
          rw [if_neg (by simp), if_pos hm] at hres
          rw [hres]
          go_returns
          exact ⟨_, rfl, NewB.nil_ _⟩
        · obtain ⟨E, hE⟩ : ∃ E, E = 1 + u + m := ⟨_, rfl⟩
          have hEu : u ≤ 9 := B3
          have hw1 : (1 : Int) + (u : Int) + (m : Int) = (E : Int) := by omega
          have HE := Lib.hid hE
          have hE2 : E ≤ 4194314 := by omega
          have hE3 : 1 + u ≤ E := by omega
          by_cases hsh : n < E + 8
          · have hsh2 : (n : Int) < (E : Int) + 8 := by omega
            clear hE
            go_enter Try.func23, Try.ntmps23
            go_wp2_with fail
            refine HRC.out.mono ?_
            rintro e' w1 ⟨rfl, rfl⟩
            go_wp2
            have hres := EN.out
            have := HE.out
            rw [if_neg (by simp), if_neg hm, if_pos (by omega)] at hres
            rw [hres]
            go_returns
            exact ⟨_, rfl, NewB.nil_ _⟩
          · have hsh2 : ¬ (n : Int) < (E : Int) + 8 := by omega
            clear hE
            have hs2 : ∀ w, (Instr.slice 29 (.slice (some ad) n c) (some (.int .i64 (E : Int))) (some (.int .i64 ((E : Int) + 8))) none).run Try.prog w = .ok (.slice (cutA (some ad) c E 1) 8 (c - E)) w := fun w => by
              have := run_cut2 Try.underlying29 Try.infoU8 (some ad) n c .i64 .i64 (E : Int) ((E : Int) + 8) (by omega) (by omega) (by omega) w
              rw [this, Int.toNat_natCast, show ((E : Int) + 8).toNat - E = 8 from by omega]
            have hs3 : ∀ w, (Instr.slice 29 (.slice (some ad) n c) (some (.int .i64 (1 + (u : Int)))) (some (.int .i64 (E : Int))) (some (.int .i64 (E : Int)))).run Try.prog w = .ok (.slice (cutA (some ad) E (1 + u) 1) (E - (1 + u)) (E - (1 + u))) w := fun w => by
              have := run_cut3 Try.underlying29 Try.infoU8 (some ad) n c .i64 .i64 .i64 (1 + (u : Int)) (E : Int) (E : Int) (by omega) (by omega) (by omega) (by omega) w
              rw [this, Int.toNat_natCast, show (1 + (u : Int)).toNat = 1 + u from by omega]
            have hr8 := Reads.part h c E 8 (by omega) (by omega)
            rw [Nat.mul_one, Nat.mul_one, ← List.map_drop, ← List.map_take] at hr8
            have hrE := Reads.front h (k := E) (by omega)
            rw [Nat.mul_one, ← List.map_take] at hrE
            generalize hl8 : (List.drop E (b :: r)).take 8 = l8 at hr8
            have hlen8 := hr8.lenf
            have HL8 := Lib.hid hl8
            have HLEN8 := Lib.hid hlen8
            clear hl8 hlen8 hs1
            have hs1 : ∀ w, (Instr.slice 29 (.slice (some ad) n c) (some (.int .i64 1)) none none).run Try.prog w = .ok (.slice (cutA (some ad) c 1 1) (n - 1) (c - 1)) w :=
              fun w => run_cut Try.underlying29 Try.infoU8 (some ad) n c .i64 1 (by omega) (by omega) w
            go_enter Try.func23, Try.ntmps23
            go_wp2_with fail
            refine HRC.out.mono ?_
            rintro e' w1 ⟨rfl, rfl⟩
            go_wp2_with fail
            go_loop [10, 12, 48] (fun s x i => ∃ k : Nat, k ≤ 8 ∧ i = .int .i64 k ∧ s = .int .u64 ((beVal (l8.take k) : Nat) : Int)) (fun _ _ i => 8 - (intOf i).toNat)
            case atStart => exact ⟨0, by omega, rfl, rfl⟩
            case round =>
              obtain ⟨k, hk, rfl, rfl⟩ := hrel
              by_cases hk8 : k < 8
              · obtain ⟨ad2, x, hA2, hb2, hx2, hc3⟩ := hr8.atf hk8
                have hlt := beVal_lt (l8.take k)
                have hlt2 : beVal (l8.take k) < 72057594037927936 := Nat.lt_of_lt_of_le hlt (Nat.le_trans (Nat.pow_le_pow_right (by omega) (show (l8.take k).length ≤ 7 by rw [List.length_take]; omega)) (by decide))
                have HT := Lib.hid (beVal_take l8 k x hx2)
                clear hlt hx2
                generalize beVal (l8.take k) = s at *
                have e1 := or_u64_byte s x hlt2
                have e2 := wrap_u64_byte x
                rw [hA2]
                unfold u8v at hc3
                go_wp2
                refine ⟨⟨k + 1, by omega, by go_num, ?_⟩, by simp [intOf]; omega⟩
                rw [HT.out]
                exact congrArg (Value.int IntKind.u64) (by omega)
              · obtain rfl : k = 8 := by omega
                rw [List.take_of_length_le (by rw [HLEN8.out]; omega)]
                go_wp2_with fail
                refine (octet_sum _ _ _ _ _ _ hrE (by omega)).mono ?_
                rintro e' w1 ⟨rfl, rfl⟩
                have hfE : (b :: r).take E = b :: r.take (u + m) := by
                  rw [HE.out, show 1 + u + m = (u + m) + 1 from by omega, List.take_succ_cons]
                have hl8 := HL8.out
                rw [HE.out, show 1 + u + m = (u + m) + 1 from by omega, List.drop_succ_cons] at hl8
                have hres := EN.out
                rw [if_neg (by simp), if_neg hm, if_neg (by have := HE.out; omega), hl8, ← hfE] at hres
                have HRES := Lib.hid hres
                clear hres hl8 hfE
                generalize hfe : fnv ((b :: r).take E) = fe at *
                by_cases hq : beVal l8 = fe
                · have hq2 : (((beVal l8 : Nat) : Int) != (fe : Int)) = false := by simp [hq]
                  have HQ := Lib.hid hq
                  clear hq
                  have hrX := Reads.part h E (1 + u) (E - (1 + u)) (by omega) (by omega)
                  rw [Nat.mul_one, Nat.mul_one, ← List.map_drop, ← List.map_take] at hrX
                  have hBd : B ≤ w.drew.heap.size := hB
                  go_wp2_with fail
                  go_region_with (go_at_call 34; refine (octet_exact _ _ _ _ _ w.drew (Reads.drew hrX) hBd (by omega)).mono ?_; rintro e' w5 ⟨v5, rfl, ho5, hb5, hf5⟩; have hcell5 : w5.cell? ad = some (Value.int IntKind.u8 ↑b.toNat) := (hb5.cell (Nat.lt_of_lt_of_le hb hBd)).trans hcell)
                  all_goals
                    go_wp2
                    have hres := HRES.out
                    rw [if_neg (by simpa using HQ.out)] at hres
                    rw [hres]
                    have hX : ((b :: r).drop (1 + u)).take (E - (1 + u)) = (r.drop u).take m := by
                      rw [Nat.add_comm 1 u, List.drop_succ_cons, show E - (u + 1) = m from by have := HE.out; omega]
                    rw [hX] at ho5
                    have hfin : NewB w w5 v5 ((r.drop u).take m) := ⟨ho5, below_of_drew hb5, hf5⟩
                    have hEE := HE.out
                    go_returns
                    have hwb : IntKind.i64.wrap (b.toNat : Int) = (b.toNat : Int) := IntWalk.i64_in _ (by have := b.toNat_lt; omega)
                    refine ⟨v5, ?_, hfin⟩
                    show Ending.returned (Value.tuple #[.int .i64 (IntKind.i64.wrap (b.toNat : Int)), v5, .int .i64 ((E : Int) + 8), .int .i64 0]) = _
                    rw [hwb, show (E : Int) + 8 = ((1 + u + m + 8 : Nat) : Int) from by omega]
                    rfl
                · have hq2 : (((beVal l8 : Nat) : Int) != (fe : Int)) = true := by simp [hq]; omega
                  have HQ := Lib.hid hq
                  clear hq
                  go_wp2
                  have hres := HRES.out
                  rw [if_pos HQ.out] at hres
                  rw [hres]
                  go_returns
                  exact ⟨_, rfl, NewB.nil_ _⟩
      · have he2 : ((e : Int) != 0) = true := by simp [bne_iff_ne]; exact he
        go_enter Try.func23, Try.ntmps23
        go_wp2_with fail
        refine HRC.out.mono ?_
        rintro e' w1 ⟨rfl, rfl⟩
        go_wp2
        have hres := EN.out
        rw [if_pos (by simpa using he)] at hres
        rw [hres]
        go_returns
        exact ⟨_, rfl, NewB.nil_ _⟩
end Go.Proofs.Ytjmbpnogicdkgaa
