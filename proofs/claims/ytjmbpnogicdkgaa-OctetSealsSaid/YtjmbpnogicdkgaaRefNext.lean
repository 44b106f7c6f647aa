/-
  The document's answer of chapter 4: Next.
-/
import Derived.Test.YtjmbpnogicdkgaaRefSeal
import Derived.Test.YtjmbpnogicdkgaaTurnMath
import Derived.Deep.DeepCutAuto
import Derived.Deep.CutBlock
import Derived.Deep.RegionLaw
namespace Go.Proofs.Ytjmbpnogicdkgaa
open Go.RowKit
set_option linter.unusedSimpArgs false
set_option linter.unusedVariables false

theorem valB_snoc (l : List UInt8) (x : UInt8) : valB (l ++ [x]) = valB l + x.toNat % 128 * 128 ^ l.length := by
  induction l with
  | nil => simp [valB]
  | cons b r ih =>
    simp only [List.cons_append, valB, ih, List.length_cons, Nat.pow_succ]
    rw [Nat.mul_add, ← Nat.add_assoc]
    congr 1
    rw [Nat.mul_comm 128, Nat.mul_assoc]
theorem or_group (N d t : Nat) (hN : N < 128 ^ t) (hd : d < 128) (ht : t ≤ 8) : bits .or .u64 (N : Int) (IntKind.u64.wrap ((d : Int) * 2 ^ (7 * t))) = ((N + d * 128 ^ t : Nat) : Int) := by
  have p : (128 : Nat) ^ t = 2 ^ (7 * t) := by rw [Nat.pow_mul]
  have q : (2 : Nat) ^ (7 * t) ≤ 2 ^ 56 := Nat.pow_le_pow_right (by omega) (by omega)
  have r : d * 2 ^ (7 * t) ≤ 127 * 2 ^ 56 := Nat.mul_le_mul (by omega) q
  rw [p] at hN ⊢
  have e := or_u64 N (d * 2 ^ (7 * t)) (by omega) (by omega)
  rw [show (d : Int) * 2 ^ (7 * t) = ((d * 2 ^ (7 * t) : Nat) : Int) from by rw [Int.natCast_mul, Int.natCast_pow]; rfl, wrap_u64_nat, Nat.mod_eq_of_lt (by omega)]
  rw [e, Nat.add_comm N, Nat.mul_comm d, Nat.two_pow_add_eq_or_of_lt hN, Nat.or_comm]

/-- 'append(v, src...)' inside a region that draws its order -/
theorem stepN {α : Type} {P : Program} {ops : Array Oper} {o : Oper} {a : Act} {K : Act → World → Prop} {Q : Exit → Act → World → Prop} {E0 : Prop} {t e : TypeId} {z : Value} {bytes : Nat} {f : α → Value}
    (E : Elt P t e z bytes) (hgd : o.guard = none) (s x : Operand)
    (ho : o.op = .call { callee := .builtin .append, args := #[s, x], argTypes := #[t, t] })
    (w : World) (v : Value) (l : List α) (B : Nat) (A : Option Addr) (n c : Nat) (l2 : List α) (hs : a.eval s = v) (hown : Own w e f v l) (hx : a.eval x = .slice A n c)
    (hr : Reads w B 1 A n (l2.map f)) (hone : ∀ m, (f m).oneCell' = true) (h63 : l.length + n ≤ maxLen) (hb : (l.length + n) * bytes ≤ 140737488355328)
    (h : ∀ v' w1, Own w1 e f v' (l ++ l2) → Grew w w1 v v' → K (a.put o.dst v') w1) : if Region.wanted o (yielded ops a.tmps) = true then Oper.wp P o a w K Q else E0 := by
  obtain ⟨i0, hi0, hz0, hz1, hz2⟩ := info_parts E.info
  refine step_append_any _ hgd s x t ho 0 e i0 z 1 bytes E.under hi0 hz0 hz1 hz2 E.one (by omega) v l.length (l.map f) hs hown B A n c (l2.map f) hx hr
    (by intro u hu; simp at hu; obtain ⟨m, _, rfl⟩ := hu; exact hone m) h63 hb (Nat.zero_le _) ?_
  intro v' w' hown' hgr hwh
  refine h v' w' ?_ (Grew.of_grown hgr hwh)
  have hl := hr.lenf
  unfold Own
  rw [List.length_append, List.map_append, hl]
  exact hown'

theorem belowA {w w1 : World} {v' : Value} {n c : Nat} {t : TypeId} (h : Grew ((w.alloc (.cells #[] t)).drew) w1 (.slice (some ⟨w.heap.size, 0, none⟩) n c) v') : Below w.heap.size w w1 := by
  have h1 : Below w.heap.size w (w.alloc (.cells #[] t)).drew := bdrewN ((Below.refl _ _).alloc (Nat.le_refl _) _) 1
  exact h1.trans (Grew.below h h1.size (by intro k hk; simp [Value.ownBlock] at hk; omega))
theorem freshA {w w1 : World} {v' : Value} {n c : Nat} {t : TypeId} (h : Grew ((w.alloc (.cells #[] t)).drew) w1 (.slice (some ⟨w.heap.size, 0, none⟩) n c) v') : ∀ k, v'.ownBlock = some k → w.heap.size ≤ k := by
  have h1 : Below w.heap.size w (w.alloc (.cells #[] t)).drew := bdrewN ((Below.refl _ _).alloc (Nat.le_refl _) _) 1
  exact Grew.fresh h h1.size (by intro k hk; simp [Value.ownBlock] at hk; omega)

set_option maxRecDepth 100000 in
set_option maxHeartbeats 2000000 in
theorem ref_next (A : Option Addr) (n c B : Nat) (bs : List UInt8) (w : World) (h : Bytes w B A n bs) (hB : B ≤ w.heap.size) (hn : n ≤ 281474976710656) (hc : n ≤ c) (hc2 : c ≤ 9223372036854775807) :
    Calls Try.prog 24 #[.slice A n c] w fun e w' => ∃ v, e = .returned (.tuple #[.int .i64 ((nextR bs).1 : Int), v, .int .i64 ((nextR bs).2.2.1 : Int), .int .i64 ((nextR bs).2.2.2 : Int)]) ∧ NewB w w' v (nextR bs).2.1 := by
  have hl := h.len
  cases bs with
  | nil =>
    simp at hl
    subst hl
    go_enter Try.func24, Try.ntmps24
    go_wp2
    go_returns
    exact ⟨_, rfl, NewB.nil_ _⟩
  | cons b r =>
    simp at hl
    obtain ⟨ad, x, hA, hb, hx, hcell⟩ := h.at_ (k := 0) (by omega)
    simp at hx
    subst hx
    subst hA
    have hn0 : ((n : Int) == 0) = false := by simp; omega
    have hz0 : (0 : Int) < (n : Int) := by omega
    have HL := Lib.hid hl
    rw [show ad.add 0 = ad from rfl] at hcell
    by_cases hb0 : b = 0
    · subst hb0
      go_enter Try.func24, Try.ntmps24
      go_wp2
      go_returns
      exact ⟨_, rfl, NewB.nil_ _⟩
    · have hb1 : ((b.toNat : Int) == 0) = false := by
        simp
        intro h0
        exact hb0 (UInt8.toNat_inj.1 h0)
      have EN := Lib.hid (nextR_cons b r hb0)
      have hle := lead_le r
      obtain ⟨s, hs⟩ : ∃ s, lead r = s := ⟨_, rfl⟩
      rw [hs] at hle
      have HS := Lib.hid hs
      have hle2 : s + 1 ≤ n := by omega
      clear hs hl hle
      generalize nextR (b :: r) = res at *
      go_enter Try.func24, Try.ntmps24
      have HF : Hid (∀ y, r[s]? = some y → ¬ (0 < s ∧ y.toNat = 0) → ¬ (0 < s ∧ r[s]? = some 0)) := by
        intro y hy hF
        rintro ⟨h3, h4⟩
        rw [hy] at h4
        have := Option.some.inj h4
        subst this
        exact hF ⟨h3, rfl⟩
      go_upto_block 0 with (fail)
      go_cut [6, 7] (fun u i wc => wc = w ∧ s + 1 < n ∧ Hid (¬ (0 < s ∧ r[s]? = some 0)) ∧ i = .int .i64 ((s : Int) + 2) ∧ u = .int .u64 ((valB (r.take (min (s + 1) 9)) : Nat) : Int))
      case first =>
        go_wp2_with fail
        go_loop [6, 7, 8] (fun u i x => ∃ t : Nat, t ≤ s ∧ i = .int .i64 ((t : Int) + 1) ∧ u = .int .u64 ((valB (r.take (min t 9)) : Nat) : Int)) (fun _ i _ => n - (intOf i).toNat)
        case atStart => exact ⟨0, Nat.zero_le _, rfl, rfl⟩
        case round =>
          obtain ⟨t, ht, rfl, rfl⟩ := hrel
          by_cases htn : t + 1 < n
          · obtain ⟨ad2, y, hA2, hb2, hy, hcy⟩ := h.at_ (show t + 1 < n from htn)
            injection hA2 with hA2
            subst hA2
            rw [List.getElem?_cons_succ] at hy
            have hcy2 : w.cell? ⟨ad.block, ad.off + (t + 1), none⟩ = some (.int .u8 (y.toNat : Int)) := by
              have := hcy
              unfold Addr.add at this
              rw [if_neg (by omega)] at this
              exact this
            clear hcy
            have htn2 : ¬ (n : Int) ≤ (t : Int) + 1 := by omega
            obtain ⟨N, hN⟩ : ∃ N, valB (r.take (min t 9)) = N := ⟨_, rfl⟩
            obtain ⟨N', hN'⟩ : ∃ N', valB (r.take (min (t + 1) 9)) = N' := ⟨_, rfl⟩
            obtain ⟨d, hdd⟩ : ∃ d, y.toNat % 128 = d := ⟨_, rfl⟩
            have e1 := and_u8_127 y
            rw [hdd] at e1
            have hd : d < 128 := by omega
            have hst : (t ≤ 8 ∧ bits .or .u64 (N : Int) (IntKind.u64.wrap ((d : Int) * 2 ^ (7 * t))) = (N' : Int)) ∨ (9 ≤ t ∧ N' = N) := by
              by_cases ht9 : t ≤ 8
              · refine .inl ⟨ht9, ?_⟩
                have hv := valB_snoc (r.take t) y
                rw [← take_snoc r t y hy, List.length_take, show min t r.length = t from by have := HL.out; omega] at hv
                have hlt := valB_lt (r.take t)
                rw [List.length_take, show min t r.length = t from by have := HL.out; omega] at hlt
                have e2 := or_group _ _ t hlt hd ht9
                rw [show min t 9 = t from by omega] at hN
                rw [show min (t + 1) 9 = t + 1 from by omega] at hN'
                rw [← hN, ← hN', hv, hdd]
                exact e2
              · refine .inr ⟨by omega, ?_⟩
                rw [← hN, ← hN', show min (t + 1) 9 = min t 9 from by omega]
            rw [hN]
            have HN' := Lib.hid hN'
            clear hN hN' hdd
            by_cases hts : t < s
            · have hge := lead_hi r t y (by rw [HS.out]; exact hts) hy
              rcases hst with ⟨ht9, e2⟩ | ⟨ht9, rfl⟩
              · have k1 : (0 : Int) ≤ 7 * (t : Int) := by omega
                have k2 : (7 : Int) * (t : Int) ≤ 56 := by omega
                have k3 : ((t : Int) + 1 - 1) = (t : Int) := by omega
                clear hy
                go_wp2
                refine ⟨⟨t + 1, by omega, by go_num, ?_⟩, by simp [intOf]; omega⟩
                rw [HN'.out]
              · have k4 : ¬ (t : Int) + 1 ≤ 9 := by omega
                clear hy
                go_wp2
                refine ⟨⟨t + 1, by omega, by go_num, ?_⟩, by simp [intOf]; omega⟩
                rw [HN'.out]
            · obtain rfl : t = s := by omega
              have hlo := lead_lo r y (by rw [HS.out]; exact hy)
              by_cases hF : 0 < t ∧ y.toNat = 0
              · obtain ⟨hF1, hF2⟩ := hF
                have hF3 : ((y.toNat : Int) == 0) = true := by simp [hF2]
                have h3 : r[t]? = some 0 := by
                  rw [hy]
                  have : y = 0 := UInt8.toNat_inj.1 hF2
                  rw [this]
                have e : readC r = (0, 0, 2) := by
                  have h1 := HL.out
                  have h2 := HS.out
                  unfold readC
                  simp only [h2]
                  rw [if_neg (by omega), if_pos ⟨hF1, h3⟩]
                have hres := EN.out
                rw [e, if_pos (by simp)] at hres
                have HRES := Lib.hid hres
                clear hres e hF2 h3 hy
                have k5 : (2 : Int) < (t : Int) + 1 + 1 := by omega
                rcases hst with ⟨ht9, e2⟩ | ⟨ht9, rfl⟩
                · have k1 : (0 : Int) ≤ 7 * (t : Int) := by omega
                  have k2 : (7 : Int) * (t : Int) ≤ 56 := by omega
                  have k3 : ((t : Int) + 1 - 1) = (t : Int) := by omega
                  have k4 : (t : Int) + 1 ≤ 9 := by omega
                  go_wp2
                  rw [HRES.out]
                  go_returns
                  exact ⟨_, rfl, NewB.nil_ _⟩
                · have k4 : ¬ (t : Int) + 1 ≤ 9 := by omega
                  go_wp2
                  rw [HRES.out]
                  go_returns
                  exact ⟨_, rfl, NewB.nil_ _⟩
              · have h3 := HF.out y hy hF
                have H3 := Lib.hid h3
                have hD : (t < 1) ∨ (0 < t ∧ ((y.toNat : Int) == 0) = false) := by
                  by_cases h0 : t < 1
                  · exact .inl h0
                  · refine .inr ⟨by omega, ?_⟩
                    simp
                    intro h4
                    exact hF ⟨by omega, h4⟩
                clear hF h3 hy
                rcases hst with ⟨ht9, e2⟩ | ⟨ht9, rfl⟩
                · have k1 : (0 : Int) ≤ 7 * (t : Int) := by omega
                  have k2 : (7 : Int) * (t : Int) ≤ 56 := by omega
                  have k3 : ((t : Int) + 1 - 1) = (t : Int) := by omega
                  have k4 : (t : Int) + 1 ≤ 9 := by omega
                  rcases hD with hD1 | ⟨hD1, hD2⟩
                  all_goals
                    go_wp2
                    all_goals
                      go_meet
                      exact ⟨rfl, htn, H3, by go_num, by rw [HN'.out]⟩
                · have k4 : ¬ (t : Int) + 1 ≤ 9 := by omega
                  rcases hD with hD1 | ⟨hD1, hD2⟩
                  all_goals
                    go_wp2
                    all_goals
                      go_meet
                      exact ⟨rfl, htn, H3, by go_num, by rw [HN'.out]⟩
          · have htn2 : (n : Int) ≤ (t : Int) + 1 := by omega
            go_wp2
            have h1 := HL.out
            have h2 := HS.out
            have e : readC r = (0, 0, 3) := by unfold readC; simp [h2]; omega
            have hres := EN.out
            rw [e, if_pos (by simp)] at hres
            rw [hres]
            go_returns
            exact ⟨_, rfl, NewB.nil_ _⟩
      case rest =>
        obtain ⟨rfl, hsn, H3, rfl, rfl⟩ := hcut
        have e0 : readC r = if 9 < s + 1 then (0, 0, 4) else if 4611686018427387904 < valB (r.take (s + 1)) then (0, 0, 4) else (valB (r.take (s + 1)), s + 1, 0) := by
          have h1 := HL.out
          have h2 := HS.out
          unfold readC
          simp only [h2]
          rw [if_neg (by omega), if_neg H3.out]
        have hlt2 := valB_lt (r.take (min (s + 1) 9))
        have hlt3 : valB (r.take (min (s + 1) 9)) < 9223372036854775808 := Nat.lt_of_lt_of_le hlt2 (Nat.le_trans (Nat.pow_le_pow_right (by omega) (show (r.take (min (s + 1) 9)).length ≤ 9 by rw [List.length_take]; omega)) (by decide))
        clear hlt2
        by_cases hs9 : 9 < s + 1
        · rw [if_pos hs9] at e0
          have hres := EN.out
          rw [e0, if_pos (by simp)] at hres
          have HRES := Lib.hid hres
          clear hres e0
          have k5 : (10 : Int) < (s : Int) + 2 := by omega
          go_wp2
          rw [HRES.out]
          go_returns
          exact ⟨_, rfl, NewB.nil_ _⟩
        · rw [if_neg hs9] at e0
          have k5 : ¬ (10 : Int) < (s : Int) + 2 := by omega
          rw [show min (s + 1) 9 = s + 1 from by omega] at hlt3 ⊢
          obtain ⟨m, hm0⟩ : ∃ m, valB (r.take (s + 1)) = m := ⟨_, rfl⟩
          rw [hm0] at hlt3 e0 ⊢
          clear hm0
          by_cases hm : 4194304 < m
          · have hres : res = (0, [], 0, 4) := by
              have hres := EN.out
              by_cases hm2 : 4611686018427387904 < m
              · rw [if_pos hm2] at e0
                rw [e0, if_pos (by simp)] at hres
                exact hres
              · rw [if_neg hm2] at e0
                rw [e0, if_neg (by simp), if_pos hm] at hres
                exact hres
            have HRES := Lib.hid hres
            clear hres e0
            have hm3 : (4194304 : Int) < (m : Int) := by omega
            go_wp2
            rw [HRES.out]
            go_returns
            exact ⟨_, rfl, NewB.nil_ _⟩
          · rw [if_neg (by omega)] at e0
            have hres := EN.out
            rw [e0, if_neg (by simp), if_neg hm] at hres
            simp only [] at hres
            have hm3 : ¬ (4194304 : Int) < (m : Int) := by omega
            obtain ⟨E, hE⟩ : ∃ E, E = s + 2 + m := ⟨_, rfl⟩
            have HE := Lib.hid hE
            have hw2 : (s : Int) + 2 + (m : Int) = (E : Int) := by omega
            have hE2 : E ≤ 4194320 := by omega
            clear hE e0
            by_cases hsh : n < E + 8
            · have hsh2 : (n : Int) < (E : Int) + 8 := by omega
              rw [if_pos (by have := HL.out; have := HE.out; omega)] at hres
              have HRES := Lib.hid hres
              clear hres
              go_wp2
              rw [HRES.out]
              go_returns
              exact ⟨_, rfl, NewB.nil_ _⟩
            · have hsh2 : ¬ (n : Int) < (E : Int) + 8 := by omega
              rw [if_neg (by have := HL.out; have := HE.out; omega)] at hres
              have HRES := Lib.hid hres
              clear hres
              have hr8 := Reads.part h c E 8 (by omega) (by omega)
              rw [Nat.mul_one, Nat.mul_one, ← List.map_drop, ← List.map_take] at hr8
              have hrE := Reads.front h (k := E) (by omega)
              rw [Nat.mul_one, ← List.map_take] at hrE
              obtain ⟨l8, hl8⟩ : ∃ l8, (List.drop E (b :: r)).take 8 = l8 := ⟨_, rfl⟩
              rw [hl8] at hr8
              have hlen8 := hr8.lenf
              have HL8 := Lib.hid hl8
              have HLEN8 := Lib.hid hlen8
              clear hl8 hlen8
              go_wp2_with fail
              go_loop [10, 11] (fun hh i => ∃ k : Nat, k ≤ 8 ∧ i = .int .i64 ((E : Int) + (k : Int)) ∧ hh = .int .u64 ((beVal (l8.take k) : Nat) : Int)) (fun _ i => E + 8 - (intOf i).toNat)
              case atStart => exact ⟨0, by omega, by go_num, rfl⟩
              case round =>
                obtain ⟨k, hk, rfl, rfl⟩ := hrel
                by_cases hk8 : k < 8
                · obtain ⟨ad2, x, hA2, hb2, hx2, hc3⟩ := h.at_ (show E + k < n by omega)
                  injection hA2 with hA2
                  subst hA2
                  have hx3 : l8[k]? = some x := by
                    rw [← HL8.out, List.getElem?_take, if_pos hk8, List.getElem?_drop]
                    exact hx2
                  have hlt := beVal_lt (l8.take k)
                  have hlt2 : beVal (l8.take k) < 72057594037927936 := Nat.lt_of_lt_of_le hlt (Nat.le_trans (Nat.pow_le_pow_right (by omega) (show (l8.take k).length ≤ 7 by rw [List.length_take]; omega)) (by decide))
                  have HT := Lib.hid (beVal_take l8 k x hx3)
                  clear hlt hx2 hx3
                  generalize beVal (l8.take k) = s' at *
                  have e1 := or_u64_byte s' x hlt2
                  have e2 := wrap_u64_byte x
                  have hc4 : wc.cell? (ad.add (E + k)) = some (.int .u8 (x.toNat : Int)) := hc3
                  have k6 : ((E : Int) + (k : Int)).toNat = E + k := by omega
                  have k7 : (E : Int) + (k : Int) < (n : Int) := by omega
                  have k8 : (0 : Int) ≤ (E : Int) + (k : Int) := by omega
                  have k9 : (E : Int) + (k : Int) < (E : Int) + 8 := by omega
                  clear hc3
                  go_wp2
                  refine ⟨⟨k + 1, by omega, by go_num, ?_⟩, by simp [intOf]; omega⟩
                  rw [HT.out]
                  exact congrArg (Value.int IntKind.u64) (by omega)
                · obtain rfl : k = 8 := by omega
                  rw [List.take_of_length_le (by rw [HLEN8.out]; omega)]
                  go_wp2_with fail
                  refine (ref_sum _ _ _ _ _ _ hrE (by omega)).mono ?_
                  rintro e' w1 ⟨rfl, rfl⟩
                  have hfE : (b :: r).take E = b :: r.take (s + 1 + m) := by
                    rw [HE.out, show s + 2 + m = (s + 1 + m) + 1 from by omega, List.take_succ_cons]
                  have hl8 := HL8.out
                  rw [HE.out, show s + 2 + m = (s + 1 + m) + 1 from by omega, List.drop_succ_cons] at hl8
                  have hres := HRES.out
                  rw [hl8, ← hfE] at hres
                  have HRES2 := Lib.hid hres
                  clear hres hl8 hfE
                  generalize hfe : fnv ((b :: r).take E) = fe at *
                  by_cases hq : beVal l8 = fe
                  · have hq2 : (((beVal l8 : Nat) : Int) != (fe : Int)) = false := by simp [hq]
                    have HQ := Lib.hid hq
                    clear hq
                    have hrX := Reads.part h c (s + 2) m (by omega) (by omega)
                    rw [Nat.mul_one, Nat.mul_one, ← List.map_drop, ← List.map_take] at hrX
                    have hs3 : ∀ w, (Instr.slice 29 (.slice (some ad) n c) (some (.int .i64 ((s : Int) + 2))) (some (.int .i64 (E : Int))) none).run Try.prog w = .ok (.slice (cutA (some ad) c (s + 2) 1) m (c - (s + 2))) w := fun w => by
                      have := run_cut2 Try.underlying29 Try.infoU8 (some ad) n c .i64 .i64 ((s : Int) + 2) (E : Int) (by omega) (by omega) (by omega) w
                      rw [this, show ((s : Int) + 2).toNat = s + 2 from by omega, show (E : Int).toNat - (s + 2) = m from by omega]
                    have ho : Own ((wc.alloc (.cells #[] 5)).drew) 5 u8v (.slice (some ⟨wc.heap.size, 0, none⟩) 0 0) [] := Own.lit wc 5 u8v [] (by unfold maxLen; simp)
                    have hrX2 := Reads.drew (Reads.alloc hrX hB (.cells #[] 5))
                    have hn1 : 0 < n := by omega
                    have hcA : (wc.alloc (.cells #[] 5)).cell? ad = some (.int .u8 (b.toNat : Int)) := (World.cell?_alloc_lt wc _ ad (by omega)).trans hcell
                    have hwm : IntKind.i64.wrap (m : Int) = (m : Int) := IntWalk.i64_in _ (by omega)
                    have hwE : IntKind.i64.wrap (E : Int) = (E : Int) := IntWalk.i64_in _ (by omega)
                    go_wp2_with fail
                    go_region_law (refine stepN Try.eltU8 rfl (.tmp 90) (.tmp 97) rfl ((wc.alloc (.cells #[] 5)).drew) _ [] B _ m (c - (s + 2)) _ (by simp [Act.eval, Act.put]) ho (by simp [Act.eval, Act.put]) hrX2 u8v_one (by unfold maxLen; simp; omega) (by simp; omega) ?_; intro v5 w5 ho5 hg5; have hB5 := belowA hg5; have hcell5 : w5.cell? ad = some (Value.int IntKind.u8 ↑b.toNat) := (hB5.cell (Nat.lt_of_lt_of_le hb hB)).trans hcell)
                    all_goals
                      go_wp2
                      have hres := HRES2.out
                      rw [if_neg (by simpa using HQ.out)] at hres
                      rw [hres]
                      have hX : ((b :: r).drop (s + 2)).take m = (r.drop (s + 1)).take m := by
                        rw [List.drop_succ_cons]
                      rw [List.nil_append, hX] at ho5
                      have hfin : NewB wc w5 v5 ((r.drop (s + 1)).take m) := ⟨ho5, hB5, freshA hg5⟩
                      have hEE := HE.out
                      go_returns
                      have hwb : IntKind.i64.wrap (b.toNat : Int) = (b.toNat : Int) := IntWalk.i64_in _ (by have := b.toNat_lt; omega)
                      refine ⟨v5, ?_, hfin⟩
                      show Ending.returned (Value.tuple #[.int .i64 (IntKind.i64.wrap (b.toNat : Int)), v5, .int .i64 ((E : Int) + 8), .int .i64 0]) = _
                      rw [hwb, show (E : Int) + 8 = ((1 + (s + 1) + m + 8 : Nat) : Int) from by omega]
                      rfl
                  · have hq2 : (((beVal l8 : Nat) : Int) != (fe : Int)) = true := by simp [hq]; omega
                    have HQ := Lib.hid hq
                    clear hq
                    go_wp2
                    have hres := HRES2.out
                    rw [if_pos HQ.out] at hres
                    rw [hres]
                    go_returns
                    exact ⟨_, rfl, NewB.nil_ _⟩
end Go.Proofs.Ytjmbpnogicdkgaa
