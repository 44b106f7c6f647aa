import Derived.Test.YtecnjlcfoobepaaGreatDoorNatB
import Derived.Test.YtecnjlcfoobepaaGreatDoorNatC
namespace Go.Proofs.YtecnjlcfoobepaaGreatDoor
set_option maxRecDepth 100000
set_option maxHeartbeats 1000000
open Go.RowKit
set_option linter.unusedSimpArgs false
set_option linter.unusedVariables false
def SubRel (W : World) (gX cX n : Nat) (AY : Option Addr) (lY : List Nat) (s i : Nat) (c : Nat) (wr : World) : Prop :=
 ∃ l : List Nat, l.length = n /\ Own wr 50 u64v (.slice (some ⟨gX, 0, none⟩) l.length cX) l /\ Dig 18446744073709551616 l /\ dv 18446744073709551616 l + dv 18446744073709551616 (lY.take i) = s + c * 18446744073709551616 ^ i /\ Reads wr wr.heap.size 1 AY lY.length (lY.map u64v) /\ Below W.heap.size W wr
def subV (a b : Nat) : Value := if a < b then .tuple #[natV 0, .bool false] else .tuple #[natV (a - b), .bool true]
theorem nat_sub (a b : Nat) (w : World) (ha : blen a <= 1099511627776) (hb : blen b <= 1099511627776) : Calls Tryz.prog 173 #[natV a, natV b] w (Ret (subV a b) w) := by
 have hwa := words_len_b a ha
 have hwb := words_len_b b hb
 unfold subV
 by_cases hlt : a < b
 ·rw [if_pos hlt, natV_zero]
  have e := cmpI_lt hlt
  unfold natV
  have b0 := ((Blk.new w  52 #[.int .u64 (lo a : Int), .string (mo a)]).alloc (.cells #[.int .u64 (lo b : Int), .string (mo b)] 52)).alloc (.cells #[.int .u64 0, .string ⟨#[]⟩] 52); have b1 := (Blk.new2 w (.cells #[.int .u64 (lo a : Int), .string (mo a)] 52) 52 #[.int .u64 (lo b : Int), .string (mo b)]).alloc (.cells #[.int .u64 0, .string ⟨#[]⟩] 52); have b2 := Blk.new3 w (.cells #[.int .u64 (lo a : Int), .string (mo a)] 52) (.cells #[.int .u64 (lo b : Int), .string (mo b)] 52) 52 #[.int .u64 0, .string ⟨#[]⟩]; have hB := balloc3 w (.cells #[.int .u64 (lo a : Int), .string (mo a)] 52) (.cells #[.int .u64 (lo b : Int), .string (mo b)] 52) (.cells #[.int .u64 0, .string ⟨#[]⟩] 52); have hZ := lh (show (((w.alloc (.cells #[.int .u64 (lo a : Int), .string (mo a)] 52)).alloc (.cells #[.int .u64 (lo b : Int), .string (mo b)] 52)).alloc (.cells #[.int .u64 0, .string ⟨#[]⟩] 52)).heap.size = w.heap.size + 1 + 1 + 1 from by simp)
  go_enter Tryz.func173, Tryz.ntmps173
  go_wp2_with fail
  generalize (((w.alloc (.cells #[.int .u64 (lo a : Int), .string (mo a)] 52)).alloc (.cells #[.int .u64 (lo b : Int), .string (mo b)] 52)).alloc (.cells #[.int .u64 0, .string ⟨#[]⟩] 52)) = W at *
  refine (nat_cmp a b W (by omega) (by omega)).mono ?_
  rintro e1 w1 ⟨rfl, hb1⟩
  rw [e]
  have hB1 := bthen hB hb1
  (try clear b2q0 b2q1 b2f0 b2f1 b2s0 b2s1); have b2 := b2.below hb1 b2.lt; obtain ⟨b2q0, b2q1, b2f0, b2f1, b2s0, b2s1⟩ := b2.f2
  clear e b0 b1 hlt
  go_wp2
  refine bodyPost_ret (v := .tuple #[.agg #[.int .u64 0, .string ⟨#[]⟩], .bool false]) (by simp [results, Tryz.results173, go_sem, b2s0, b2s1]) rfl ?_
  exact ⟨rfl, bset2 hB1 (by omega) _ _⟩
 rw [if_neg hlt]
 have hc0 : ¬ cmpI a b < 0 := by
  unfold cmpI
  rw [if_neg hlt]
  split <;> omega
 obtain ⟨cv, hcv⟩ : ∃ cv, cmpI a b = cv := ⟨_, rfl⟩
 rw [hcv] at hc0
 by_cases has : a < 18446744073709551616
 ·have hbs : b < 18446744073709551616 := by omega
  have e2 : natV (a - b) = .agg #[.int .u64 ((a : Int) - (b : Int)), .string ⟨#[]⟩] := by
   unfold natV
   rw [lo_small (a - b) (by omega), mo_small (a - b) (by omega)]
   congr 4
   omega
  rw [e2]
  have k1 : (0 : Int) <= (a : Int) - (b : Int) := by omega
  have k2 : (a : Int) - (b : Int) <= 18446744073709551615 := by omega
  have k3 : IntKind.u64.wrap ((a : Int) - (b : Int)) = (a : Int) - (b : Int) := by
   simp only [IntKind.wrap, IntKind.bits, IntKind.signed]
   simp
   omega
  have hm := mo_empty a has
  have hl1 := lh (lo_small a has)
  have hl2 := lh (lo_small b hbs)
  obtain ⟨hm1, hm2⟩ := hm
  unfold natV
  have b0 := ((Blk.new w  52 #[.int .u64 (lo a : Int), .string (mo a)]).alloc (.cells #[.int .u64 (lo b : Int), .string (mo b)] 52)).alloc (.cells #[.int .u64 0, .string ⟨#[]⟩] 52); have b1 := (Blk.new2 w (.cells #[.int .u64 (lo a : Int), .string (mo a)] 52) 52 #[.int .u64 (lo b : Int), .string (mo b)]).alloc (.cells #[.int .u64 0, .string ⟨#[]⟩] 52); have b2 := Blk.new3 w (.cells #[.int .u64 (lo a : Int), .string (mo a)] 52) (.cells #[.int .u64 (lo b : Int), .string (mo b)] 52) 52 #[.int .u64 0, .string ⟨#[]⟩]; have hB := balloc3 w (.cells #[.int .u64 (lo a : Int), .string (mo a)] 52) (.cells #[.int .u64 (lo b : Int), .string (mo b)] 52) (.cells #[.int .u64 0, .string ⟨#[]⟩] 52); have hZ := lh (show (((w.alloc (.cells #[.int .u64 (lo a : Int), .string (mo a)] 52)).alloc (.cells #[.int .u64 (lo b : Int), .string (mo b)] 52)).alloc (.cells #[.int .u64 0, .string ⟨#[]⟩] 52)).heap.size = w.heap.size + 1 + 1 + 1 from by simp)
  have HCV := lh hcv
  clear hcv hlt e2
  go_enter Tryz.func173, Tryz.ntmps173
  go_wp2_with fail
  generalize (((w.alloc (.cells #[.int .u64 (lo a : Int), .string (mo a)] 52)).alloc (.cells #[.int .u64 (lo b : Int), .string (mo b)] 52)).alloc (.cells #[.int .u64 0, .string ⟨#[]⟩] 52)) = W at *
  refine (nat_cmp a b W (by omega) (by omega)).mono ?_
  rintro e1 w1 ⟨rfl, hb1⟩
  rw [HCV.out]
  have hB1 := bthen hB hb1
  (try clear b0q0 b0q1); have b0 := b0.below hb1 b0.lt; obtain ⟨b0q0, b0q1⟩ := b0.c2; (try clear b1q0 b1q1); have b1 := b1.below hb1 b1.lt; obtain ⟨b1q0, b1q1⟩ := b1.c2
  (try clear b2q0 b2q1 b2f0 b2f1 b2s0 b2s1); have b2 := b2.below hb1 b2.lt; obtain ⟨b2q0, b2q1, b2f0, b2f1, b2s0, b2s1⟩ := b2.f2
  rw [hl1.out] at b0q0
  rw [hl2.out] at b1q0
  clear hl1 hl2
  go_wp2
  refine bodyPost_ret (v := .tuple #[.agg #[.int .u64 ((a : Int) - (b : Int)), .string ⟨#[]⟩], .bool true]) (by simp [results, Tryz.results173, go_sem, b2s0, b2s1]) rfl ?_
  exact ⟨rfl, bset2 hB1 (by omega) _ _⟩
 obtain ⟨hm1, hm2⟩ := mo_full a has
 unfold natV
 have b0 := ((Blk.new w  52 #[.int .u64 (lo a : Int), .string (mo a)]).alloc (.cells #[.int .u64 (lo b : Int), .string (mo b)] 52)).alloc (.cells #[.int .u64 0, .string ⟨#[]⟩] 52); have b1 := (Blk.new2 w (.cells #[.int .u64 (lo a : Int), .string (mo a)] 52) 52 #[.int .u64 (lo b : Int), .string (mo b)]).alloc (.cells #[.int .u64 0, .string ⟨#[]⟩] 52); have b2 := Blk.new3 w (.cells #[.int .u64 (lo a : Int), .string (mo a)] 52) (.cells #[.int .u64 (lo b : Int), .string (mo b)] 52) 52 #[.int .u64 0, .string ⟨#[]⟩]; have hB := balloc3 w (.cells #[.int .u64 (lo a : Int), .string (mo a)] 52) (.cells #[.int .u64 (lo b : Int), .string (mo b)] 52) (.cells #[.int .u64 0, .string ⟨#[]⟩] 52); have hZ := lh (show (((w.alloc (.cells #[.int .u64 (lo a : Int), .string (mo a)] 52)).alloc (.cells #[.int .u64 (lo b : Int), .string (mo b)] 52)).alloc (.cells #[.int .u64 0, .string ⟨#[]⟩] 52)).heap.size = w.heap.size + 1 + 1 + 1 from by simp)
 have HCV := lh hcv
 clear hcv
 go_enter Tryz.func173, Tryz.ntmps173
 go_wp2_with fail
 generalize (((w.alloc (.cells #[.int .u64 (lo a : Int), .string (mo a)] 52)).alloc (.cells #[.int .u64 (lo b : Int), .string (mo b)] 52)).alloc (.cells #[.int .u64 0, .string ⟨#[]⟩] 52)) = W at *
 refine (nat_cmp a b W (by omega) (by omega)).mono ?_
 rintro e1 w1 ⟨rfl, hb1⟩
 rw [HCV.out]
 have hB1 := bthen hB hb1
 (try clear b0q0 b0q1); have b0 := b0.below hb1 b0.lt; obtain ⟨b0q0, b0q1⟩ := b0.c2; (try clear b1q0 b1q1); have b1 := b1.below hb1 b1.lt; obtain ⟨b1q0, b1q1⟩ := b1.c2
 have b2 := b2.below hb1 b2.lt
 have hz1 := hb1.size
 go_upto_region 5 with fail
 go_cut [6, 7] (fun v7 v8 wc => Two w1 (words a) (words b) v7 v8 wc)
 case first =>
  have c0 := b0.drew
  have c1 := b1.drew
  go_region_held3 (fun w' => w'.cell? ⟨w.heap.size, 0, none⟩ = some (.int .u64 (lo a : Int)) /\ w'.cell? ⟨w.heap.size, 1, none⟩ = some (.string (mo a)) /\ w'.cell? ⟨w.heap.size + 1, 0, none⟩ = some (.int .u64 (lo b : Int)) /\ w'.cell? ⟨w.heap.size + 1, 1, none⟩ = some (.string (mo b))) (go_keep) (first | (go_at_call_of 122 (Value.agg #[.int .u64 (lo a : Int), .string (mo a)]); refine (nat_words a _ (by omega) (by omega)).mono ?_; rintro e wa ⟨va, rfl, hna⟩; have hba := hna.2.1; (try clear c0q0 c0q1); have c0 := c0.below hba c0.lt; obtain ⟨c0q0, c0q1⟩ := c0.c2; (try clear c1q0 c1q1); have c1 := c1.below hba c1.lt; obtain ⟨c1q0, c1q1⟩ := c1.c2) | (go_at_call_of 122 (Value.agg #[.int .u64 (lo b : Int), .string (mo b)]); refine (nat_words b _ (by omega) (by omega)).mono ?_; rintro e wb ⟨vb, rfl, hnb⟩; have hbb := hnb.2.1; (try clear c0q0 c0q1); have c0 := c0.below hbb c0.lt; obtain ⟨c0q0, c0q1⟩ := c0.c2; (try clear c1q0 c1q1); have c1 := c1.below hbb c1.lt; obtain ⟨c1q0, c1q1⟩ := c1.c2))
  all_goals
   go_wp2_with fail
   go_meet
   first | exact Two.ab hna hnb | exact Two.ba hnb hna
 case rest =>
  have hlen : (words b).length <= (words a).length := by
   rcases Nat.lt_or_ge (words a).length (words b).length with h | h
   ·have := words_longer h
    omega
   exact h
  have hxy : XY w1 (a + b) u6 u7 wc := XY.of hcut hlen (words_len_pos a (by omega)) hwa (words_dig a) (words_dig b) (by rw [dv_words, dv_words])
  obtain ⟨hT1, hT2, hT3, hT4, hT5, hT6⟩ := hcut
  obtain ⟨A7, c7, rfl, hcX, _⟩ := hT1.form
  obtain ⟨AY, cY, rfl, _, _⟩ := hT2.form
  obtain ⟨gX, rfl⟩ := hT1.addr (words_len_pos a (by omega))
  have hgX := hT4 gX rfl
  have hrY := Own.reads hT2
  have hne : ∀ ad, AY = some ad -> ad.block ≠ gX := fun ad he e => hT6 gX rfl (by rw [he, <- e]; rfl)
  have hdX := words_dig a
  have hdY := words_dig b
  have hva := dv_words a
  have hvb := dv_words b
  clear hxy hT2 hT4 hT5 hT6 b0 b1 b0q0 b0q1 b1q0 b1q1
  generalize words a = lX at *
  generalize words b = lY at *
  obtain ⟨p, hp⟩ : ∃ p, lX.length = p := ⟨_, rfl⟩
  obtain ⟨q, hq⟩ : ∃ q, lY.length = q := ⟨_, rfl⟩
  rw [hp, hq] at hlen
  rw [hp] at hwa hcX
  rw [hp, hq]
  have HP := lh (And.intro hp hq)
  have HV := lh (And.intro hva hvb)
  clear hva hvb hwb
  go_wp2_with fail
  go_loopw [8, 31] (fun c i wr => ∃ k c' : Nat, k <= p /\ c' <= 1 /\ i = .int .i64 k /\ c = .int .u64 c' /\ SubRel w1 gX c7 p AY lY a k c' wr) (fun _ i _ => p - (intOf i).toNat)
  case atStart => exact ⟨0, 0, Nat.zero_le _, Nat.zero_le _, rfl, rfl, lX, hp, hT1, hdX, by simp [dv]; exact HV.out.1, hrY, hT3⟩
  case round =>
   obtain ⟨k, c', hk, hc', rfl, rfl, l, hl, ho, hd, hdv, hr, hb2⟩ := hrel
   clear hp hq hT1 hrY hT3 hdX
   have HL := lh hl
   have HDV := lh hdv
   have hr2 := hr
   rw [HP.out.2] at hr2
   clear hl hdv
   by_cases hlt2 : k < p
   ·obtain ⟨x, hx⟩ : ∃ x, l[k]? = some x := ⟨_, List.getElem?_eq_getElem (by rw [HL.out]; exact hlt2)⟩
    have hcx := ho.cellf hx
    have hfx := ho.frozenf k
    unfold u64v at hcx
    have hk2 : (k : Int) < (p : Int) := by omega
    obtain ⟨y, hy1, hy2⟩ : ∃ y : Nat, (lY[k]? = some y \/ (q <= k /\ y = 0)) /\ y < 18446744073709551616 := by
     by_cases hkq : k < q
     ·obtain ⟨y, hy⟩ : ∃ y, lY[k]? = some y := ⟨_, List.getElem?_eq_getElem (by rw [HP.out.2]; exact hkq)⟩
      exact ⟨y, .inl hy, hdY.get hy⟩
     exact ⟨0, .inr ⟨by omega, rfl⟩, by omega⟩
    have hxl := hd.get hx
    obtain ⟨S, hS⟩ : ∃ S, (x + 18446744073709551616 - y - c') % 18446744073709551616 = S := ⟨_, rfl⟩
    obtain ⟨C, hC⟩ : ∃ C, (if x < y + c' then 1 else 0) = C := ⟨_, rfl⟩
    have hSl : S < 18446744073709551616 := by omega
    have hC1 : C <= 1 := by rw [<- hC]; split <;> omega
    have hSC : S + y + c' = x + 18446744073709551616 * C := by
     rw [<- hC]
     split <;> omega
    have hsub : ∀ w, (callFunc 166 #[.int .u64 (x : Int), .int .u64 (y : Int), .int .u64 (c' : Int)]).run Tryz.prog w = .ok (.value (.tuple #[.int .u64 (S : Int), .int .u64 (C : Int)])) w := fun w => by
     have := run_sub x y c' hc' w
     rw [hS, hC] at this
     exact this
    have htk : dv 18446744073709551616 (lY.take (k + 1)) = dv 18446744073709551616 (lY.take k) + y * 18446744073709551616 ^ k := by
     rcases hy1 with hy1 | ⟨hy1, rfl⟩
     ·exact dv_take_succ hy1
     rw [dv_take_out (by rw [HP.out.2]; omega), dv_take_out (by rw [HP.out.2]; omega)]
     omega
    have hnew := sub_step (s := S) (c' := C) (b := y) hx hSC HDV.out
    rw [<- htk] at hnew
    have hst := ho.store k S
    have hrf : Reads (wr.setCell ⟨gX, k, none⟩ (u64v S)) wr.heap.size 1 AY lY.length (lY.map u64v) := Reads.setFar hr (fun ad he => hne ad he) _
    have hbf := hb2.setCell (p := ⟨gX, k, none⟩) hgX (u64v S)
    have hfin : SubRel w1 gX c7 p AY lY a (k + 1) C (wr.setCell ⟨gX, k, none⟩ (u64v S)) := by
     refine ⟨l.set k S, by rw [List.length_set]; exact HL.out, ?_, hd.set_ k hSl, hnew, ?_, hbf⟩
     ·rw [List.length_set]; exact hst
     rw [World.size_setCell]; exact hrf
    have HFIN := lh hfin
    clear hS hC hx htk hnew hst hrf hbf hfin ho hd hb2 hr hSC
    rcases hy1 with hy1 | ⟨hy1, rfl⟩
    ·have hkq : k < q := by rw [<- HP.out.2]; exact (List.getElem?_eq_some_iff.1 hy1).1
     obtain ⟨ad, y', hAY, _, hy', hcy⟩ := hr2.atf hkq
     rw [hy1] at hy'
     obtain rfl : y = y' := by simpa using hy'
     have hkq2 : (k : Int) < (q : Int) := by omega
     unfold u64v at hcy
     clear hy' hy1 hr2
     subst hAY
     go_wp2
     exact ⟨⟨k + 1, C, by omega, hC1, by go_num, rfl, HFIN.out⟩, by simp [intOf]; omega⟩
    have hkq2 : ¬ (k : Int) < (q : Int) := by omega
    have hsub0 : ∀ w, (callFunc 166 #[.int .u64 (x : Int), .int .u64 0, .int .u64 (c' : Int)]).run Tryz.prog w = .ok (.value (.tuple #[.int .u64 (S : Int), .int .u64 (C : Int)])) w := hsub
    clear hr2 hsub
    go_wp2
    exact ⟨⟨k + 1, C, by omega, hC1, by go_num, rfl, HFIN.out⟩, by simp [intOf]; omega⟩
   obtain rfl : k = p := by omega
   have hk2 : ¬ (k : Int) < (k : Int) := by omega
   have hfull := HDV.out
   rw [dv_take_out (by rw [HP.out.2]; omega), HV.out.2] at hfull
   have b2 := b2.below hb2 b2.lt
   have hB2 := bthen hB1 hb2
   have hlt3 := dv_lt hd
   rw [HL.out] at hlt3
   have hc0' : c' = 0 := by
    rcases Nat.lt_or_ge c' 1 with h | h
    ·omega
    obtain rfl : c' = 1 := by omega
    omega
   subst hc0'
   rw [HL.out] at ho
   have hrd := Own.reads ho
   rw [HL.out] at hrd
   have e : dv 18446744073709551616 l = a - b := by omega
   have HE := lh e
   clear hfull hr hr2 hb2 ho e
   go_wp2_with fail
   refine (nat_fromWords _ k c7 _ l wr hrd zd hd (by omega) (by omega)).mono ?_
   rintro e w4 ⟨rfl, hb4⟩
   rw [HE.out]
   have hB4 := bthen hB2 hb4
   (try clear b2q0 b2q1 b2f0 b2f1 b2s0 b2s1); have b2 := b2.below hb4 b2.lt; obtain ⟨b2q0, b2q1, b2f0, b2f1, b2s0, b2s1⟩ := b2.f2
   clear hrd
   unfold natV
   generalize a - b = N at *
   go_wp2
   refine bodyPost_ret (v := .tuple #[.agg #[.int .u64 (lo N : Int), .string (mo N)], .bool true]) (by simp [results, Tryz.results173, go_sem, b2s0, b2s1]) rfl ?_
   exact ⟨rfl, bset2 hB4 (by omega) _ _⟩
end Go.Proofs.YtecnjlcfoobepaaGreatDoor
