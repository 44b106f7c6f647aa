import Derived.Test.YtecnjlcfoobepaaGreatDoorNatB
namespace Go.Proofs.YtecnjlcfoobepaaGreatDoor
set_option maxRecDepth 100000
set_option maxHeartbeats 400000
open Go.RowKit
set_option linter.unusedSimpArgs false
set_option linter.unusedVariables false
theorem nat_add_small (a b : Nat) (w : World) (ha : a < 18446744073709551616) (hb : b < 18446744073709551616) : Calls Tryz.prog 172 #[natV a, natV b] w (Ret (natV (a + b)) w) := by
 unfold natV
 rw [mo_small a ha, lo_small a ha, mo_small b hb, lo_small b hb]
 obtain ⟨S, hS⟩ : ∃ S, (a + b) % 18446744073709551616 = S := ⟨_, rfl⟩
 obtain ⟨C, hC⟩ : ∃ C, (a + b) / 18446744073709551616 = C := ⟨_, rfl⟩
 have hadd : ∀ w, (callFunc 155 #[.int .u64 (a : Int), .int .u64 (b : Int), .int .u64 0]).run Tryz.prog w = .ok (.value (.tuple #[.int .u64 (S : Int), .int .u64 (C : Int)])) w := fun w => by
  have := run_add a b 0 (by omega) w
  rw [Nat.add_zero, hS, hC] at this
  exact this
 have HSC := lh (And.intro hS hC)
 have hSb : S < 18446744073709551616 := by omega
 have hC1 : C <= 1 := by omega
 clear hS hC
 have b0 := ((Blk.new w  52 #[.int .u64 (lo a : Int), .string (mo a)]).alloc (.cells #[.int .u64 (lo b : Int), .string (mo b)] 52)).alloc (.cells #[.int .u64 0, .string ⟨#[]⟩] 52); have b1 := (Blk.new2 w (.cells #[.int .u64 (lo a : Int), .string (mo a)] 52) 52 #[.int .u64 (lo b : Int), .string (mo b)]).alloc (.cells #[.int .u64 0, .string ⟨#[]⟩] 52); have b2 := Blk.new3 w (.cells #[.int .u64 (lo a : Int), .string (mo a)] 52) (.cells #[.int .u64 (lo b : Int), .string (mo b)] 52) 52 #[.int .u64 0, .string ⟨#[]⟩]; have hB := balloc3 w (.cells #[.int .u64 (lo a : Int), .string (mo a)] 52) (.cells #[.int .u64 (lo b : Int), .string (mo b)] 52) (.cells #[.int .u64 0, .string ⟨#[]⟩] 52); have hZ := lh (show (((w.alloc (.cells #[.int .u64 (lo a : Int), .string (mo a)] 52)).alloc (.cells #[.int .u64 (lo b : Int), .string (mo b)] 52)).alloc (.cells #[.int .u64 0, .string ⟨#[]⟩] 52)).heap.size = w.heap.size + 1 + 1 + 1 from by simp)
 rw [mo_small a ha, lo_small a ha, mo_small b hb, lo_small b hb] at b0 b1 b2 hB hZ
 by_cases hC0 : C = 0
 ·subst hC0
  have e : a + b = S := by have := HSC.out; omega
  rw [e, mo_small S hSb, lo_small S hSb]
  clear e
  go_enter Tryz.func172, Tryz.ntmps172
  go_wp2
  go_returns
  exact ⟨rfl, by go_grown⟩
 have hC2 : ((C : Int) == 0) = false := by simp; omega
 go_enter Tryz.func172, Tryz.ntmps172
 go_wp2_with fail
 generalize ((w.alloc (.cells #[.int .u64 (a : Int), .string ⟨#[]⟩] 52)).alloc (.cells #[.int .u64 (b : Int), .string ⟨#[]⟩] 52)).alloc (.cells #[.int .u64 0, .string ⟨#[]⟩] 52) = W at *
 have hrow := (Row.new W 50 u64v [S, C]).reads
 rw [hZ.out] at hrow
 refine (nat_fromWords _ 2 2 _ [S, C] _ hrow (by simp; have := hZ.out; omega) (Dig.cons hSb (Dig.cons (by omega) Dig.nil)) (by omega) (by omega)).mono ?_
 rintro e w1 ⟨rfl, hb1⟩
 have e : dv 18446744073709551616 [S, C] = a + b := by
  simp only [dv]
  have := HSC.out
  omega
 rw [e]
 have hb1 := bthen (balloc1 W _) hb1
 (try clear b2q0 b2q1 b2f0 b2f1 b2s0 b2s1); have b2 := b2.below hb1 b2.lt; obtain ⟨b2q0, b2q1, b2f0, b2f1, b2s0, b2s1⟩ := b2.f2
 have hB1 := bthen hB hb1
 clear e hrow hadd b0 b1
 unfold natV
 generalize a + b = N at *
 go_wp2
 refine bodyPost_ret (v := .agg #[.int .u64 (lo N : Int), .string (mo N)]) (by simp [results, Tryz.results172, go_sem, b2s0, b2s1]) rfl ?_
 exact ⟨rfl, bset2 hB1 (by omega) _ _⟩
def AddRel (W : World) (gX cX n : Nat) (AY : Option Addr) (lY : List Nat) (s i : Nat) (c : Nat) (wr : World) : Prop :=
 ∃ l : List Nat, l.length = n /\ Own wr 50 u64v (.slice (some ⟨gX, 0, none⟩) l.length cX) l /\ Dig 18446744073709551616 l /\ dv 18446744073709551616 l + c * 18446744073709551616 ^ i = s + dv 18446744073709551616 (lY.take i) /\ Reads wr wr.heap.size 1 AY lY.length (lY.map u64v) /\ Below W.heap.size W wr
theorem nat_add_big (a b : Nat) (w : World) (hab : ¬ (a < 18446744073709551616 /\ b < 18446744073709551616)) (ha : blen a <= 1099511627776) (hb : blen b <= 1099511627776) : Calls Tryz.prog 172 #[natV a, natV b] w (Ret (natV (a + b)) w) := by
 have hwa := words_len_b a ha
 have hwb := words_len_b b hb
 have hc : (¬ (mo a).toList = [] /\ (mo a).toList.isEmpty = false) \/ ((mo a).toList = [] /\ (mo a).toList.isEmpty = true /\ ¬ (mo b).toList = [] /\ (mo b).toList.isEmpty = false) := by
  by_cases h : a < 18446744073709551616
  ·have h1 := mo_empty a h
   exact .inr ⟨h1.1, h1.2, mo_full b (fun h2 => hab ⟨h, h2⟩)⟩
  exact .inl (mo_full a h)
 unfold natV
 have b0 := ((Blk.new w  52 #[.int .u64 (lo a : Int), .string (mo a)]).alloc (.cells #[.int .u64 (lo b : Int), .string (mo b)] 52)).alloc (.cells #[.int .u64 0, .string ⟨#[]⟩] 52); have b1 := (Blk.new2 w (.cells #[.int .u64 (lo a : Int), .string (mo a)] 52) 52 #[.int .u64 (lo b : Int), .string (mo b)]).alloc (.cells #[.int .u64 0, .string ⟨#[]⟩] 52); have b2 := Blk.new3 w (.cells #[.int .u64 (lo a : Int), .string (mo a)] 52) (.cells #[.int .u64 (lo b : Int), .string (mo b)] 52) 52 #[.int .u64 0, .string ⟨#[]⟩]; have hB := balloc3 w (.cells #[.int .u64 (lo a : Int), .string (mo a)] 52) (.cells #[.int .u64 (lo b : Int), .string (mo b)] 52) (.cells #[.int .u64 0, .string ⟨#[]⟩] 52); have hZ := lh (show (((w.alloc (.cells #[.int .u64 (lo a : Int), .string (mo a)] 52)).alloc (.cells #[.int .u64 (lo b : Int), .string (mo b)] 52)).alloc (.cells #[.int .u64 0, .string ⟨#[]⟩] 52)).heap.size = w.heap.size + 1 + 1 + 1 from by simp)
 go_enter Tryz.func172, Tryz.ntmps172
 rcases hc with ⟨hc1, hc2⟩ | ⟨hc1, hc2, hc3, hc4⟩
 all_goals
  go_upto_region 6 with fail
  generalize (((w.alloc (.cells #[.int .u64 (lo a : Int), .string (mo a)] 52)).alloc (.cells #[.int .u64 (lo b : Int), .string (mo b)] 52)).alloc (.cells #[.int .u64 0, .string ⟨#[]⟩] 52)) = W at *
  obtain ⟨b0q0, b0q1⟩ := b0.c2; obtain ⟨b1q0, b1q1⟩ := b1.c2
  go_cut [7, 8] (fun v7 v8 wc => Two W (words a) (words b) v7 v8 wc)
  case first =>
   have c0 := b0.drew
   have c1 := b1.drew
   go_region_held3 (fun w' => w'.cell? ⟨w.heap.size, 0, none⟩ = some (.int .u64 (lo a : Int)) /\ w'.cell? ⟨w.heap.size, 1, none⟩ = some (.string (mo a)) /\ w'.cell? ⟨w.heap.size + 1, 0, none⟩ = some (.int .u64 (lo b : Int)) /\ w'.cell? ⟨w.heap.size + 1, 1, none⟩ = some (.string (mo b))) (go_keep) (first | (go_at_call_of 122 (Value.agg #[.int .u64 (lo a : Int), .string (mo a)]); refine (nat_words a _ (by omega) (by omega)).mono ?_; rintro e wa ⟨va, rfl, hna⟩; have hba := hna.2.1; (try clear c0q0 c0q1); have c0 := c0.below hba c0.lt; obtain ⟨c0q0, c0q1⟩ := c0.c2; (try clear c1q0 c1q1); have c1 := c1.below hba c1.lt; obtain ⟨c1q0, c1q1⟩ := c1.c2) | (go_at_call_of 122 (Value.agg #[.int .u64 (lo b : Int), .string (mo b)]); refine (nat_words b _ (by omega) (by omega)).mono ?_; rintro e wb ⟨vb, rfl, hnb⟩; have hbb := hnb.2.1; (try clear c0q0 c0q1); have c0 := c0.below hbb c0.lt; obtain ⟨c0q0, c0q1⟩ := c0.c2; (try clear c1q0 c1q1); have c1 := c1.below hbb c1.lt; obtain ⟨c1q0, c1q1⟩ := c1.c2))
   all_goals
    go_wp2_with fail
    go_meet
    first | exact Two.ab hna hnb | exact Two.ba hnb hna
  case rest =>
   obtain ⟨A7, c7, rfl, _, _⟩ := hcut.1.form
   obtain ⟨A8, c8, rfl, _, _⟩ := hcut.2.1.form
   clear b0q0 b0q1 b1q0 b1q1 b0 b1 hc1 hc2
   obtain ⟨la, hla⟩ : ∃ la, words a = la := ⟨_, rfl⟩
   obtain ⟨lb, hlb⟩ : ∃ lb, words b = lb := ⟨_, rfl⟩
   have HA := lh (And.intro hla hlb)
   rw [hla, hlb] at hcut
   rw [hla, hlb]
   rw [hla] at hwa
   rw [hlb] at hwb
   clear hla hlb
   obtain ⟨m, hm⟩ : ∃ m, la.length = m := ⟨_, rfl⟩
   obtain ⟨n, hn⟩ : ∃ n, lb.length = n := ⟨_, rfl⟩
   rw [hm, hn] at hcut
   rw [hm] at hwa
   rw [hn] at hwb
   rw [hm, hn]
   have HM := lh (And.intro hm hn)
   clear hm hn
   go_upto_if 44 with fail
   go_cut [7, 8] (fun v7 v8 wc => XY W (a + b) v7 v8 wc)
   case first =>
    have hs : dv 18446744073709551616 la + dv 18446744073709551616 lb = a + b := by rw [<- HA.out.1, <- HA.out.2, dv_words, dv_words]
    have hda : Dig 18446744073709551616 la := by rw [<- HA.out.1]; exact words_dig a
    have hdb : Dig 18446744073709551616 lb := by rw [<- HA.out.2]; exact words_dig b
    have HS := lh hs
    clear hs
    have hpos : 0 < m \/ 0 < n := by
     by_cases h : a = 0
     ·subst h
      refine .inr ?_
      rw [<- HM.out.2, <- HA.out.2]
      exact words_len_pos b (fun h => hab ⟨by omega, by omega⟩)
     refine .inl ?_
     rw [<- HM.out.1, <- HA.out.1]
     exact words_len_pos a h
    by_cases hlt : m < n
    ·have hlt2 : (m : Int) < (n : Int) := by omega
     go_wp2
     go_meet
     exact XY.of hcut.swap (by rw [HM.out.1, HM.out.2]; omega) (by rw [HM.out.2]; omega) (by rw [HM.out.2]; omega) hdb hda (by rw [Nat.add_comm]; exact HS.out)
    have hlt2 : ¬ (m : Int) < (n : Int) := by omega
    go_wp2
    go_meet
    exact XY.of hcut (by rw [HM.out.1, HM.out.2]; omega) (by rw [HM.out.1]; omega) (by rw [HM.out.1]; omega) hda hdb HS.out
   case rest =>
    obtain ⟨gX, cX, lX, AY, cY, lY, rfl, hoX, rfl, hrY, hne, hle, hlb, hdX, hdY, hsum, hbel, hgX⟩ := hcut
    clear hwa hwb HM HA
    obtain ⟨p, hp⟩ : ∃ p, lX.length = p := ⟨_, rfl⟩
    obtain ⟨q, hq⟩ : ∃ q, lY.length = q := ⟨_, rfl⟩
    have hcX : p <= cX := by
     obtain ⟨A, c, hv, h1, _⟩ := hoX.form
     injection hv with _ _ hv
     omega
    rw [hp, hq] at hle
    rw [hp] at hlb
    rw [hp, hq]
    have HP := lh (And.intro hp hq)
    have HSUM := lh hsum
    clear hsum
    go_wp2_with fail
    go_loopw [9, 49] (fun c i wr => ∃ k c' : Nat, k <= p /\ c' <= 1 /\ i = .int .i64 k /\ c = .int .u64 c' /\ AddRel W gX cX p AY lY (dv 18446744073709551616 lX) k c' wr) (fun _ i _ => p - (intOf i).toNat)
    case atStart => exact ⟨0, 0, Nat.zero_le _, Nat.zero_le _, rfl, rfl, lX, hp, hoX, hdX, by simp [dv], hrY, hbel⟩
    case round =>
     obtain ⟨k, c', hk, hc', rfl, rfl, l, hl, ho, hd, hdv, hr, hb2⟩ := hrel
     clear hp hq hoX hrY hbel hdX
     have HL := lh hl
     have HDV := lh hdv
     have hr2 := hr
     rw [HP.out.2] at hr2
     clear hl hdv
     by_cases hlt : k < p
     ·obtain ⟨x, hx⟩ : ∃ x, l[k]? = some x := ⟨_, List.getElem?_eq_getElem (by rw [HL.out]; exact hlt)⟩
      have hcx := ho.cellf hx
      have hfx := ho.frozenf k
      unfold u64v at hcx
      have hk2 : (k : Int) < (p : Int) := by omega
      obtain ⟨y, hy1, hy2⟩ : ∃ y : Nat, (lY[k]? = some y \/ (q <= k /\ y = 0)) /\ y < 18446744073709551616 := by
       by_cases hkq : k < q
       ·obtain ⟨y, hy⟩ : ∃ y, lY[k]? = some y := ⟨_, List.getElem?_eq_getElem (by rw [HP.out.2]; exact hkq)⟩
        exact ⟨y, .inl hy, hdY.get hy⟩
       exact ⟨0, .inr ⟨by omega, rfl⟩, by omega⟩
      have hxl := hd.get hx
      obtain ⟨S, hS⟩ : ∃ S, (x + y + c') % 18446744073709551616 = S := ⟨_, rfl⟩
      obtain ⟨C, hC⟩ : ∃ C, (x + y + c') / 18446744073709551616 = C := ⟨_, rfl⟩
      have hSl : S < 18446744073709551616 := by omega
      have hC1 : C <= 1 := by omega
      have hadd : ∀ w, (callFunc 155 #[.int .u64 (x : Int), .int .u64 (y : Int), .int .u64 (c' : Int)]).run Tryz.prog w = .ok (.value (.tuple #[.int .u64 (S : Int), .int .u64 (C : Int)])) w := fun w => by
       have := run_add x y c' hc' w
       rw [hS, hC] at this
       exact this
      have htk : dv 18446744073709551616 (lY.take (k + 1)) = dv 18446744073709551616 (lY.take k) + y * 18446744073709551616 ^ k := by
       rcases hy1 with hy1 | ⟨hy1, rfl⟩
       ·exact dv_take_succ hy1
       rw [dv_take_out (by rw [HP.out.2]; omega), dv_take_out (by rw [HP.out.2]; omega)]
       omega
      have hnew := add_step (s := S) (c' := C) (b := y) hx (by omega) HDV.out
      rw [Nat.add_assoc, <- htk] at hnew
      have hst := ho.store k S
      have hrf : Reads (wr.setCell ⟨gX, k, none⟩ (u64v S)) wr.heap.size 1 AY lY.length (lY.map u64v) := Reads.setFar hr (fun ad he => hne ad he) _
      have hbf := hb2.setCell (p := ⟨gX, k, none⟩) hgX (u64v S)
      have hfin : AddRel W gX cX p AY lY (dv 18446744073709551616 lX) (k + 1) C (wr.setCell ⟨gX, k, none⟩ (u64v S)) := by
       refine ⟨l.set k S, by rw [List.length_set]; exact HL.out, ?_, hd.set_ k hSl, hnew, ?_, hbf⟩
       ·rw [List.length_set]; exact hst
       rw [World.size_setCell]; exact hrf
      have HFIN := lh hfin
      clear hS hC hx htk hnew hst hrf hbf hfin ho hd hb2 hr
      rcases hy1 with hy1 | ⟨hy1, rfl⟩
      ·have hkq : k < q := by rw [<- HP.out.2]; exact (List.getElem?_eq_some_iff.1 hy1).1
       obtain ⟨ad, y', hAY, _, hy', hcy⟩ := hr2.atf hkq
       rw [hy1] at hy'
       obtain rfl : y = y' := by simpa using hy'
       have hkq2 : (k : Int) < (q : Int) := by omega
       unfold u64v at hcy
       clear hy' hy1 hr2
       subst hAY
       go_wp2
       exact ⟨⟨k + 1, C, by omega, hC1, by go_num, rfl, HFIN.out⟩, by simp [intOf]; omega⟩
      have hkq2 : ¬ (k : Int) < (q : Int) := by omega
      have hadd0 : ∀ w, (callFunc 155 #[.int .u64 (x : Int), .int .u64 0, .int .u64 (c' : Int)]).run Tryz.prog w = .ok (.value (.tuple #[.int .u64 (S : Int), .int .u64 (C : Int)])) w := hadd
      clear hr2 hadd
      go_wp2
      exact ⟨⟨k + 1, C, by omega, hC1, by go_num, rfl, HFIN.out⟩, by simp [intOf]; omega⟩
     obtain rfl : k = p := by omega
     have hk2 : ¬ (k : Int) < (k : Int) := by omega
     have hfull := HDV.out
     rw [dv_take_out (by rw [HP.out.2]; omega), HSUM.out] at hfull
     have b2 := b2.below hb2 b2.lt
     have hB2 := bthen hB hb2
     have b2w := hb2.size
     have hll := HL.out
     rw [HL.out] at ho
     have HF := lh hfull
     clear hfull hll hr hr2 hb2
     by_cases hc0 : c' = 0
     ·subst hc0
      have hrd := Own.reads ho
      rw [HL.out] at hrd
      go_wp2_with fail
      refine (nat_fromWords _ k cX _ l wr hrd zd hd (by omega) (by omega)).mono ?_
      rintro e w1 ⟨rfl, hb1⟩
      have e : dv 18446744073709551616 l = a + b := by have := HF.out; omega
      rw [e]
      have hB1 := bthen hB2 hb1
      (try clear b2q0 b2q1 b2f0 b2f1 b2s0 b2s1); have b2 := b2.below hb1 b2.lt; obtain ⟨b2q0, b2q1, b2f0, b2f1, b2s0, b2s1⟩ := b2.f2
      clear e ho hrd
      unfold natV
      generalize a + b = N at *
      go_wp2
      refine bodyPost_ret (v := .agg #[.int .u64 (lo N : Int), .string (mo N)]) (by simp [results, Tryz.results172, go_sem, b2s0, b2s1]) rfl ?_
      exact ⟨rfl, bset2 hB1 (by omega) _ _⟩
     have hc2 : ((c' : Int) != 0) = true := by simp [bne_iff_ne]; omega
     have ho' : Own wr 50 u64v (.slice (some ⟨gX, 0, none⟩) k cX) l := ho
     go_wp2_with (at_builtin; refine app1 Tryz.eltU64 rfl (.tmp 76) (.tmp 78) rfl wr _ l c' _ rfl rfl ho' rfl rfl ?c1 ?c2 ?_)
     case c1 => rw [HL.out]; unfold maxLen; omega
     case c2 => rw [HL.out]; omega
     intro v3 w3 ho3 hg3
     have hbw : W.heap.size <= wr.heap.size := by have := b2w; omega
     have hb3 : Below W.heap.size wr w3 := Grew.below hg3 hbw (fun k' hk' => by simp [Value.ownBlock] at hk'; omega)
     have b2 := b2.below hb3 (by have := hZ.out; omega)
     have hB3 : Below w.heap.size w w3 := hB2.trans (hb3.mono hB.size)
     obtain ⟨A3, c3, hv3, hc3, hc4⟩ := ho3.form
     rw [hv3] at ho3
     have hrd := Own.reads ho3
     have hll : (l ++ [c']).length = k + 1 := by rw [List.length_append, HL.out]; rfl
     rw [hll] at hrd hc3 hv3
     rw [hv3]
     clear hv3 ho3 hg3 ho ho'
     go_wp2_with fail
     refine (nat_fromWords _ (k + 1) c3 _ (l ++ [c']) w3 hrd zd (hd.append (Dig.cons (by omega) Dig.nil)) (by omega) (by omega)).mono ?_
     rintro e w4 ⟨rfl, hb4⟩
     have e : dv 18446744073709551616 (l ++ [c']) = a + b := by
      have := HF.out
      rw [dv_append, HL.out]
      simp only [dv, Nat.mul_zero, Nat.add_zero]
      rw [Nat.mul_comm]
      omega
     rw [e]
     have hB4 := bthen hB3 hb4
     (try clear b2q0 b2q1 b2f0 b2f1 b2s0 b2s1); have b2 := b2.below hb4 b2.lt; obtain ⟨b2q0, b2q1, b2f0, b2f1, b2s0, b2s1⟩ := b2.f2
     clear e hrd
     unfold natV
     generalize a + b = N at *
     go_wp2
     refine bodyPost_ret (v := .agg #[.int .u64 (lo N : Int), .string (mo N)]) (by simp [results, Tryz.results172, go_sem, b2s0, b2s1]) rfl ?_
     exact ⟨rfl, bset2 hB4 (by omega) _ _⟩
theorem nat_add (a b : Nat) (w : World) (ha : blen a <= 1099511627776) (hb : blen b <= 1099511627776) : Calls Tryz.prog 172 #[natV a, natV b] w (Ret (natV (a + b)) w) := by
 by_cases h : a < 18446744073709551616 /\ b < 18446744073709551616
 ·exact nat_add_small a b w h.1 h.2
 exact nat_add_big a b w h ha hb
end Go.Proofs.YtecnjlcfoobepaaGreatDoor
