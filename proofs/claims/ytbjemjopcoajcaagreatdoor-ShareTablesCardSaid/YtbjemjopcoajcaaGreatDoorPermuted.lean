/-
  abaculuslaw37.permuted: some order of the columns.
-/
import Derived.Test.YtbjemjopcoajcaaGreatDoorShareMixedW
import Derived.Test.YtbjemjopcoajcaaGreatDoorShareMix
namespace Go.Proofs.YtbjemjopcoajcaaGreatDoor
open Go.RowKit
set_option linter.unusedSimpArgs false
set_option linter.unusedVariables false

theorem Tryz.eltInt : Elt Tryz.prog 22 3 (.int .i64 0) 8 := ⟨Tryz.underlying22, by kernel_rfl, by kernel_rfl⟩
theorem Tryz.infoInt : (Tryz.prog.info? 3).map (fun i => (i.zero, i.size, i.bytes)) = some (some (.int .i64 0), 1, 8) := Tryz.eltInt.info
theorem iv_one (n : Nat) : (iv n).oneCell' = true := rfl
/-- 'append(v, src...)' inside a region that draws its order -/
theorem stepN {α : Type} {P : Program} {ops : Array Oper} {o : Oper} {a : Act} {K : Act → World → Prop} {Q : Exit → Act → World → Prop} {E0 : Prop} {t e : TypeId} {z : Value} {bytes : Nat} {f : α → Value}
    (E : Elt P t e z bytes) (hgd : o.guard = none) (s x : Operand)
    (ho : o.op = .call { callee := .builtin .append, args := #[s, x], argTypes := #[t, t] })
    (w : World) (v : Value) (l : List α) (B : Nat) (A : Option Addr) (n c : Nat) (l2 : List α) (hs : a.eval s = v) (hown : Own w e f v l) (hx : a.eval x = .slice A n c)
    (hr : Reads w B 1 A n (l2.map f)) (hone : ∀ m, (f m).oneCell' = true) (h63 : l.length + n ≤ maxLen) (hb : (l.length + n) * bytes ≤ 140737488355328)
    (h : ∀ v' w1, Own w1 e f v' (l ++ l2) → Grew w w1 v v' → K (a.put o.dst v') w1) : if Region.wanted o (yielded ops a.tmps) = true then Oper.wp P o a w K Q else E0 := by
  obtain ⟨i0, hi0, hz0, hz1, hz2⟩ := info_parts E.info
  refine step_append_any _ hgd s x t ho 0 e i0 z 1 bytes E.under hi0 hz0 hz1 hz2 E.one (by omega) v l.length (l.map f) hs hown B A n c (l2.map f) hx hr
    (by intro u hu; simp at hu; obtain ⟨m, _, rfl⟩ := hu; exact hone m) h63 hb (Nat.zero_le _) ?_
  intro v' w' hown' hgr hwh
  refine h v' w' ?_ (Grew.of_grown hgr hwh)
  have hl := hr.lenf
  unfold Own
  rw [List.length_append, List.map_append, hl]
  exact hown'

theorem run_cut1 {P : Program} {t e : TypeId} {z : Value} {size bytes : Nat} (ht : P.underlying t = some (.slice e)) (hi : (P.info? e).map (fun i => (i.zero, i.size, i.bytes)) = some (some z, size, bytes)) (A : Option Addr) (n c : Nat) (k' : IntKind) (h : Int) (h1 : 0 ≤ h) (h2 : h ≤ c) (w : World) :
    (Instr.slice t (.slice A n c) none (some (.int k' h)) none).run P w = .ok (.slice (cutA A c 0 size) h.toNat c) w := by
  obtain ⟨i0, hi0, hz0, hz1, hz2⟩ := info_parts hi
  have h4 : max h 0 = h := by omega
  simp [h4, Instr.slice, run_underlying ht, Instr.sliceBounds, Instr.sliceBound, asIntOf, sizeOf, typeInfo, hi0, h1, h2, hz1, cutA, Result.andThen]
theorem grewA {B : Nat} {w0 w w1 : World} {v v' : Value} (h : Below B w0 w) (hg : Grew w w1 v v') (hv : ∀ k, v.ownBlock = some k → B ≤ k) (hB : B ≤ w0.heap.size := by omega) : Below B w0 w1 := h.trans (hg.below (Nat.le_trans hB h.size) hv)
theorem Grew.row {α : Type} {a b : World} {v v' : Value} {g : Nat} {t : TypeId} {f : α → Value} {l : List α} (h : Grew a b v v') (hr : Row a g t f l) (hne : v.ownBlock ≠ some g) : Row b g t f l :=
  (h.block g hr.lt (fun e => hne e.symm)).trans hr
theorem orders_len' {n : Nat} (hn : n < 5) {o : List Nat} (h : o ∈ ordersL n) : o.length = n := (orders_fine n hn o h).1
set_option maxRecDepth 100000 in
set_option maxHeartbeats 4000000 in
theorem law_permuted (A : Option Addr) (n c B : Nat) (zs : List Int) (m : Nat) (w : World) (h : ReadsZ w B A n zs) (hB : B ≤ w.heap.size) (hn : n ≤ 9223372036854775807) (hm : m ≤ 4) :
    Calls Tryz.prog 30 #[.slice A n c, .int .i64 (m : Int)] w fun e w' => ∃ v, e = .returned v ∧ ∃ l, l ∈ ordersL m ∧ Own w' 3 iv v l ∧ (∀ b, v.ownBlock = some b → w.heap.size ≤ b) ∧ Below w.heap.size w w' := by
  have H := Lib.hid h
  clear h
  go_enter Tryz.func30, Tryz.ntmps30
  go_wp2_with fail
  go_loopw [5, 6] (fun v p wr => ∃ (i : Nat) (l : List Nat), i ≤ m ∧ p = .int .i64 (i : Int) ∧ l ∈ ordersL i ∧ Own wr 3 iv v l ∧ (∀ b, v.ownBlock = some b → w.heap.size ≤ b) ∧ Below w.heap.size w wr) (fun _ p _ => m - (intOf p).toNat)
  case atStart => exact ⟨0, [], by omega, rfl, List.mem_singleton.2 rfl, Own.nil_ _ _ _, (fun b h => by cases h), Below.refl _ _⟩
  case round =>
    obtain ⟨i, l, hi, rfl, hl, hown, hfr, hbel⟩ := hrel
    rename World => wr
    have hll := orders_len' (by omega) hl
    obtain ⟨Ao, co, rfl, hco, hcm⟩ := Own.form hown
    have HLL := Lib.hid hll
    rw [hll] at hown hfr hco ⊢
    by_cases him : i < m
    · have i1 : (i : Int) < (m : Int) := by omega
      obtain ⟨i2, hi2⟩ : ∃ i2, i + 1 = i2 := ⟨_, rfl⟩
      have e1 : (i : Int) + 1 = (i2 : Int) := by omega
      have e2 : IntKind.i64.wrap (i2 : Int) = (i2 : Int) := IntWalk.i64_in _ (by omega)
      have HL := Lib.hid hl
      have HO := Lib.hid hown
      have HFR := Lib.hid hfr
      have HBL := Lib.hid hbel
      have HI2 := Lib.hid hi2
      have HCO := Lib.hid hco
      clear hl hll hown hfr hbel hi2 hco
      go_upto_if 16 with fail
      go_cut [7] (fun p wc => ∃ q : Nat, q ≤ i ∧ p = .int .i64 (q : Int) ∧ wc = wr)
      case first =>
        by_cases hin : i < n
        · have k2 : (i : Int) < (n : Int) := by omega
          obtain ⟨ad, z, rfl, hz, hcell, hz0, hz1⟩ := (H.out.below (HBL.out.mono hB)).cell hin
          obtain ⟨q, hq, hpq⟩ := pick_of z i2 wr hz0 hz1 (by have := HI2.out; omega) (by have := HI2.out; omega)
          have HPQ := Lib.hid hpq
          have HQ := Lib.hid hq
          clear hpq hq hz
          go_wp2_with fail
          refine (HPQ.out wr).mono ?_
          rintro e w' ⟨rfl, rfl⟩
          go_wp2
          go_meet
          exact ⟨q, by have := HI2.out; have := HQ.out; omega, rfl, rfl⟩
        · have k2 : ¬ (i : Int) < (n : Int) := by omega
          go_wp2
          go_meet
          exact ⟨0, by omega, rfl, rfl⟩
      case rest =>
        obtain ⟨q, hq, rfl, rfl⟩ := hcut
        have q1 : (q : Int) ≤ (i : Int) := by omega
        have hs1 : ∀ w, (Instr.slice 22 (.slice Ao i co) none (some (.int .i64 (q : Int))) none).run Tryz.prog w = .ok (.slice (cutA Ao co 0 1) q co) w := fun w => by
          have := run_cut1 (P := Tryz.prog) Tryz.underlying22 Tryz.infoInt Ao i co .i64 (q : Int) (by omega) (by have := HCO.out; omega) w
          rw [this]
          rfl
        have hs2 : ∀ w, (Instr.slice 22 (.slice Ao i co) (some (.int .i64 (q : Int))) none none).run Tryz.prog w = .ok (.slice (cutA Ao co q 1) (i - q) (co - q)) w := fun w => by
          have := run_cut (P := Tryz.prog) Tryz.underlying22 Tryz.infoInt Ao i co .i64 (q : Int) (by omega) (by omega) w
          rw [this]
          rfl
        have hro := Own.reads HO.out
        rw [HLL.out] at hro
        have r28 : ∀ w', Below wc.heap.size wc w' → Reads w' wc.heap.size 1 (cutA Ao co 0 1) q ((l.take q).map iv) := fun w' hb => by
          have := (hro.below hb).part co 0 q (by omega) (by have := HCO.out; omega)
          rw [Nat.zero_mul, List.drop_zero, Nat.mul_one, ← List.map_take] at this
          exact this
        have r35 : ∀ w', Below wc.heap.size wc w' → Reads w' wc.heap.size 1 (cutA Ao co q 1) (i - q) ((l.drop q).map iv) := fun w' hb => by
          have := (hro.below hb).part co q (i - q) (by omega) (by have := HCO.out; omega)
          rw [Nat.mul_one, Nat.mul_one, ← List.map_drop, ← List.map_take, List.take_of_length_le (by rw [List.length_drop, HLL.out]; omega)] at this
          exact this
        have c25a : Own (wc.alloc (.cells #[] 3)) 3 iv (.slice (some ⟨wc.heap.size, 0, none⟩) 0 0) [] := Own.lit wc 3 iv [] (by unfold maxLen; simp)
        have c25b : Own ((wc.alloc (.cells #[] 3)).alloc (.cells #[.int .i64 (i : Int)] 3)) 3 iv (.slice (some ⟨wc.heap.size, 0, none⟩) 0 0) [] := Own.alloc c25a (.cells #[.int .i64 (i : Int)] 3)
        have c25c : Own ((wc.alloc (.cells #[.int .i64 (i : Int)] 3)).alloc (.cells #[] 3)) 3 iv (.slice (some ⟨wc.heap.size + 1, 0, none⟩) 0 0) [] := by
          have := Own.lit (wc.alloc (.cells #[.int .i64 (i : Int)] 3)) 3 iv ([] : List Nat) (by unfold maxLen; simp)
          rw [World.size_alloc] at this
          exact this
        have r31b : Row ((wc.alloc (.cells #[] 3)).alloc (.cells #[.int .i64 (i : Int)] 3)) (wc.heap.size + 1) 3 iv [i] := by
          have := Row.new (wc.alloc (.cells #[] 3)) 3 iv [i]
          rw [World.size_alloc] at this
          exact this
        have r31c : Row ((wc.alloc (.cells #[.int .i64 (i : Int)] 3)).alloc (.cells #[] 3)) wc.heap.size 3 iv [i] := Row.alloc (Row.new wc 3 iv [i]) (.cells #[] 3)
        have hll := HLL.out
        go_upto_region 8 with fail
        go_region_law (first | (refine stepN Tryz.eltInt rfl (.tmp 25) (.tmp 28) rfl ((wc.alloc (.cells #[] 3)).drew) _ [] wc.heap.size _ q co (l.take q) (by simp [Act.eval, Act.put]) c25a (by simp [Act.eval, Act.put]) (r28 _ (bdrewN (balloc1 wc (.cells #[] 3)) 1)) iv_one (by unfold maxLen; simp; omega) (by simp; omega) ?_; intro v5 w5 ho5 hg5; have hb5 := grewA (bdrewN (balloc1 wc (.cells #[] 3)) 1) hg5 (by intro k hk; simp [Value.ownBlock] at hk; omega); have hf5 := hg5.fresh (bdrewN (balloc1 wc (.cells #[] 3)) 1).size (by intro k hk; simp [Value.ownBlock] at hk; omega)) | (refine stepN Tryz.eltInt rfl (.tmp 25) (.tmp 28) rfl (((wc.alloc (.cells #[] 3)).alloc (.cells #[.int .i64 (i : Int)] 3)).drew) _ [] wc.heap.size _ q co (l.take q) (by simp [Act.eval, Act.put]) c25b (by simp [Act.eval, Act.put]) (r28 _ (bdrewN (balloc2 wc (.cells #[] 3) (.cells #[.int .i64 (i : Int)] 3)) 1)) iv_one (by unfold maxLen; simp; omega) (by simp; omega) ?_; intro v5 w5 ho5 hg5; have hb5 := grewA (bdrewN (balloc2 wc (.cells #[] 3) (.cells #[.int .i64 (i : Int)] 3)) 1) hg5 (by intro k hk; simp [Value.ownBlock] at hk; omega); have hf5 := hg5.fresh (bdrewN (balloc2 wc (.cells #[] 3) (.cells #[.int .i64 (i : Int)] 3)) 1).size (by intro k hk; simp [Value.ownBlock] at hk; omega); have r31 := hg5.row r31b (by simp [Value.ownBlock])) | (refine stepN Tryz.eltInt rfl (.tmp 25) (.tmp 28) rfl (((wc.alloc (.cells #[.int .i64 (i : Int)] 3)).alloc (.cells #[] 3)).drew) _ [] wc.heap.size _ q co (l.take q) (by simp [Act.eval, Act.put]) c25c (by simp [Act.eval, Act.put]) (r28 _ (bdrewN (balloc2 wc (.cells #[.int .i64 (i : Int)] 3) (.cells #[] 3)) 1)) iv_one (by unfold maxLen; simp; omega) (by simp; omega) ?_; intro v5 w5 ho5 hg5; have hb5 := grewA (bdrewN (balloc2 wc (.cells #[.int .i64 (i : Int)] 3) (.cells #[] 3)) 1) hg5 (by intro k hk; simp [Value.ownBlock] at hk; omega); have hf5 := hg5.fresh (bdrewN (balloc2 wc (.cells #[.int .i64 (i : Int)] 3) (.cells #[] 3)) 1).size (by intro k hk; simp [Value.ownBlock] at hk; omega); have r31 := hg5.row r31c (by simp [Value.ownBlock])) | (refine stepN Tryz.eltInt rfl (.tmp 29) (.tmp 31) rfl (w5.alloc (.cells #[.int .i64 (i : Int)] 3)) _ (l.take q) (w5.heap.size + 1) (some ⟨w5.heap.size, 0, none⟩) 1 1 [i] (by simp [Act.eval, Act.put]) (Own.alloc ho5 (.cells #[.int .i64 (i : Int)] 3)) (by simp [Act.eval, Act.put]) (Row.new w5 3 iv [i]).reads iv_one (by unfold maxLen; simp; omega) (by simp; omega) ?_; intro v6 w6 ho6 hg6; have hb6 := grewA (hb5.trans ((balloc1 w5 (.cells #[.int .i64 (i : Int)] 3)).mono hb5.size)) hg6 hf5; have hf6 := hg6.fresh (Nat.le_trans hb5.size (balloc1 w5 (.cells #[.int .i64 (i : Int)] 3)).size) hf5) | (refine stepN Tryz.eltInt rfl (.tmp 29) (.tmp 31) rfl w5 _ (l.take q) _ (some ⟨_, 0, none⟩) 1 1 [i] (by simp [Act.eval, Act.put]) ho5 (by simp [Act.eval, Act.put]) r31.reads iv_one (by unfold maxLen; simp; omega) (by simp; omega) ?_; intro v6 w6 ho6 hg6; have hb6 := grewA hb5 hg6 hf5; have hf6 := hg6.fresh hb5.size hf5) | (refine stepN Tryz.eltInt rfl (.tmp 32) (.tmp 35) rfl w6 _ (l.take q ++ [i]) wc.heap.size _ (i - q) (co - q) (l.drop q) (by simp [Act.eval, Act.put]) ho6 (by simp [Act.eval, Act.put]) (r35 _ hb6) iv_one (by unfold maxLen; simp; omega) (by simp; omega) ?_; intro v7 w7 ho7 hg7; have hb7 := grewA hb6 hg7 hf6; have hf7 := hg7.fresh hb6.size hf6))
        all_goals
          go_wp2
          exact ⟨⟨i + 1, insertAt l q i, by omega, by have := HI2.out; first | (rw [this]) | go_num, orders_insert HL.out hq, by unfold insertAt; simpa using ho7, by
            intro b hb
            exact Nat.le_trans HBL.out.size (hf7 b hb), HBL.out.trans (hb7.mono HBL.out.size)⟩, by simp [intOf]; omega⟩
    · obtain rfl : i = m := by omega
      have k1 : ¬ (i : Int) < (i : Int) := by omega
      have HL := Lib.hid hl
      have HO := Lib.hid hown
      have HFR := Lib.hid hfr
      have HBL := Lib.hid hbel
      clear hl hll hown hfr hbel
      go_wp2
      go_ret
      exact ⟨_, rfl, l, HL.out, HO.out, HFR.out, HBL.out⟩
section
variable {ops : Array Oper} {o : Oper} {a : Act} {Q : Exit → Act → World → Prop} {K : Act → World → Prop} {Z : Prop}
/-- 'append(v, q)' inside a region that draws its order -/
theorem stepQ (hgd : o.guard = none) (s x : Operand)
    (ho : o.op = .call { callee := .builtin .append, args := #[s, x], argTypes := #[28, 28] })
    (wr : World) (v : Value) (l : List Rat) (q : Rat) (hs : a.eval s = v) (hown : OwnQ wr v l) (hx : a.eval x = .slice (some ⟨wr.heap.size, 0, none⟩) 1 1) (hl : l.length ≤ 1000000)
    (h : ∀ v' w1, OwnQ w1 v' (l ++ [q]) → Grew wr w1 v v' → K (a.put o.dst v') w1) : if Region.wanted o (yielded ops a.tmps) = true then Oper.wp Tryz.prog o a (wr.alloc (.cells #[.bool (decide (q.num < 0)), .int .u64 (lo q.num.natAbs : Int), .string (mo q.num.natAbs), .int .u64 (lo ((qden q)) : Int), .string (mo ((qden q)))] 52)) K Q else Z := by
  refine stepW Tryz.eltQ (by omega) hgd s x ho _ v l (wr.heap.size + 1) (some ⟨wr.heap.size, 0, none⟩) 1 1 [q] hs (hown.alloc _) hx (readsQ1 wr q) qC_one (by unfold maxLen; omega) (by omega) ?_
  intro v' w1 h1 h2
  refine h v' w1 h1 ?_
  refine ⟨h2.os, h2.tape, h2.output, Nat.le_trans (by simp) h2.size, fun k hk hne => (h2.block k (by simp; omega) hne).trans (Below.heap_alloc wr _ k hk), fun k hk => ?_⟩
  rcases h2.own k hk with h3 | h3
  · exact .inl h3
  · exact .inr (by simp at h3; omega)
end
set_option maxRecDepth 100000 in
set_option maxHeartbeats 2000000 in
theorem hand_sum (A : Option Addr) (n c B m : Nat) (l : List Rat) (w : World) (h : ReadsQ w B A n l) (hB : B ≤ w.heap.size) (hn : n ≤ 1000) (hm : m ≤ 100000000) (hl : ∀ x ∈ l, QS m x) (hT : Tab w) :
    Calls Tryz.prog 32 #[.slice A n c] w (Ret (qV (sumQ l)) w) := by
  have hln := h.len
  have hsz := QS.sum l hl
  go_enter Tryz.func32, Tryz.ntmps32
  go_wp2_with fail
  have b0 := (Blk.new w 52 #[.bool false, .int .u64 0, .string ⟨#[]⟩, .int .u64 0, .string ⟨#[]⟩]).alloc (.cells #[.bool false, .int .u64 0, .string ⟨#[]⟩, .int .u64 0, .string ⟨#[]⟩] 52)
  have b1 := Blk.new2 w (.cells #[.bool false, .int .u64 0, .string ⟨#[]⟩, .int .u64 0, .string ⟨#[]⟩] 52) 52 #[.bool false, .int .u64 0, .string ⟨#[]⟩, .int .u64 0, .string ⟨#[]⟩]
  have hW := balloc2 w (.cells #[.bool false, .int .u64 0, .string ⟨#[]⟩, .int .u64 0, .string ⟨#[]⟩] 52) (.cells #[.bool false, .int .u64 0, .string ⟨#[]⟩, .int .u64 0, .string ⟨#[]⟩] 52)
  generalize (w.alloc (.cells #[.bool false, .int .u64 0, .string ⟨#[]⟩, .int .u64 0, .string ⟨#[]⟩] 52)).alloc (.cells #[.bool false, .int .u64 0, .string ⟨#[]⟩, .int .u64 0, .string ⟨#[]⟩] 52) = W at *
  have HS := Lib.hid hsz
  have HL := Lib.hid hl
  have HR := Lib.hid h
  have HT := Lib.hid hT
  have HLN := Lib.hid hln
  clear hsz hl h hT hln
  go_loopw [4] (fun p wr => ∃ (k : Nat) (s : Rat), k ≤ n ∧ p = .int .i64 (k : Int) ∧ Hid (sumQ (l.take k) = s) ∧ Blk wr w.heap.size 52 #[.bool false, .int .u64 0, .string ⟨#[]⟩, .int .u64 0, .string ⟨#[]⟩] ∧ Blk wr (w.heap.size + 1) 52 #[.bool (decide (s.num < 0)), .int .u64 (lo s.num.natAbs : Int), .string (mo s.num.natAbs), .int .u64 (lo ((qden s)) : Int), .string (mo ((qden s)))] ∧ Below w.heap.size w wr) (fun p _ => n - (intOf p).toNat)
  case atStart => exact ⟨0, 0, by omega, rfl, Lib.hid rfl, b0, b1, hW⟩
  case round =>
    obtain ⟨k, s, hk, rfl, hs, b0, b1, hb⟩ := hrel
    rename World => wr
    by_cases hkn : k < n
    · have hkl : (k : Int) < n := by omega
      obtain ⟨x, hx⟩ : ∃ x, l[k]? = some x := ⟨_, List.getElem?_eq_getElem (by have := HLN.out; omega)⟩
      obtain ⟨ad, g, o, rfl, hP, hgB, b2⟩ := ReadsQ.at_ (HR.out.below (hb.mono hB)) hx
      have hqs : QS 137438953472 s := by
        rw [← hs.out]
        refine (HS.out k).mono ?_
        have := Nat.mul_le_mul (show k ≤ 1000 by omega) (show m + 1 ≤ 100000001 by omega)
        omega
      have hqx : QS 137438953472 x := (HL.out x (List.mem_of_getElem? hx)).mono (by omega)
      have had := fun w (hT : Tab w) => frac_add s x w hqs hqx hT
      have hs' : sumQ (l.take (k + 1)) = s + x := by rw [sumQ_take l k x hx, hs.out]
      have HS' := Lib.hid hs'
      unfold qV at had
      have HAD := Lib.hid had
      clear had hqs hqx hs' hs hx
      generalize s + x = s' at *
      have tT := HT.out.next hb
      have ne1 : ¬ g = w.heap.size + 1 := by omega
      have ne2 : ¬ w.heap.size + 1 = g := by omega
      go_upto_region 5 with fail
      have c0 := b0.drew; have c0l := c0.lt; obtain ⟨b1q0, b1q1, b1q2, b1q3, b1q4⟩ := b1.c5; have c1 := b1.drew; have c1l := c1.lt; obtain ⟨b2q0, b2q1, b2q2, b2q3, b2q4⟩ := b2.c5; have c2 := b2.drew; have c2l := c2.lt; have hc := bdrew0 wr; go_region_with (first | (go_at_call 26; (with_reducible refine (HAD.out _ (tT.next hc)).mono ?_); rintro e w1 ⟨rfl, hw1⟩; have c0 := c0.below hw1 c0.lt; (try clear c0l); have c0l := c0.lt; have c1 := c1.below hw1 c1.lt; (try clear c1q0 c1q1 c1q2 c1q3 c1q4); obtain ⟨c1q0, c1q1, c1q2, c1q3, c1q4⟩ := c1.c5; (try clear c1l); have c1l := c1.lt; have c2 := c2.below hw1 c2.lt; (try clear c2q0 c2q1 c2q2 c2q3 c2q4); obtain ⟨c2q0, c2q1, c2q2, c2q3, c2q4⟩ := c2.c5; (try clear c2l); have c2l := c2.lt; have hc := bthen hc hw1; have f0 := c1.frozen 0; have f1 := c1.frozen 1; have f2 := c1.frozen 2; have f3 := c1.frozen 3; have f4 := c1.frozen 4))
      all_goals
        go_wp2
        have e1 := ((((c1.set_ 0 (.bool (decide (s'.num < 0)))).set_ 1 (.int .u64 (lo s'.num.natAbs : Int))).set_ 2 (.string (mo s'.num.natAbs))).set_ 3 (.int .u64 (lo (qden s') : Int))).set_ 4 (.string (mo (qden s')))
        have e0 := ((((c0.far (p := ⟨w.heap.size + 1, 0, none⟩) (by simp) (.bool (decide (s'.num < 0)))).far (p := ⟨w.heap.size + 1, 1, none⟩) (by simp) (.int .u64 (lo s'.num.natAbs : Int))).far (p := ⟨w.heap.size + 1, 2, none⟩) (by simp) (.string (mo s'.num.natAbs))).far (p := ⟨w.heap.size + 1, 3, none⟩) (by simp) (.int .u64 (lo (qden s') : Int))).far (p := ⟨w.heap.size + 1, 4, none⟩) (by simp) (.string (mo (qden s')))
        exact ⟨⟨k + 1, s', by omega, by go_num, HS', e0, by simpa using e1, bset5 (hb.trans (hc.mono hb.size)) (by omega) _ _ _ _ _⟩, by simp [intOf]; omega⟩
    · obtain rfl : k = n := by omega
      have hs' : sumQ l = s := by rw [← hs.out, List.take_of_length_le (by have := HLN.out; omega)]
      have HS2 := Lib.hid hs'
      clear hs' hs
      have hkk : ¬ (k : Int) < (k : Int) := by omega
      obtain ⟨b0q0, b0q1, b0q2, b0q3, b0q4, b0f0, b0f1, b0f2, b0f3, b0f4, b0s0, b0s1, b0s2, b0s3, b0s4⟩ := b0.f5
      obtain ⟨b1q0, b1q1, b1q2, b1q3, b1q4⟩ := b1.c5
      go_wp2
      refine bodyPost_ret (v := .agg #[.bool (decide (s.num < 0)), .int .u64 (lo s.num.natAbs : Int), .string (mo s.num.natAbs), .int .u64 (lo ((qden s)) : Int), .string (mo ((qden s)))]) (by simp [results, Tryz.results32, go_sem, b0s0, b0s1, b0s2, b0s3, b0s4]) rfl ?_
      exact ⟨by rw [HS2.out]; rfl, bset5 hb (by omega) _ _ _ _ _⟩
/-- the first five cells of a row -/
structure At0 (w : World) (g : Nat) (o : Nat) (x : Rat) : Prop where
  c5 : w.cell? ⟨g, 0, none⟩ = some (.bool (decide (x.num < 0))) ∧ w.cell? ⟨g, 1, none⟩ = some (.int .u64 (lo x.num.natAbs : Int)) ∧ w.cell? ⟨g, 2, none⟩ = some (.string (mo x.num.natAbs)) ∧
      w.cell? ⟨g, 3, none⟩ = some (.int .u64 (lo (qden x) : Int)) ∧ w.cell? ⟨g, 4, none⟩ = some (.string (mo (qden x)))
theorem At0.lt {w : World} {g o : Nat} {x : Rat} (h : At0 w g o x) : g < w.heap.size := cell_lt h.c5.1
theorem At0.below {w w' : World} {g o B : Nat} {x : Rat} (h : At0 w g o x) (hb : Below B w w') (hg : g < B) : At0 w' g o x := by
  obtain ⟨h0, h1, h2, h3, h4⟩ := h.c5
  refine ⟨?_⟩
  rw [hb.cell (p := ⟨g, 0, none⟩) hg, hb.cell (p := ⟨g, 1, none⟩) hg, hb.cell (p := ⟨g, 2, none⟩) hg, hb.cell (p := ⟨g, 3, none⟩) hg, hb.cell (p := ⟨g, 4, none⟩) hg]
  exact ⟨h0, h1, h2, h3, h4⟩
theorem At0.drew {w : World} {g o : Nat} {x : Rat} (h : At0 w g o x) : At0 w.drew g o x := h.below (bdrew0 w) h.lt
theorem At0.alloc {w : World} {g o : Nat} {x : Rat} (h : At0 w g o x) (b : Obj) : At0 (w.alloc b) g o x := h.below (balloc1 w b) h.lt
theorem OwnQ.at0 {w : World} {g n c : Nat} {l : List Rat} (h : OwnQ w (.slice (some ⟨g, 0, none⟩) n c) l) {x : Rat} (hx : l[0]? = some x) : At0 w g 0 x := ⟨(OwnQ.cell5 (k := 0) h hx)⟩
theorem turns_size {m : Nat} {v : List Rat} (hv : ∀ x ∈ v, QS m x) (hm : 1 ≤ m) (o : List Nat) : ∀ s l, (∀ x ∈ l, QS (m + m + 1) x) → ∀ x ∈ turnsGo v o s l, QS (m + m + 1) x := by
  induction o with
  | nil => intro s l hl; exact hl
  | cons c o ih =>
    intro s l hl
    exact ih _ _ (QS.set_ hl ((QS.getD hv hm _).sub (QS.getD hv hm _)) _)
end Go.Proofs.YtbjemjopcoajcaaGreatDoor
