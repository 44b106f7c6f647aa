/-
  The document's orders.
-/
import Derived.Test.YtbjemjopcoajcaaGreatDoorPermuted
namespace Go.Proofs.YtbjemjopcoajcaaGreatDoor
open Go.RowKit
set_option linter.unusedSimpArgs false
set_option linter.unusedVariables false

/-- a slice value -/
structure SV where
  A : Option Addr
  n : Nat
  c : Nat
def SV.v (r : SV) : Value := .slice r.A r.n r.c
theorem SV.one (r : SV) : r.v.oneCell' = true := rfl
theorem Tryz.eltInts : Elt Tryz.prog 85 22 (.slice none 0 0) 24 := ⟨Tryz.underlying85, by kernel_rfl, by kernel_rfl⟩
theorem own_apart {α β : Type} {w : World} {e e' : TypeId} {f : α → Value} {f' : β → Value} {v v' : Value} {l : List α} {l' : List β} (h : Own w e f v l) (h' : Own w e' f' v' l') (hne : e ≠ e') : ∀ k, v.ownBlock = some k → v'.ownBlock ≠ some k := by
  intro k hk hk'
  rcases h.2 with ⟨h3, h4⟩ | ⟨b, cap, cur, h3, h4, h5, h6⟩
  · rw [h3] at hk; cases hk
  · rcases h'.2 with ⟨h3', h4'⟩ | ⟨b', cap', cur', h3', h4', h5', h6'⟩
    · rw [h3'] at hk'; cases hk'
    · rw [h3] at hk
      rw [h3'] at hk'
      simp [Value.ownBlock] at hk hk'
      subst hk
      subst hk'
      rw [h5] at h5'
      injection h5' with h7
      injection h7 with h8 h9 h10
      exact hne h9
/-- the slice value v owns a row of owned rows of numbers -/
def OwnO (w : World) (v : Value) (ol : List (List Nat)) : Prop := ∃ rl : List SV, Own w 22 SV.v v rl ∧ rl.length = ol.length ∧ ∀ (i : Nat) (r : SV) (o : List Nat), rl[i]? = some r → ol[i]? = some o → Own w 3 iv r.v o
theorem OwnO.nil (w : World) : OwnO w (.slice none 0 0) [] := ⟨[], Own.nil_ _ _ _, rfl, fun i r o h => by simp at h⟩
theorem OwnO.lt {w : World} {v : Value} {ol : List (List Nat)} (h : OwnO w v ol) : ∀ b, v.ownBlock = some b → b < w.heap.size := by
  obtain ⟨rl, h1, _⟩ := h
  exact h1.lt
theorem OwnO.next {w w' : World} {v : Value} {ol : List (List Nat)} (h : OwnO w v ol) (hb : Below w.heap.size w w') : OwnO w' v ol := by
  obtain ⟨rl, h1, h2, h3⟩ := h
  exact ⟨rl, h1.below hb h1.lt, h2, fun i r o hr ho => (h3 i r o hr ho).below hb (h3 i r o hr ho).lt⟩
theorem OwnO.form {w : World} {v : Value} {ol : List (List Nat)} (h : OwnO w v ol) : ∃ A c, v = .slice A ol.length c := by
  obtain ⟨rl, h1, h2, h3⟩ := h
  obtain ⟨A, c, h4, _, _⟩ := h1.form
  exact ⟨A, c, by rw [h4, h2]⟩
theorem OwnO.addr {w : World} {A : Option Addr} {n c : Nat} {ol : List (List Nat)} (h : OwnO w (.slice A n c) ol) (hn : 0 < ol.length) : ∃ g, A = some ⟨g, 0, none⟩ := by
  obtain ⟨rl, h1, h2, h3⟩ := h
  exact Own.addr h1 (by omega)
theorem OwnO.at_ {w : World} {g n c : Nat} {ol : List (List Nat)} (h : OwnO w (.slice (some ⟨g, 0, none⟩) n c) ol) {i : Nat} {o : List Nat} (ho : ol[i]? = some o) :
    ∃ A k, w.cell? ⟨g, i, none⟩ = some (.slice A o.length k) ∧ Own w 3 iv (.slice A o.length k) o := by
  obtain ⟨rl, h1, h2, h3⟩ := h
  have hi : i < rl.length := by rw [h2]; exact (List.getElem?_eq_some_iff.1 ho).1
  have hn : n = rl.length := by
    obtain ⟨A', c', h4, _, _⟩ := Own.form h1
    injection h4
  subst hn
  have hr : rl[i]? = some rl[i] := List.getElem?_eq_getElem hi
  have hc := Own.cellf h1 hr
  have ho2 := h3 i _ o hr ho
  obtain ⟨A', c', h4, _, _⟩ := Own.form ho2
  exact ⟨A', c', by rw [hc, h4], by rw [← h4]; exact ho2⟩
section
variable {ops : Array Oper} {op : Oper} {a : Act} {Q : Exit → Act → World → Prop} {K : Act → World → Prop} {Z : Prop}
/-- 'append(v, o)': a row of numbers onto a row of them, inside a region that draws its order -/
theorem stepO (hgd : op.guard = none) (s x : Operand)
    (ho : op.op = .call { callee := .builtin .append, args := #[s, x], argTypes := #[85, 85] })
    (wr : World) (v : Value) (ol : List (List Nat)) (A : Option Addr) (n c : Nat) (o : List Nat) (hs : a.eval s = v) (hown : OwnO wr v ol) (hel : Own wr 3 iv (.slice A n c) o) (hx : a.eval x = .slice (some ⟨wr.heap.size, 0, none⟩) 1 1) (hl : ol.length ≤ 1000000)
    (h : ∀ v' w1, OwnO w1 v' (ol ++ [o]) → Grew wr w1 v v' → K (a.put op.dst v') w1) : if Region.wanted op (yielded ops a.tmps) = true then Oper.wp Tryz.prog op a (wr.alloc (.cells #[.slice A n c] 22)) K Q else Z := by
  obtain ⟨rl, h1, h2, h3⟩ := hown
  refine stepN Tryz.eltInts hgd s x ho (wr.alloc (.cells #[.slice A n c] 22)) v rl (wr.heap.size + 1) (some ⟨wr.heap.size, 0, none⟩) 1 1 [⟨A, n, c⟩] hs (Own.alloc h1 _) hx (Row.new wr 22 SV.v [⟨A, n, c⟩]).reads SV.one (by unfold maxLen; omega) (by omega) ?_
  intro v' w1 h4 h5
  have hgr : Grew wr w1 v v' := by
    refine ⟨h5.os, h5.tape, h5.output, Nat.le_trans (by simp) h5.size, fun k hk hne => (h5.block k (by simp; omega) hne).trans (Below.heap_alloc wr _ k hk), fun k hk => ?_⟩
    rcases h5.own k hk with h6 | h6
    · exact .inl h6
    · exact .inr (by simp at h6; omega)
  refine h v' w1 ⟨rl ++ [⟨A, n, c⟩], h4, by simp [h2], fun i r p hr hp => ?_⟩ hgr
  have hkeep : ∀ (r : SV) (p : List Nat), Own wr 3 iv r.v p → Own w1 3 iv r.v p := fun r p hp => hp.kept hgr (own_apart hp h1 (by decide))
  by_cases hi : i < rl.length
  · rw [List.getElem?_append_left hi] at hr
    rw [List.getElem?_append_left (by omega)] at hp
    exact hkeep r p (h3 i r p hr hp)
  · have hi2 : i = rl.length := by
      have := (List.getElem?_eq_some_iff.1 hr).1
      simp at this
      omega
    subst hi2
    rw [List.getElem?_append_right (Nat.le_refl _), Nat.sub_self] at hr
    rw [h2, List.getElem?_append_right (Nat.le_refl _), Nat.sub_self] at hp
    obtain rfl := Option.some.inj hr
    obtain rfl := Option.some.inj hp
    exact hkeep _ _ hel
end
/-- what one order makes -/
def insL (n : Nat) (o : List Nat) (k : Nat) : List (List Nat) := (List.range k).map fun q => insertAt o q n
theorem insL_succ (n : Nat) (o : List Nat) (k : Nat) : insL n o (k + 1) = insL n o k ++ [insertAt o k n] := by
  unfold insL
  rw [List.range_succ, List.map_append]
  rfl
def ordP (n i : Nat) : List (List Nat) := ((ordersL n).take i).flatMap fun o => insL n o (n + 1)
theorem ordP_succ (n : Nat) {i : Nat} {o : List Nat} (ho : (ordersL n)[i]? = some o) : ordP n (i + 1) = ordP n i ++ insL n o (n + 1) := by
  unfold ordP
  rw [List.take_add_one, ho, List.flatMap_append]
  simp
theorem ordP_all (n : Nat) : ordP n (ordersL n).length = ordersL (n + 1) := by
  unfold ordP
  rw [List.take_length]
  rfl
theorem orders_cnt : ∀ n, n < 5 → (ordersL n).length ≤ 24 ∧ 1 ≤ (ordersL n).length := by decide +kernel
theorem ordP_cnt : ∀ n, n < 4 → ∀ i, i < 25 → (ordP n i).length ≤ 100 := by decide +kernel
set_option maxRecDepth 100000 in
set_option maxHeartbeats 40000000 in
theorem ref_orders : ∀ (n : Nat) (w : World), n ≤ 4 → Calls Tryz.prog 47 #[.int .i64 (n : Int)] w fun e w' => ∃ v, e = .returned v ∧ OwnO w' v (ordersL n) ∧ (∀ b, v.ownBlock = some b → w.heap.size ≤ b) ∧ Below w.heap.size w w' := by
  intro n
  induction n with
  | zero =>
    intro w _
    have hrow : Own (w.alloc (.cells #[.slice none 0 0] 22)) 22 SV.v (.slice (some ⟨w.heap.size, 0, none⟩) 1 1) [⟨none, 0, 0⟩] := Own.lit w 22 SV.v [⟨none, 0, 0⟩] (by unfold maxLen; simp)
    have hO : OwnO (w.alloc (.cells #[.slice none 0 0] 22)) (.slice (some ⟨w.heap.size, 0, none⟩) 1 1) (ordersL 0) := by
      refine ⟨_, hrow, rfl, fun i r o hr ho => ?_⟩
      have hi : i = 0 := by
        have := (List.getElem?_eq_some_iff.1 hr).1
        have h2 : [(⟨none, 0, 0⟩ : SV)].length = 1 := rfl
        omega
      subst hi
      obtain rfl := Option.some.inj hr
      obtain rfl := Option.some.inj ho
      exact Own.nil_ _ _ _
    have HO := Lib.hid hO
    clear hO hrow
    go_enter Tryz.func47, Tryz.ntmps47
    go_wp2
    go_ret
    exact ⟨_, rfl, HO.out, fun b hb => by simp [Value.ownBlock] at hb; omega, balloc1 w _⟩
  | succ n ih =>
    intro w hn
    have IH := Lib.hid (fun w => ih w (by omega))
    clear ih
    obtain ⟨n1, hn1⟩ : ∃ n1, n + 1 = n1 := ⟨_, rfl⟩
    have HN1 := Lib.hid hn1
    rw [hn1]
    have e1 : (n1 : Int) - 1 = (n : Int) := by omega
    have e2 : IntKind.i64.wrap (n : Int) = (n : Int) := IntWalk.i64_in _ (by omega)
    have e3 : ((n1 : Int) == 0) = false := by simp; omega
    have e4 : ¬ (n1 : Int) = 0 := by omega
    have e5 : ¬ n1 = 0 := by omega
    obtain ⟨cnt, hcnt⟩ : ∃ cnt, (ordersL n).length = cnt := ⟨_, rfl⟩
    have hc24 := orders_cnt n (by omega)
    rw [hcnt] at hc24
    have hN3 : n < 4 := by omega
    clear hn1
    go_enter Tryz.func47, Tryz.ntmps47
    go_wp2_with fail
    refine (IH.out w).mono ?_
    rintro e x1 ⟨vl, rfl, hol, hfl, hbl⟩
    obtain ⟨Al, cl, rfl⟩ := hol.form
    obtain ⟨gl, rfl⟩ := hol.addr (by omega)
    rw [hcnt] at hol hfl ⊢
    have HOL := Lib.hid hol
    have HB1 := Lib.hid hbl
    have HCNT := Lib.hid hcnt
    clear hol hfl hbl IH hcnt
    go_wp2_with fail
    go_loopw [3, 5] (fun v p wr => ∃ i : Nat, i ≤ cnt ∧ p = .int .i64 (i : Int) ∧ OwnO wr v (ordP n i) ∧ (∀ b, v.ownBlock = some b → x1.heap.size ≤ b) ∧ Below x1.heap.size x1 wr) (fun _ p _ => cnt - (intOf p).toNat)
    case atStart => exact ⟨0, by omega, rfl, OwnO.nil _, (fun b h => by cases h), Below.refl _ _⟩
    case round =>
      obtain ⟨i, hi, rfl, hown, hfr, hbel⟩ := hrel
      rename World => wr
      by_cases hic : i < cnt
      · have i1 : (i : Int) < (cnt : Int) := by omega
        obtain ⟨o, ho⟩ : ∃ o, (ordersL n)[i]? = some o := ⟨_, List.getElem?_eq_getElem (by have := HCNT.out; omega)⟩
        have hol := orders_len' (by omega) (List.mem_of_getElem? ho)
        have hps := ordP_succ n ho
        rw [HN1.out] at hps
        have hpc := ordP_cnt n hN3 i (by omega)
        have HPS := Lib.hid hps
        have HOO := Lib.hid hown
        have HFR := Lib.hid hfr
        have HBL := Lib.hid hbel
        have HOI := Lib.hid ho
        have HOLN := Lib.hid hol
        have HPC := Lib.hid hpc
        clear hps hown hfr hbel ho hol hpc
        go_wp2_with fail
        go_loopw [3, 6] (fun v p wc => ∃ q : Nat, q ≤ n1 ∧ p = .int .i64 (q : Int) ∧ OwnO wc v (ordP n i ++ insL n o q) ∧ (∀ b, v.ownBlock = some b → x1.heap.size ≤ b) ∧ Below x1.heap.size x1 wc) (fun _ p _ => n1 - (intOf p).toNat)
        case atStart => exact ⟨0, by omega, rfl, by simpa [insL] using HOO.out, HFR.out, HBL.out⟩
        case round =>
          obtain ⟨q, hq, rfl, hown, hfr, hbel⟩ := hrel
          rename World => wc
          clear HOO HFR HBL
          by_cases hqn : q < n1
          · have q1 : (q : Int) < (n1 : Int) := by omega
            have hqn2 : q ≤ n := by have := HN1.out; omega
            have q2 : (q : Int) ≤ (n : Int) := by omega
            have HOO := Lib.hid hown
            have HFR := Lib.hid hfr
            have HBL := Lib.hid hbel
            obtain ⟨Ao, co, hcell, hoi⟩ := OwnO.at_ (OwnO.next HOL.out hbel) HOI.out
            rw [HOLN.out] at hcell hoi
            have hco : n ≤ co := by
              obtain ⟨A', c', h4, h5, _⟩ := Own.form hoi
              injection h4 with _ _ h6
              rw [HOLN.out] at h5
              omega
            have hcm : co ≤ maxLen := by
              obtain ⟨A', c', h4, h5, h7⟩ := Own.form hoi
              injection h4 with _ _ h6
              omega
            have HLK := Lib.hid (show (ordP n i ++ insL n o q).length ≤ 1000000 from by
              have := HPC.out
              rw [List.length_append]
              simp [insL]
              omega)
            have hsc := insL_succ n o q
            have HSC := Lib.hid hsc
            have hs1 : ∀ w, (Instr.slice 22 (.slice Ao n co) none (some (.int .i64 (q : Int))) none).run Tryz.prog w = .ok (.slice (cutA Ao co 0 1) q co) w := fun w => by
              have := run_cut1 (P := Tryz.prog) Tryz.underlying22 Tryz.infoInt Ao n co .i64 (q : Int) (by omega) (by omega) w
              rw [this]
              rfl
            have hs2 : ∀ w, (Instr.slice 22 (.slice Ao n co) (some (.int .i64 (q : Int))) none none).run Tryz.prog w = .ok (.slice (cutA Ao co q 1) (n - q) (co - q)) w := fun w => by
              have := run_cut (P := Tryz.prog) Tryz.underlying22 Tryz.infoInt Ao n co .i64 (q : Int) (by omega) (by omega) w
              rw [this]
              rfl
            have hro := Own.reads hoi
            have hll := HOLN.out
            rw [hll] at hro
            have r28 : ∀ w', Below wc.heap.size wc w' → Reads w' wc.heap.size 1 (cutA Ao co 0 1) q ((o.take q).map iv) := fun w' hb => by
              have := (hro.below hb).part co 0 q (by omega) (by omega)
              rw [Nat.zero_mul, List.drop_zero, Nat.mul_one, ← List.map_take] at this
              exact this
            have r35 : ∀ w', Below wc.heap.size wc w' → Reads w' wc.heap.size 1 (cutA Ao co q 1) (n - q) ((o.drop q).map iv) := fun w' hb => by
              have := (hro.below hb).part co q (n - q) (by omega) (by omega)
              rw [Nat.mul_one, Nat.mul_one, ← List.map_drop, ← List.map_take, List.take_of_length_le (by rw [List.length_drop, hll]; omega)] at this
              exact this
            have c25a : Own (wc.alloc (.cells #[] 3)) 3 iv (.slice (some ⟨wc.heap.size, 0, none⟩) 0 0) [] := Own.lit wc 3 iv [] (by unfold maxLen; simp)
            have c25b : Own ((wc.alloc (.cells #[] 3)).alloc (.cells #[.int .i64 (n : Int)] 3)) 3 iv (.slice (some ⟨wc.heap.size, 0, none⟩) 0 0) [] := Own.alloc c25a (.cells #[.int .i64 (n : Int)] 3)
            have c25c : Own ((wc.alloc (.cells #[.int .i64 (n : Int)] 3)).alloc (.cells #[] 3)) 3 iv (.slice (some ⟨wc.heap.size + 1, 0, none⟩) 0 0) [] := by
              have := Own.lit (wc.alloc (.cells #[.int .i64 (n : Int)] 3)) 3 iv ([] : List Nat) (by unfold maxLen; simp)
              rw [World.size_alloc] at this
              exact this
            have r31b : Row ((wc.alloc (.cells #[] 3)).alloc (.cells #[.int .i64 (n : Int)] 3)) (wc.heap.size + 1) 3 iv [n] := by
              have := Row.new (wc.alloc (.cells #[] 3)) 3 iv [n]
              rw [World.size_alloc] at this
              exact this
            have r31c : Row ((wc.alloc (.cells #[.int .i64 (n : Int)] 3)).alloc (.cells #[] 3)) wc.heap.size 3 iv [n] := Row.alloc (Row.new wc 3 iv [n]) (.cells #[] 3)
            have hcl : gl < wc.heap.size := cell_lt hcell
            have hl7 : (o.take q ++ [n] ++ o.drop q).length = n1 := by
              rw [List.length_append, List.length_append, List.length_take, List.length_drop, hll]
              have := HN1.out
              simp only [List.length_cons, List.length_nil]
              omega
            clear hown hfr hbel hoi hro hsc
            go_upto_region 11 with fail
            go_region_law (first | (refine stepN Tryz.eltInt rfl (.tmp 25) (.tmp 31) rfl ((wc.alloc (.cells #[] 3)).drew) _ [] wc.heap.size _ q co (o.take q) (by simp [Act.eval, Act.put]) c25a (by simp [Act.eval, Act.put]) (r28 _ (bdrewN (balloc1 wc (.cells #[] 3)) 1)) iv_one (by unfold maxLen; simp; omega) (by simp; omega) ?_; intro v5 w5 ho5 hg5; have hb5 := grewA (bdrewN (balloc1 wc (.cells #[] 3)) 1) hg5 (by intro k hk; simp [Value.ownBlock] at hk; omega); have hf5 := hg5.fresh (bdrewN (balloc1 wc (.cells #[] 3)) 1).size (by intro k hk; simp [Value.ownBlock] at hk; omega); have hcell5 := (hb5.cell (p := ⟨gl, i, none⟩) hcl).trans hcell; have hcl5 : gl < w5.heap.size := Nat.lt_of_lt_of_le hcl hb5.size) | (refine stepN Tryz.eltInt rfl (.tmp 25) (.tmp 31) rfl (((wc.alloc (.cells #[] 3)).alloc (.cells #[.int .i64 (n : Int)] 3)).drew) _ [] wc.heap.size _ q co (o.take q) (by simp [Act.eval, Act.put]) c25b (by simp [Act.eval, Act.put]) (r28 _ (bdrewN (balloc2 wc (.cells #[] 3) (.cells #[.int .i64 (n : Int)] 3)) 1)) iv_one (by unfold maxLen; simp; omega) (by simp; omega) ?_; intro v5 w5 ho5 hg5; have hb5 := grewA (bdrewN (balloc2 wc (.cells #[] 3) (.cells #[.int .i64 (n : Int)] 3)) 1) hg5 (by intro k hk; simp [Value.ownBlock] at hk; omega); have hf5 := hg5.fresh (bdrewN (balloc2 wc (.cells #[] 3) (.cells #[.int .i64 (n : Int)] 3)) 1).size (by intro k hk; simp [Value.ownBlock] at hk; omega); have hcell5 := (hb5.cell (p := ⟨gl, i, none⟩) hcl).trans hcell; have hcl5 : gl < w5.heap.size := Nat.lt_of_lt_of_le hcl hb5.size; have r31 := hg5.row r31b (by simp [Value.ownBlock])) | (refine stepN Tryz.eltInt rfl (.tmp 25) (.tmp 31) rfl (((wc.alloc (.cells #[.int .i64 (n : Int)] 3)).alloc (.cells #[] 3)).drew) _ [] wc.heap.size _ q co (o.take q) (by simp [Act.eval, Act.put]) c25c (by simp [Act.eval, Act.put]) (r28 _ (bdrewN (balloc2 wc (.cells #[.int .i64 (n : Int)] 3) (.cells #[] 3)) 1)) iv_one (by unfold maxLen; simp; omega) (by simp; omega) ?_; intro v5 w5 ho5 hg5; have hb5 := grewA (bdrewN (balloc2 wc (.cells #[.int .i64 (n : Int)] 3) (.cells #[] 3)) 1) hg5 (by intro k hk; simp [Value.ownBlock] at hk; omega); have hf5 := hg5.fresh (bdrewN (balloc2 wc (.cells #[.int .i64 (n : Int)] 3) (.cells #[] 3)) 1).size (by intro k hk; simp [Value.ownBlock] at hk; omega); have hcell5 := (hb5.cell (p := ⟨gl, i, none⟩) hcl).trans hcell; have hcl5 : gl < w5.heap.size := Nat.lt_of_lt_of_le hcl hb5.size; have r31 := hg5.row r31c (by simp [Value.ownBlock])) | (refine stepN Tryz.eltInt rfl (.tmp 32) (.tmp 35) rfl (w5.alloc (.cells #[.int .i64 (n : Int)] 3)) _ (o.take q) (w5.heap.size + 1) (some ⟨w5.heap.size, 0, none⟩) 1 1 [n] (by simp [Act.eval, Act.put]) (Own.alloc ho5 (.cells #[.int .i64 (n : Int)] 3)) (by simp [Act.eval, Act.put]) (Row.new w5 3 iv [n]).reads iv_one (by unfold maxLen; simp; omega) (by simp; omega) ?_; intro v6 w6 ho6 hg6; have hb6 := grewA (hb5.trans ((balloc1 w5 (.cells #[.int .i64 (n : Int)] 3)).mono hb5.size)) hg6 hf5; have hf6 := hg6.fresh (Nat.le_trans hb5.size (balloc1 w5 (.cells #[.int .i64 (n : Int)] 3)).size) hf5; have hcell6 := (hb6.cell (p := ⟨gl, i, none⟩) hcl).trans hcell) | (refine stepN Tryz.eltInt rfl (.tmp 32) (.tmp 35) rfl w5 _ (o.take q) _ (some ⟨_, 0, none⟩) 1 1 [n] (by simp [Act.eval, Act.put]) ho5 (by simp [Act.eval, Act.put]) r31.reads iv_one (by unfold maxLen; simp; omega) (by simp; omega) ?_; intro v6 w6 ho6 hg6; have hb6 := grewA hb5 hg6 hf5; have hf6 := hg6.fresh hb5.size hf5; have hcell6 := (hb6.cell (p := ⟨gl, i, none⟩) hcl).trans hcell) | (refine stepN Tryz.eltInt rfl (.tmp 36) (.tmp 42) rfl w6 _ (o.take q ++ [n]) wc.heap.size _ (n - q) (co - q) (o.drop q) (by simp [Act.eval, Act.put]) ho6 (by simp [Act.eval, Act.put]) (r35 _ hb6) iv_one (by unfold maxLen; simp; omega) (by simp; omega) ?_; intro v7 w7 ho7 hg7; have hb7 := grewA hb6 hg7 hf6; have hf7 := hg7.fresh hb6.size hf6; obtain ⟨A7, c7, hv7, _, _⟩ := Own.form ho7; rw [hl7] at hv7; subst hv7; have h7 := OwnO.next HOO.out hb7) | (refine stepO rfl (.tmp 24) (.tmp 44) rfl w7 _ (ordP n i ++ insL n o q) A7 n1 c7 _ (by simp [Act.eval, Act.put]) h7 ho7 (by simp [Act.eval, Act.put]) HLK.out ?_; intro v8 w8 ho8 hg8; have hb8 := grewA (HBL.out.trans (hb7.mono HBL.out.size)) hg8 HFR.out; have hf8 := hg8.fresh (Nat.le_trans HBL.out.size hb7.size) HFR.out))
            all_goals
              go_wp2
              exact ⟨⟨q + 1, by omega, by go_num, by
                rw [HSC.out, ← List.append_assoc]
                unfold insertAt
                simpa using ho8, hf8, hb8⟩, by simp [intOf]; omega⟩
          · obtain rfl : q = n1 := by omega
            have q1 : ¬ (q : Int) < (q : Int) := by omega
            rw [← HPS.out] at hown
            have HOO := Lib.hid hown
            have HFR := Lib.hid hfr
            have HBL := Lib.hid hbel
            clear hown hfr hbel
            go_wp2
            exact ⟨⟨i + 1, by omega, by go_num, HOO.out, HFR.out, HBL.out⟩, by simp [intOf]; omega⟩
      · obtain rfl : i = cnt := by omega
        have i1 : ¬ (i : Int) < (i : Int) := by omega
        rw [← HCNT.out, ordP_all, HN1.out] at hown
        have HOO := Lib.hid hown
        have HFR := Lib.hid hfr
        have HBL := Lib.hid hbel
        clear hown hfr hbel
        go_wp2
        go_ret
        exact ⟨_, rfl, HOO.out, fun b hb => Nat.le_trans HB1.out.size (HFR.out b hb), HB1.out.trans (HBL.out.mono HB1.out.size)⟩
end Go.Proofs.YtbjemjopcoajcaaGreatDoor
