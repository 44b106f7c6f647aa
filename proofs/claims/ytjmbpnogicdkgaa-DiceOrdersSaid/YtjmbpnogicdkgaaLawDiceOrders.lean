/-
  Proved here: for every seed and all numbers, abaculuslaw5.DiceOrders returns true and leaves its arguments as they were. No condition.
-/
import Derived.Test.YtjmbpnogicdkgaaRows
import Derived.Test.YtjmbpnogicdkgaaFork
import Derived.Test.YtjmbpnogicdkgaaOrderNil
import Derived.Test.YtjmbpnogicdkgaaInts
import Derived.WalkKit
import Derived.ProofKit
import Derived.OpenShut
import Derived.ShutString
import Derived.ChangeOld
import Derived.Below
namespace Go.Proofs.Ytjmbpnogicdkgaa.diceOrders
open Go.ChangeShapes Go.WideShapes Go.ChangeAt Go.RowKit
open Go.ChangeMaps (open_string shut_string)
set_option linter.unusedVariables false
set_option linter.unusedSimpArgs false

theorem own : ownKnob Try.prog.godebug = none := by kernel_rfl

set_option maxHeartbeats 1000000 in
theorem walkN (s : Nat) (hs : s < 18446744073709551616) (n0 k0 : Int) (hn0 : -9223372036854775808 ≤ n0) (hn1 : n0 ≤ 9223372036854775807) (hk0 : -9223372036854775808 ≤ k0) (hk1 : k0 ≤ 9223372036854775807) (w : World) :
    Calls Try.prog 4 #[.int .u64 (s : Int), .int .i64 n0, .int .i64 k0] w (Ret (.bool true) w) := by
  obtain ⟨n', hn'⟩ := Int.eq_ofNat_of_zero_le (Int.emod_nonneg n0 (b := 200) (by omega))
  obtain ⟨k, hk⟩ := Int.eq_ofNat_of_zero_le (Int.emod_nonneg k0 (b := 100) (by omega))
  have hn2 : n' < 200 := by omega
  have hk2 : k < 100 := by omega
  have HN := Lib.hid hn'
  have HK := Lib.hid hk
  clear hn' hk
  go_enter Try.func4, Try.ntmps4
  go_wp2_with fail
  refine (dice_new _ _).mono ?_
  rintro e w1 ⟨rfl, rfl⟩
  go_wp2_with fail
  refine (dice_new _ _).mono ?_
  rintro e w1 ⟨rfl, rfl⟩
  go_wp2_with fail
  refine (dice_known _).mono ?_
  rintro e x1 ⟨rfl, hb1⟩
  have da : Blk x1 w.heap.size 58 #[.int .u64 (s : Int)] := ((Blk.new _ _ _).alloc _).below hb1 (by simp; omega)
  have db : Blk x1 (w.heap.size + 1) 58 #[.int .u64 (s : Int)] := by
    have h := (Blk.new (w.alloc (.cells #[.int .u64 (s : Int)] 58)) 58 #[.int .u64 (s : Int)]).below hb1 (by simp)
    simpa using h
  have hB : Below w.heap.size w x1 := (((Below.refl _ _).alloc (Nat.le_refl _) _).alloc (by simp) _).trans (hb1.mono (by simp; omega))
  clear hb1
  go_wp2_with fail
  refine (hand_pick n0 200 _ hn0 hn1 (by omega) (by omega)).mono ?_
  rintro e x2 ⟨rfl, rfl⟩
  rw [show ((200 : Nat) : Int) = 200 from rfl, HN.out]
  go_wp2_with fail
  refine (hand_pick k0 100 _ hk0 hk1 (by omega) (by omega)).mono ?_
  rintro e x2 ⟨rfl, rfl⟩
  rw [show ((100 : Nat) : Int) = 100 from rfl, HK.out]
  obtain ⟨n, hn⟩ : ∃ n, n = 1 + n' := ⟨_, rfl⟩
  have hn3 : n ≤ 200 := by omega
  have hn4 : 1 ≤ n := by omega
  have HN2 := Lib.hid hn
  go_wp2_with fail
  rw [show (1 + (n' : Int)) = (n : Int) from by omega]
  clear hn hn2
  refine (dice_order _ s n x1 hs hn4 (by omega) da).mono ?_
  rintro e x2 ⟨rfl, ra, da2, hb2⟩
  have hz1 := hB.size
  have hl1 := db.lt
  have hz2 := hb2.size
  rw [World.size_setCell] at hz2
  have db2 : Blk x2 (w.heap.size + 1) 58 #[.int .u64 (s : Int)] := (db.far (by simp) _).below hb2 (by omega)
  have hB2 : Below w.heap.size w x2 := (hB.setCell (by simp) _).trans (hb2.mono (by omega))
  have lr := ra.lt
  clear da db hb2 hB
  generalize x1.heap.size = g at *
  go_wp2_with fail
  refine (dice_order _ s n x2 hs hn4 (by omega) db2).mono ?_
  rintro e x3 ⟨rfl, rb, db3, hb3⟩
  have hz3 := hb3.size
  rw [World.size_setCell] at hz3
  have ra3 := (ra.far (p := ⟨w.heap.size + 1, 0, none⟩) (by simp; omega) (.int .u64 (((Dice.order n s).2 : Nat) : Int))).below hb3 (by omega)
  have da3 := (da2.far (p := ⟨w.heap.size + 1, 0, none⟩) (by simp) (.int .u64 (((Dice.order n s).2 : Nat) : Int))).below hb3 (by omega)
  have hB3 : Below w.heap.size w x3 := (hB2.setCell (by simp) _).trans (hb3.mono (by omega))
  have hp := Dice.order_perm n s hn4
  have hlen := hp.1
  have HLEN := Lib.hid hlen
  have r1 := ra3.reads
  have r2 := rb.reads
  rw [hlen] at r1 r2
  clear hlen ra da2 db2 hb3 hB2
  go_wp2_with fail
  refine (same_ints _ _ n _ _ _ _ _ x3 r1 r2 (by omega)).mono ?_
  rintro e x4 ⟨rfl, d, rfl⟩
  have hB4 : Below w.heap.size w (x3.drewN d) := bdrewN hB3 d
  have ra4 := ra3.drewN d
  have da4 := da3.drewN d
  have hz4 : x2.heap.size ≤ (x3.drewN d).heap.size := hz3
  generalize x3.drewN d = x4 at *
  clear r1 r2 rb db3 ra3 da3 hB3 hz3
  have hmk := make_row (P := Try.prog) iv 0 32 3 8 Try.underlying32 Try.infoInt rfl .i64 .i64 n (by omega) (by omega)
  go_wp2_with fail
  clear hmk
  go_loopw [11] (fun x wr => ∃ i : Nat, i ≤ n ∧ x = .int .i64 i ∧ Row wr x4.heap.size 3 iv (Dice.marks (Dice.order n s).1 n i) ∧ Below x4.heap.size x4 wr) (fun x _ => n - (intOf x).toNat)
  case atStart => exact ⟨0, Nat.zero_le _, rfl, Row.rep x4 3 iv 0 n, (Below.refl _ _).alloc (Nat.le_refl _) _⟩
  case round =>
    obtain ⟨i, hi, rfl, hseen, hbel⟩ := hrel
    by_cases hlt : i < n
    · have hl0 := HLEN.out
      obtain ⟨v, hv⟩ : ∃ v, (Dice.order n s).1[i]? = some v := ⟨_, List.getElem?_eq_getElem (by omega)⟩
      have hvn : v < n := hp.2.1 v (List.mem_of_getElem? hv)
      have hc1 := (ra4.below hbel ra4.lt).cell hv
      have hc2 := hseen.cell (Dice.marks_at _ n i v hp hlt hv)
      have hf2 := hseen.frozen v
      have hnx := hseen.set_ v 1
      rw [← Dice.marks_succ _ n i v hv] at hnx
      have hbx := hbel.setCell (p := ⟨x4.heap.size, v, none⟩) (Nat.le_refl _) (iv 1)
      unfold iv at hc1 hc2 hbx
      clear hv hl0
      go_wp2
      exact ⟨⟨i + 1, by omega, by go_num, hnx, hbx⟩, by simp [intOf]; omega⟩
    · have da5 := da4.below hbel da4.lt
      have hB5 := hB4.trans (hbel.mono hB4.size)
      have hz5 := hbel.size
      have hso := Dice.order_state n s hs
      obtain ⟨x5, rfl⟩ : ∃ x5 : World, x5 = wr := ⟨_, rfl⟩
      clear hseen hbel ra4 da4 hB4
      generalize (Dice.order n s).2 = t at *
      go_wp2_with fail
      refine (dice_state _ _ x5 (da5.cell 0)).mono ?_
      rintro e x6 ⟨rfl, rfl⟩
      go_wp2_with fail
      refine (dice_new _ _).mono ?_
      rintro e x6 ⟨rfl, rfl⟩
      have da6 := da5.alloc (.cells #[.int .u64 (t : Int)] 58)
      have dc6 := Blk.new x5 58 #[.int .u64 (t : Int)]
      have hB6 := hB5.alloc hB5.size (.cells #[.int .u64 (t : Int)] 58)
      have hne : w.heap.size ≠ x5.heap.size := by omega
      generalize x5.alloc (.cells #[.int .u64 (t : Int)] 58) = x6 at *
      generalize x5.heap.size = c at *
      clear da5 hB5
      go_wp2_with fail
      refine (dice_draw_any _ t n k x6 hso hn4 (by omega) (by omega) da6).mono ?_
      rintro e x7 ⟨A, rfl, hnA, rm, da7, hb7⟩
      have hz7 := hb7.size
      rw [World.size_setCell] at hz7
      have lc := dc6.lt
      have dc7 := (dc6.far (p := ⟨w.heap.size, 0, none⟩) (by simp; omega) (.int .u64 (((Dice.draws n k t).2 : Nat) : Int))).below hb7 (by omega)
      have hB7 : Below w.heap.size w x7 := (hB6.setCell (by simp) _).trans (hb7.mono hB6.size)
      clear da6 dc6 hb7
      go_wp2_with fail
      refine (dice_draw_any _ t n k x7 hso hn4 (by omega) (by omega) dc7).mono ?_
      rintro e x8 ⟨A', rfl, hnA', rn, dc8, hb8⟩
      have hz8 := hb8.size
      rw [World.size_setCell] at hz8
      have da8 := (da7.far (p := ⟨c, 0, none⟩) (by simp; omega) (.int .u64 (((Dice.draws n k t).2 : Nat) : Int))).below hb8 (by have := hB7.size; have := da7.lt; omega)
      have hB8 : Below w.heap.size w x8 := (hB7.setCell (by simp; omega) _).trans (hb8.mono hB7.size)
      have rm8 : Reads x8 x7.heap.size 1 A k ((Dice.draws n k t).1.map iv) := by
        refine Reads.below (Reads.setFar rm (p := ⟨c, 0, none⟩) (fun ad h => ?_) (.int .u64 (((Dice.draws n k t).2 : Nat) : Int))) hb8
        have := hnA ad h
        simp
        omega
      clear rm da7 dc7 hb8 hB7 hB6
      go_wp2_with fail
      refine (same_ints _ _ k _ _ _ _ _ x8 rm8 rn (by omega)).mono ?_
      rintro e x9 ⟨rfl, d9, rfl⟩
      have hB9 : Below w.heap.size w (x8.drewN d9) := bdrewN hB8 d9
      have da9 := da8.drewN d9
      have dc9 := dc8.drewN d9
      have rm9 := rm8.drewN d9
      generalize x8.drewN d9 = x9 at *
      clear hB8 da8 dc8 rm8 rn
      go_wp2_with fail
      go_loop [14] (fun x => ∃ i : Nat, i ≤ k ∧ x = .int .i64 i) (fun x => k - (intOf x).toNat)
      case atStart => exact ⟨0, Nat.zero_le _, rfl⟩
      case round =>
        obtain ⟨j, hj, rfl⟩ := hrel
        by_cases hjk : j < k
        · obtain ⟨ad, x, hA, hb, hx, hc⟩ := rm9.atf hjk
          have hxn := Dice.draws_lt n k t (by omega) x (List.mem_of_getElem? hx)
          clear hx
          subst hA
          unfold iv at hc
          have hjk2 : (j : Int) < (k : Int) := by omega
          go_wp2
          exact ⟨⟨j + 1, by omega, by go_num⟩, by simp [intOf]; omega⟩
        · go_wp2_with fail
          refine (dice_state _ _ x9 (da9.cell 0)).mono ?_
          rintro e x10 ⟨rfl, rfl⟩
          go_wp2_with fail
          refine (dice_state _ _ x9 (dc9.cell 0)).mono ?_
          rintro e x10 ⟨rfl, rfl⟩
          go_wp2_with fail
          have hsd := Dice.draws_state n k t hso
          refine (dice_next _ _ x9 hsd (da9.cell 0) (da9.frozen 0)).mono ?_
          rintro e x10 ⟨rfl, rfl⟩
          have dc10 := dc9.far (p := ⟨w.heap.size, 0, none⟩) (by simp; omega) (.int .u64 ((Dice.step (Dice.draws n k t).2 : Nat) : Int))
          have hB10 := hB9.setCell (p := ⟨w.heap.size, 0, none⟩) (Nat.le_refl _) (.int .u64 ((Dice.step (Dice.draws n k t).2 : Nat) : Int))
          generalize x9.setCell ⟨w.heap.size, 0, none⟩ (.int .u64 ((Dice.step (Dice.draws n k t).2 : Nat) : Int)) = x10 at *
          go_wp2_with fail
          refine (dice_next _ _ x10 hsd (dc10.cell 0) (dc10.frozen 0)).mono ?_
          rintro e x11 ⟨rfl, rfl⟩
          go_wp2
          go_ret
          exact ⟨rfl, hB10.setCell (by simp; omega) _⟩

/-! ### the walk -/
theorem walk (a0 : Int) (a1 : Int) (a2 : Int) (w0 : (Lit.int .u64 a0).wf = true) (w1 : (Lit.int .i64 a1).wf = true) (w2 : (Lit.int .i64 a2).wf = true) (w : World) :
    Calls Try.prog 4 #[.int .u64 a0, .int .i64 a1, .int .i64 a2] w fun e w' => e = .returned (.bool true) ∧ Below w.heap.size w w' := by
  obtain ⟨h0, h1⟩ := bounds_u64 w0
  obtain ⟨b0, b1⟩ := bounds_i64 w1
  obtain ⟨c0, c1⟩ := bounds_i64 w2
  obtain ⟨s, rfl⟩ := Int.eq_ofNat_of_zero_le h0
  exact walkN s (by omega) a1 a2 (by omega) (by omega) (by omega) (by omega) w

set_option maxRecDepth 100000 in
theorem lifted (os : Os) (started : os.Started) (H : Type) (enc : TypeId × Value → H) :
    ReturnsInHanded {} Try.checked os 4 .any (Rows.diceOrdersSpec.pre6 enc Try.prog Try.f4 Rows.diceOrdersRow.domain false) (Rows.diceOrdersSpec.post enc Try.prog Try.f4 false true false false) := by
  refine returnsInHanded_of_change (C := Try.checked) own started (by kernel_rfl) Try.func4
    (ChangeSpec.witness6 (enc := enc) (C := Try.checked) false ⟨#[], #[.int .u64 0, .int .i64 0, .int .i64 0], []⟩ 8 (by kernel_rfl) (by kernel_rfl) (by kernel_rfl) (by kernel_rfl)) ?_
  intro W base args ds gs before hval0 hW hcnd _
  have hval : ∀ (j : Nat) t v, Try.f4.params[j]? = some t → args[j]? = some v → Value.okWide Try.prog W .any base t v := hval0
  have hW' := hW
  obtain ⟨p, q, hA0, hV, rfl, hfz, hnd⟩ := hW
  have hA : DataW.TrodAll enc Try.prog W 0 (fun _ => true) true Try.f4.params.toList args.toList ds p := hA0
  rw [Try.params4] at hA hval
  obtain ⟨v0, vs0, d0, ds0, p0, q0, hargs, rfl, rfl, h0, r0⟩ := trodAll_cons hA
  obtain ⟨v1, vs1, d1, ds1, p1, q1, rfl, rfl, rfl, h1, r1⟩ := trodAll_cons r0
  obtain ⟨v2, vs2, d2, ds2, p2, q2, rfl, rfl, rfl, h2, r2⟩ := trodAll_cons r1
  obtain ⟨rfl, rfl, rfl⟩ := trodAll_nil r2
  obtain rfl : args = #[v0, v1, v2] := by cases args; simp_all
  obtain ⟨rfl, rfl⟩ := trodVars_none hV
  obtain ⟨a0, rfl, rfl, rfl, w0⟩ := open_int Try.underlying22 (hval 0 22 v0 rfl rfl) h0
  obtain ⟨a1, rfl, rfl, rfl, w1⟩ := open_int Try.underlying3 (hval 1 3 v1 rfl rfl) h1
  obtain ⟨a2, rfl, rfl, rfl, w2⟩ := open_int Try.underlying3 (hval 2 3 v2 rfl rfl) h2
  clear hA0 hval0
  simp only [List.append_nil] at hW'
  refine (walk a0 a1 a2 w0 w1 w2 W).mono fun e W' ⟨he, hg⟩ => ?_
  subst he
  exact ⟨_, rfl, _, _, _, [], _, [], hW', trodAll_mk1 (shut_bool Try.underlying4 _), (trodAll_cons_mk (shut_int Try.underlying22 w0) (trodAll_cons_mk (shut_int Try.underlying3 w1) (trodAll_cons_mk (shut_int Try.underlying3 w2) trodAll_mk0))), rfl, hg.frame _, fun h => by cases h⟩

theorem over : Rows.diceOrdersRow.holds Try.pinned (OpenSpec.ofChange Rows.diceOrdersSpec) :=
  OpenClaim.holds_of_wide 4 Try.f4 rfl rfl rfl rfl rfl rfl rfl ⟨rfl, rfl, rfl, rfl, rfl⟩ rfl rfl rfl rfl rfl (by kernel_rfl) Try.func4 (by kernel_rfl)
    (of_decide_eq_true (by kernel_rfl)) (by unfold Func.isWrapper; first | (rw [if_pos (by decide +kernel)]; kernel_rfl) | (rw [if_neg (by decide +kernel)]; exact ⟨rfl, rfl⟩))
    (fun os started H enc _ => lifted os started H enc)

theorem proved : Rows.DiceOrdersSaid :=
  over
#print axioms proved
end Go.Proofs.Ytjmbpnogicdkgaa.diceOrders
