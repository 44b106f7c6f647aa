/-
  Proved here: for every seed and all names, abaculuslaw5.DiceForks returns true and leaves its arguments as they were. No condition.
-/
import Derived.Test.YtjmbpnogicdkgaaRows
import Derived.Test.YtjmbpnogicdkgaaFork
import Derived.WalkKit
import Derived.ProofKit
import Derived.OpenShut
import Derived.ShutString
import Derived.ChangeOld
import Derived.Below
namespace Go.Proofs.Ytjmbpnogicdkgaa.diceForks
open Go.ChangeShapes Go.WideShapes Go.ChangeAt Go.RowKit
open Go.ChangeMaps (open_string shut_string)
set_option linter.unusedVariables false
set_option linter.unusedSimpArgs false

theorem own : ownKnob Try.prog.godebug = none := by kernel_rfl

theorem eq_iff (n a b : Nat) : (((n ^^^ a : Nat) : Int) == ((n ^^^ b : Nat) : Int)) = decide (a = b) := by
  rw [Bool.eq_iff_iff]
  simp only [beq_iff_eq, decide_eq_true_eq]
  exact ⟨fun h => xor_inj (Int.ofNat.inj h), fun h => by rw [h]⟩
theorem eq_iff' (a b : Nat) : (((a : Nat) : Int) == ((b : Nat) : Int)) = decide (a = b) := by
  rw [Bool.eq_iff_iff]
  simp only [beq_iff_eq, decide_eq_true_eq]
  exact ⟨fun h => (Int.ofNat.inj h), fun h => by rw [h]⟩

set_option maxHeartbeats 1000000 in
theorem walkN (s : Nat) (hs : s < 18446744073709551616) (a1 : ByteArray) (a2 : ByteArray) (w1 : a1.size ≤ 9223372036854775807) (w2 : a2.size ≤ 9223372036854775807) (w : World) :
    Calls Try.prog 3 #[.int .u64 (s : Int), .string a1, .string a2] w (Ret (.bool true) w) := by
  have kc1 := fun (w : World) => Lib.run_convert_string_bytes (P := Try.prog) w 9 29 5 a1 Try.underlying9 Try.underlying29 Try.underlying5
  have kc2 := fun (w : World) => Lib.run_convert_string_bytes (P := Try.prog) w 9 29 5 a2 Try.underlying9 Try.underlying29 Try.underlying5
  have KC := Lib.hid (And.intro kc1 kc2)
  clear kc1 kc2
  go_enter Try.func3, Try.ntmps3
  go_wp2_with fail
  refine (dice_new _ _).mono ?_
  rintro e w1 ⟨rfl, rfl⟩
  go_wp2_with fail
  refine (dice_new _ _).mono ?_
  rintro e w1 ⟨rfl, rfl⟩
  go_wp2_with fail
  refine (dice_new _ _).mono ?_
  rintro e w1 ⟨rfl, rfl⟩
  go_wp2_with fail
  refine (dice_known _).mono ?_
  rintro e x1 ⟨rfl, hb1⟩
  have da : Blk x1 w.heap.size 58 #[.int .u64 (s : Int)] := (((Blk.new _ _ _).alloc _).alloc _).below hb1 (by simp; omega)
  have db : Blk x1 (w.heap.size + 1) 58 #[.int .u64 (s : Int)] := by
    have h := ((Blk.new (w.alloc (.cells #[.int .u64 (s : Int)] 58)) 58 #[.int .u64 (s : Int)]).alloc (.cells #[.int .u64 (s : Int)] 58)).below hb1 (by simp)
    simpa using h
  have dc : Blk x1 (w.heap.size + 2) 58 #[.int .u64 (s : Int)] := by
    have h := (Blk.new ((w.alloc (.cells #[.int .u64 (s : Int)] 58)).alloc (.cells #[.int .u64 (s : Int)] 58)) 58 #[.int .u64 (s : Int)]).below hb1 (by simp)
    simpa using h
  have hB : Below w.heap.size w x1 := ((((Below.refl _ _).alloc (Nat.le_refl _) _).alloc (by simp) _).alloc (by simp; omega) _).trans (hb1.mono (by simp; omega))
  clear hb1
  go_wp2_with fail
  refine (dice_fork _ s a1 x1 hs (da.cell 0) (da.frozen 0) w1).mono ?_
  rintro e x2 ⟨g1, rfl, hg1, df, hb2⟩
  have hz1 := hB.size
  have hz2 := hb2.size
  have l3 := dc.lt
  rw [World.size_setCell] at hz2
  have da2 : Blk x2 w.heap.size 58 #[.int .u64 ((Dice.step s : Nat) : Int)] := ((da.set_ 0 _).below hb2 (by omega))
  have db2 : Blk x2 (w.heap.size + 1) 58 #[.int .u64 (s : Int)] := ((db.far (by simp) _).below hb2 (by omega))
  have dc2 : Blk x2 (w.heap.size + 2) 58 #[.int .u64 (s : Int)] := ((dc.far (by simp) _).below hb2 (by omega))
  have hB2 : Below w.heap.size w x2 := (hB.setCell (by simp) _).trans (hb2.mono (by omega))
  have HF := Lib.hid hb2
  clear da db dc hb2 hB
  go_wp2_with fail
  refine (dice_fork _ s a2 x2 hs (db2.cell 0) (db2.frozen 0) w2).mono ?_
  rintro e x3 ⟨g2, rfl, hg2, df2, hb3⟩
  have hz3 := hb3.size
  rw [World.size_setCell] at hz3
  have lf := df.lt
  have da3 : Blk x3 w.heap.size 58 #[.int .u64 ((Dice.step s : Nat) : Int)] := ((da2.far (by simp) _).below hb3 (by omega))
  have db3 : Blk x3 (w.heap.size + 1) 58 #[.int .u64 ((Dice.step s : Nat) : Int)] := ((db2.set_ 0 _).below hb3 (by omega))
  have dc3 : Blk x3 (w.heap.size + 2) 58 #[.int .u64 (s : Int)] := ((dc2.far (by simp) _).below hb3 (by omega))
  have df3 := (df.far (p := ⟨w.heap.size + 1, 0, none⟩) (by simp; omega) (.int .u64 ((Dice.step s : Nat) : Int))).below hb3 (by omega)
  have hB3 : Below w.heap.size w x3 := (hB2.setCell (by simp) _).trans (hb3.mono (by omega))
  clear da2 db2 dc2 df hb3 hB2
  go_wp2_with fail
  refine (dice_next _ s x3 hs (dc3.cell 0) (dc3.frozen 0)).mono ?_
  rintro e x4 ⟨rfl, rfl⟩
  have da4 : Blk _ w.heap.size 58 _ := da3.far (p := ⟨w.heap.size + 1 + 1, 0, none⟩) (by simp; omega) (.int .u64 ((Dice.step s : Nat) : Int))
  have db4 : Blk _ (w.heap.size + 1) 58 _ := db3.far (p := ⟨w.heap.size + 1 + 1, 0, none⟩) (by simp) (.int .u64 ((Dice.step s : Nat) : Int))
  have dc4 : Blk _ (w.heap.size + 1 + 1) 58 _ := dc3.set_ 0 (.int .u64 ((Dice.step s : Nat) : Int))
  have df4 := df3.far (p := ⟨w.heap.size + 1 + 1, 0, none⟩) (by simp; omega) (.int .u64 ((Dice.step s : Nat) : Int))
  have dg4 := df2.far (p := ⟨w.heap.size + 1 + 1, 0, none⟩) (by simp; omega) (.int .u64 ((Dice.step s : Nat) : Int))
  have hB4 := hB3.setCell (p := ⟨w.heap.size + 1 + 1, 0, none⟩) (by simp; omega) (.int .u64 ((Dice.step s : Nat) : Int))
  generalize x3.setCell ⟨w.heap.size + 1 + 1, 0, none⟩ (.int .u64 ((Dice.step s : Nat) : Int)) = x4 at *
  clear da3 db3 dc3 df3 df2 hB3
  go_wp2_with fail
  refine (dice_state _ _ x4 (da4.cell 0)).mono ?_
  rintro e x5 ⟨rfl, rfl⟩
  go_wp2_with fail
  refine (dice_state _ _ x4 (db4.cell 0)).mono ?_
  rintro e x5 ⟨rfl, rfl⟩
  go_wp2_with fail
  refine (dice_state _ _ x4 (da4.cell 0)).mono ?_
  rintro e x5 ⟨rfl, rfl⟩
  go_wp2_with fail
  refine (dice_state _ _ x4 (dc4.cell 0)).mono ?_
  rintro e x5 ⟨rfl, rfl⟩
  go_wp2_with fail
  refine (dice_state _ _ x4 (df4.cell 0)).mono ?_
  rintro e x5 ⟨rfl, rfl⟩
  go_wp2_with fail
  refine (dice_state _ _ x4 (dg4.cell 0)).mono ?_
  rintro e x5 ⟨rfl, rfl⟩
  obtain ⟨kc1, kc2⟩ := KC.out
  go_wp2_with fail
  refine (octet_sum _ _ _ _ _ _ (bytes_bytesWorld x4 5 a1) w1).mono ?_
  rintro e x5 ⟨rfl, rfl⟩
  have hB5 := hB4.trans ((below_bytesWorld x4 5 a1).mono hB4.size)
  have df5 := df4.below (below_bytesWorld x4 5 a1) df4.lt
  generalize Lib.bytesWorld x4 5 a1 = x5 at *
  clear da4 db4 dc4 df4 dg4
  go_wp2_with fail
  refine (octet_sum _ _ _ _ _ _ (bytes_bytesWorld x5 5 a2) w2).mono ?_
  rintro e x6 ⟨rfl, rfl⟩
  have hB6 := hB5.trans ((below_bytesWorld x5 5 a2).mono hB5.size)
  have df6 := df5.below (below_bytesWorld x5 5 a2) df5.lt
  generalize Lib.bytesWorld x5 5 a2 = x6 at *
  clear df5
  have hq := eq_iff (Dice.next s) (fnv a1.data.toList) (fnv a2.data.toList)
  have hq' := eq_iff' (fnv a1.data.toList) (fnv a2.data.toList)
  generalize decide (fnv a1.data.toList = fnv a2.data.toList) = t at *
  have hx := xor_u64 (Dice.next s) (fnv a1.data.toList) (Dice.next_lt s) (fnv_lt _)
  go_wp2_with fail
  refine (dice_state _ _ x6 (df6.cell 0)).mono ?_
  rintro e x7 ⟨rfl, rfl⟩
  clear hq hq'
  go_wp2_with fail
  refine (octet_sum _ _ _ _ _ _ (bytes_bytesWorld x6 5 a1) w1).mono ?_
  rintro e x7 ⟨rfl, rfl⟩
  have hB7 := hB6.trans ((below_bytesWorld x6 5 a1).mono hB6.size)
  generalize Lib.bytesWorld x6 5 a1 = x7 at *
  go_wp2
  go_ret
  exact ⟨rfl, hB7⟩

/-! ### the walk -/
theorem walk (a0 : Int) (a1 : ByteArray) (a2 : ByteArray) (w0 : (Lit.int .u64 a0).wf = true) (w1 : a1.size ≤ maxLen) (w2 : a2.size ≤ maxLen) (w : World) :
    Calls Try.prog 3 #[.int .u64 a0, .string a1, .string a2] w fun e w' => e = .returned (.bool true) ∧ Below w.heap.size w w' := by
  obtain ⟨h0, h1⟩ := bounds_u64 w0
  obtain ⟨s, rfl⟩ := Int.eq_ofNat_of_zero_le h0
  exact walkN s (by omega) a1 a2 w1 w2 w

set_option maxRecDepth 100000 in
theorem lifted (os : Os) (started : os.Started) (H : Type) (enc : TypeId × Value → H) :
    ReturnsInHanded {} Try.checked os 3 .any (Rows.diceForksSpec.pre6 enc Try.prog Try.f3 Rows.diceForksRow.domain false) (Rows.diceForksSpec.post enc Try.prog Try.f3 false true false false) := by
  refine returnsInHanded_of_change (C := Try.checked) own started (by kernel_rfl) Try.func3
    (ChangeSpec.witness6 (enc := enc) (C := Try.checked) false ⟨#[], #[.int .u64 0, .string ByteArray.empty, .string ByteArray.empty], []⟩ 8 (by kernel_rfl) (by kernel_rfl) (by kernel_rfl) (by kernel_rfl)) ?_
  intro W base args ds gs before hval0 hW hcnd _
  have hval : ∀ (j : Nat) t v, Try.f3.params[j]? = some t → args[j]? = some v → Value.okWide Try.prog W .any base t v := hval0
  have hW' := hW
  obtain ⟨p, q, hA0, hV, rfl, hfz, hnd⟩ := hW
  have hA : DataW.TrodAll enc Try.prog W 0 (fun _ => true) true Try.f3.params.toList args.toList ds p := hA0
  rw [Try.params3] at hA hval
  obtain ⟨v0, vs0, d0, ds0, p0, q0, hargs, rfl, rfl, h0, r0⟩ := trodAll_cons hA
  obtain ⟨v1, vs1, d1, ds1, p1, q1, rfl, rfl, rfl, h1, r1⟩ := trodAll_cons r0
  obtain ⟨v2, vs2, d2, ds2, p2, q2, rfl, rfl, rfl, h2, r2⟩ := trodAll_cons r1
  obtain ⟨rfl, rfl, rfl⟩ := trodAll_nil r2
  obtain rfl : args = #[v0, v1, v2] := by cases args; simp_all
  obtain ⟨rfl, rfl⟩ := trodVars_none hV
  obtain ⟨a0, rfl, rfl, rfl, w0⟩ := open_int Try.underlying22 (hval 0 22 v0 rfl rfl) h0
  obtain ⟨a1, rfl, rfl, rfl, w1⟩ := open_string Try.underlying9 (hval 1 9 v1 rfl rfl) h1
  obtain ⟨a2, rfl, rfl, rfl, w2⟩ := open_string Try.underlying9 (hval 2 9 v2 rfl rfl) h2
  clear hA0 hval0
  simp only [List.append_nil] at hW'
  refine (walk a0 a1 a2 w0 w1 w2 W).mono fun e W' ⟨he, hg⟩ => ?_
  subst he
  exact ⟨_, rfl, _, _, _, [], _, [], hW', trodAll_mk1 (shut_bool Try.underlying4 _), (trodAll_cons_mk (shut_int Try.underlying22 w0) (trodAll_cons_mk (shut_string Try.underlying9 w1) (trodAll_cons_mk (shut_string Try.underlying9 w2) trodAll_mk0))), rfl, hg.frame _, fun h => by cases h⟩

theorem over : Rows.diceForksRow.holds Try.pinned (OpenSpec.ofChange Rows.diceForksSpec) :=
  OpenClaim.holds_of_wide 3 Try.f3 rfl rfl rfl rfl rfl rfl rfl ⟨rfl, rfl, rfl, rfl, rfl⟩ rfl rfl rfl rfl rfl (by kernel_rfl) Try.func3 (by kernel_rfl)
    (of_decide_eq_true (by kernel_rfl)) (by unfold Func.isWrapper; first | (rw [if_pos (by decide +kernel)]; kernel_rfl) | (rw [if_neg (by decide +kernel)]; exact ⟨rfl, rfl⟩))
    (fun os started H enc _ => lifted os started H enc)

theorem proved : Rows.DiceForksSaid :=
  over
#print axioms proved
end Go.Proofs.Ytjmbpnogicdkgaa.diceForks
