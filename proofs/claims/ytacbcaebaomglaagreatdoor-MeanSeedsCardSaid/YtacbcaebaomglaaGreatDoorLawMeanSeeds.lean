/-
  Proved here: for every list of numbers, every three numbers and every seed, abaculuslaw22.MeanSeeds returns true and leaves its arguments as they were, where math/bits.deBruijn64tab starts as the program's text lays it (the card ties it).
-/
import Derived.Test.YtacbcaebaomglaaGreatDoorCards
import Derived.Test.YtacbcaebaomglaaGreatDoorTab
import Derived.Test.YtacbcaebaomglaaGreatDoorTie
import Derived.Test.YtacbcaebaomglaaGreatDoorMeanSeedsW
import Derived.WalkKit
import Derived.ProofKit
import Derived.OpenShut
import Derived.ShutString
import Derived.ChangeOld
import Derived.Below
-- WITNESS .nil, .lit (.int .i64 0), .lit (.int .i64 0), .lit (.int .i64 0), .lit (.int .u64 0)
namespace Go.Proofs.YtacbcaebaomglaaGreatDoor.meanSeeds
open Go.ChangeShapes Go.WideShapes Go.ChangeAt Go.RowKit
open Go.ChangeMaps (open_string shut_string)
set_option linter.unusedVariables false
set_option linter.unusedSimpArgs false

theorem own : ownKnob Tryz.prog.godebug = none := by kernel_rfl
theorem Yp : laidOutB Tryz.prog = true := by kernel_rfl

theorem Kq {w : World} {a : Option Addr} {len cap : Nat} {zs : List Int} (h : IsRow .i64 w a len cap zs) : ∃ l, ArgZ w a len cap l := by
  rcases h with ⟨rfl, rfl, rfl, rfl⟩ | ⟨x, rfl, hl, hm, hz, hc, hw⟩
  · exact ⟨[], ⟨⟨Reads.none_, fun z hz => by cases hz⟩, by omega, by omega⟩⟩
  · refine ⟨zs.take len, ⟨⟨⟨by simp [hz]; omega, fun hn => ⟨x, rfl, ?_, fun j u hu => ?_⟩⟩, fun z hz => bounds_i64 (hw z (List.mem_of_mem_take hz))⟩, hl, by unfold maxLen at hm; omega⟩⟩
    · have := Zv (hc 0 (by omega))
      rw [Jt] at this
      exact this
    · have hj : j < len := by
        have := (List.getElem?_eq_some_iff.1 hu).1
        simp at this
        omega
      rw [hc j (by omega)]
      rw [List.getElem?_map, List.getElem?_take, if_pos hj] at hu
      rw [List.getD_eq_getElem?_getD]
      cases j9 : zs[j]? with
      | none => rw [j9] at hu; cases hu
      | some z =>
        rw [j9] at hu
        simpa [zv] using hu

/-! ### the Jbc -/
theorem Jbc (a0 : Option Addr) (len0 cap0 : Nat) (z0 : List Int) (a1 a2 a3 a4 : Int) (w : World) (w0 : IsRow .i64 w a0 len0 cap0 z0) (w1 : (Lit.int .i64 a1).wf = true) (w2 : (Lit.int .i64 a2).wf = true) (w3 : (Lit.int .i64 a3).wf = true) (w4 : (Lit.int .u64 a4).wf = true) (hT : Tab w) :
    Calls Tryz.prog 12 #[.slice a0 len0 cap0, .int .i64 a1, .int .i64 a2, .int .i64 a3, .int .u64 a4] w fun e w' => e = .returned (.bool true) ∧ Below w.heap.size w w' := by
  obtain ⟨l0, o7⟩ := Kq w0
  obtain ⟨h0, h1⟩ := bounds_u64 w4
  obtain ⟨s, rfl⟩ := Int.eq_ofNat_of_zero_le h0
  exact Jq6 a0 len0 cap0 l0 a1 a2 a3 s w o7 (bounds_i64 w1) (bounds_i64 w2) (bounds_i64 w3) (by omega) hT

set_option maxRecDepth 100000 in
/-- what the Jbc gives, for every argument and every world that holds the listed variables -/
theorem Kx (H : Type) (enc : TypeId × Value → H) (W : World) (base : Nat) (args : Array Value) (ds gs : List (DataW H)) (before : List MemPlace)
    (j0 : ∀ (j : Nat) t v, Tryz.f12.params[j]? = some t → args[j]? = some v → Value.okWide Tryz.prog W .any base t v)
    (hW : DataW.Whole enc Tryz.prog Tryz.f12.params.toList Rows.meanSeedsSpec.vars false W args.toList ds gs before) (hL : laidMetH Tryz.prog Rows.meanSeedsRow.laid W) :
    Calls Tryz.prog 12 args W fun e W' => ∃ v, e = .returned v ∧ Rows.meanSeedsSpec.post enc Tryz.prog Tryz.f12 false true false false W args v W' := by
  have e8 : ∀ (j : Nat) t v, Tryz.f12.params[j]? = some t → args[j]? = some v → Value.okWide Tryz.prog W .any base t v := j0
  have o8 := hW
  obtain ⟨p, q, o0, hV, rfl, p9, q8⟩ := hW
  have hA : DataW.TrodAll enc Tryz.prog W 0 (fun _ => true) true Tryz.f12.params.toList args.toList ds p := o0
  rw [Tryz.params12] at hA e8
  obtain ⟨v0, vs0, d0, ds0, p0, q0, o6, rfl, rfl, h0, r0⟩ := trodAll_cons hA
  obtain ⟨v1, vs1, d1, ds1, p1, q1, rfl, rfl, rfl, h1, r1⟩ := trodAll_cons r0
  obtain ⟨v2, vs2, d2, ds2, p2, q2, rfl, rfl, rfl, h2, r2⟩ := trodAll_cons r1
  obtain ⟨v3, vs3, d3, ds3, p3, q3, rfl, rfl, rfl, h3, r3⟩ := trodAll_cons r2
  obtain ⟨v4, vs4, d4, ds4, p4, q4, rfl, rfl, rfl, h4, r4⟩ := trodAll_cons r3
  obtain ⟨rfl, rfl, rfl⟩ := trodAll_nil r4
  obtain rfl : args = #[v0, v1, v2, v3, v4] := by cases args; simp_all
  obtain ⟨rfl, rfl⟩ := trodVars_none hV
  obtain ⟨a0, len0, cap0, rfl⟩ := okWide_slice Tryz.underlying22 (e8 0 22 v0 rfl rfl)
  have k0 := h0
  have lt0 : ∀ x ∈ p0, x.block < W.heap.size := by obtain ⟨m, hm⟩ := k0; exact DataW.trod_lt m _ _ _ hm
  obtain ⟨z0, w0⟩ : ∃ zs, IsRow .i64 W a0 len0 cap0 zs := by
    obtain ⟨fuel, hf⟩ := h0
    rcases open_ints Tryz.underlying22 Tryz.underlying3 (by kernel_rfl) hf with ⟨j6, _⟩ | ⟨x, l, c, zs, j6, _, hl, hm, hz, _, j7, p7⟩
    · simp [Value.cells] at j6
      obtain ⟨rfl, rfl, rfl⟩ := j6
      exact ⟨[], .inl ⟨rfl, rfl, rfl, rfl⟩⟩
    · simp [Value.cells] at j6
      obtain ⟨rfl, rfl, rfl⟩ := j6
      exact ⟨zs, .inr ⟨_, rfl, hl, hm, by simpa using hz, j7, p7⟩⟩
  obtain ⟨a1, rfl, rfl, rfl, w1⟩ := open_int Tryz.underlying3 (e8 1 3 v1 rfl rfl) h1
  obtain ⟨a2, rfl, rfl, rfl, w2⟩ := open_int Tryz.underlying3 (e8 2 3 v2 rfl rfl) h2
  obtain ⟨a3, rfl, rfl, rfl, w3⟩ := open_int Tryz.underlying3 (e8 3 3 v3 rfl rfl) h3
  obtain ⟨a4, rfl, rfl, rfl, w4⟩ := open_int Tryz.underlying59 (e8 4 59 v4 rfl rfl) h4
  clear o0 j0
  refine (Jbc a0 len0 cap0 z0 a1 a2 a3 a4 W w0 w1 w2 w3 w4 (Jga (rest := []) hL)).mono fun e W' ⟨he, hg⟩ => ?_
  subst he
  exact ⟨_, rfl, _, _, _, [], _, [], o8, trodAll_mk1 (shut_bool Tryz.underlying4 _), (trodAll_cons_mk (Below.trod Yp (by kernel_rfl) (of_decide_eq_true (by kernel_rfl)) k0 hg lt0) (trodAll_cons_mk (shut_int Tryz.underlying3 w1) (trodAll_cons_mk (shut_int Tryz.underlying3 w2) (trodAll_cons_mk (shut_int Tryz.underlying3 w3) (trodAll_cons_mk (shut_int Tryz.underlying59 w4) trodAll_mk0))))), rfl, hg.frame _, fun h => by cases h⟩

noncomputable def Qs (os : Os) : World :=
  { World.holding Tryz.prog os ⟨#[], #[], []⟩ with heap := Array.modify ((World.holding Tryz.prog os ⟨#[], #[], []⟩).heap) 2 (fun | .cells _ t frozen => .cells ((Lib.deBruijn64tab.map (fun n : Nat => Value.int .u8 (n : Int))).toArray) t frozen | o => o) }
theorem Ku (os : Os) : laidMet Tryz.prog Rows.meanSeedsRow.laid ((Qs os).forCall (fun _ _ => 0) ⟨#[], #[.slice none 0 0, .int .i64 0, .int .i64 0, .int .i64 0, .int .u64 0], []⟩).memory :=
  laidMet_of_run' 80 (by kernel_rfl) (by kernel_rfl)
theorem reads (os : Os) {H : Type} (enc : TypeId × Value → H) : ∃ places, DataW.whole enc Tryz.prog ((Qs os).forCall (fun _ _ => 0) ⟨#[], #[.slice none 0 0, .int .i64 0, .int .i64 0, .int .i64 0, .int .u64 0], []⟩).memory Tryz.f12.params.toList Rows.meanSeedsSpec.vars false (#[.slice none 0 0, .int .i64 0, .int .i64 0, .int .i64 0, .int .u64 0] : Array Value).toList 8 = some ([.nil, .lit (.int .i64 0), .lit (.int .i64 0), .lit (.int .i64 0), .lit (.int .u64 0)], [], places) :=
  ⟨[], by kernel_rfl⟩

set_option maxRecDepth 100000 in
theorem Jbi (os : Os) (started : os.Started) (H : Type) (enc : TypeId × Value → H) (F : Stop.Interp) :
    ReturnsInHanded {} Tryz.checked os 12 .any ((OpenSpec.ofChange Rows.meanSeedsSpec).preRow enc Tryz.prog Tryz.f12 Rows.meanSeedsRow.domain false Rows.meanSeedsRow.laid) (((OpenSpec.ofChange Rows.meanSeedsSpec).at F).post enc Tryz.prog Tryz.f12 false true false false) := by
  obtain ⟨places, hx⟩ := reads os enc
  refine returnsInHanded_of_row (C := Tryz.checked) (s := OpenSpec.ofChange Rows.meanSeedsSpec) own started (by kernel_rfl) Tryz.func12
    (witness_row_at (enc := enc) (C := Tryz.checked) false (Qs os) #[.slice none 0 0, .int .i64 0, .int .i64 0, .int .i64 0, .int .u64 0] rfl (by kernel_rfl) (by kernel_rfl) (by kernel_rfl)
      (OpenSpec.preRow_of_cond 8 hx (by kernel_rfl) (fun k hk => by cases hk) (by kernel_rfl) (Ku os))) ?_
  intro W base args ds gs before e8 hW _ _ _ hL _ _
  exact Kx H enc W base args ds gs before e8 hW hL

theorem said : Rows.MeanSeedsSaid :=
  OpenClaim.holds_of_cond 12 Tryz.f12 rfl rfl rfl rfl rfl rfl rfl ⟨rfl, rfl, rfl, rfl, rfl⟩ rfl rfl rfl rfl rfl (by kernel_rfl) Tryz.func12 (by kernel_rfl)
    (of_decide_eq_true (by kernel_rfl)) (by unfold Func.isWrapper; first | (rw [if_pos (by decide +kernel)]; kernel_rfl) | (rw [if_neg (by decide +kernel)]; exact ⟨rfl, rfl⟩))
    (fun os started H enc _ F => by rw [OpenClaim.pre_eq_preRow]; exact Jbi os started H enc F)

theorem plain (f : FuncId) (fn : Func) (hf : Tryz.pinned.checked.prog.funcNamed "abaculus/abaculuslaw22.MeanSeeds" = some f) (p8 : Tryz.pinned.checked.prog.funcs[f]? = some fn) :
    false = Tryz.pinned.checked.prog.looks [] ∧ ∀ (j : Nat) t, fn.params[j]? = some t → Tryz.pinned.checked.prog.wantsStandIn t = false := by
  obtain rfl : f = 12 := Option.some.inj ((show Tryz.prog.funcNamed "abaculus/abaculuslaw22.MeanSeeds" = some 12 by kernel_rfl).symm.trans hf) |>.symm
  obtain rfl : fn = Tryz.f12 := (Option.some.inj (Tryz.func12.symm.trans p8)).symm
  refine ⟨by kernel_rfl, fun j t ht => ?_⟩
  have j8 : Tryz.f12.params.all (fun t => !Tryz.prog.wantsStandIn t) = true := by kernel_rfl
  have := Array.all_eq_true_iff_forall_mem.1 j8 t (Array.mem_of_getElem? ht)
  have h2 : Tryz.prog.wantsStandIn t = false := by simpa using this
  exact h2

theorem proved : Rows.MeanSeedsCardSaid :=
  Claim7.holds_tied_plain_at .later [] _ _ _ _ said (fun _ h => by cases h) (by kernel_rfl) (fun _ h => by cases h) meanSeeds_row_tie rfl ⟨rfl, rfl⟩ (by kernel_rfl) rfl plain (by kernel_rfl)
#print axioms proved
end Go.Proofs.YtacbcaebaomglaaGreatDoor.meanSeeds
