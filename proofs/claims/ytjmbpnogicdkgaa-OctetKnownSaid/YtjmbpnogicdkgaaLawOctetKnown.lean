/-
  Proved here: abaculuslaw4.OctetKnown returns true. No condition.
-/
import Derived.Test.YtjmbpnogicdkgaaRows
import Derived.Test.YtjmbpnogicdkgaaLawKit
import Derived.Test.YtjmbpnogicdkgaaKnown4
import Derived.Test.YtjmbpnogicdkgaaReaderC
import Derived.Test.YtjmbpnogicdkgaaNext
import Derived.ArgAppend
import Derived.Lib.SlBytesConst
import Derived.WalkKit
import Derived.ProofKit
import Derived.OpenShut
import Derived.ShutString
import Derived.ChangeOld
import Derived.Below
namespace Go.Proofs.Ytjmbpnogicdkgaa.octetKnown
open Go.ChangeShapes Go.WideShapes Go.ChangeAt Go.RowKit
open Go.ChangeMaps (open_string shut_string)
set_option linter.unusedVariables false
set_option linter.unusedSimpArgs false

theorem own : ownKnob Try.prog.godebug = none := by kernel_rfl
theorem laidOut : laidOutB Try.prog = true := by kernel_rfl

theorem litBytes (w : World) (l : List UInt8) (t : TypeId) (fr : Nat × Nat) : Bytes (w.alloc (.cells (l.map u8v).toArray t fr)) (w.heap.size + 1) (some ⟨w.heap.size, 0, none⟩) l.length l := by
  refine ⟨by simp, fun _ => ⟨_, rfl, by simp, fun j u hu => ?_⟩⟩
  rw [add_zero_off, cell_of_row _ w.heap.size j (l.map u8v).toArray t fr (heap_alloc_new w _)]
  simpa using hu

theorem seal_bad0 (A : Option Addr) (n c : Nat) (w : World) :
    Calls Try.prog 18 #[.int .i64 0, .slice A n c] w fun e w' => e = .returned (.tuple #[.slice none 0 0, .int .i64 1]) ∧ w = w' := by
  go_enter Try.func18, Try.ntmps18
  go_wp2
  go_returns
  exact ⟨rfl, rfl⟩

def K13 : List UInt8 := sealB 7 [97, 98, 99]
theorem K13_len : K13.length = 13 := by decide +kernel
theorem K13_next : nextR (K13 ++ [9]) = (7, [97, 98, 99], 13, 0) := by decide +kernel
theorem K13_short : nextR (K13.take 12) = (0, [], 0, 3) := by decide +kernel
theorem next_nil : nextR [] = (0, [], 0, 3) := by decide +kernel
theorem next_0 : nextR [0] = (0, [], 0, 2) := by decide +kernel
theorem next_1 : nextR [1, 128, 0] = (0, [], 0, 2) := by decide +kernel
theorem next_2 : nextR [1, 255, 255, 255, 127] = (0, [], 0, 4) := by decide +kernel
theorem st_1 : stWhole ([1, 5], false) = (0, stFail) := by decide +kernel

set_option maxRecDepth 100000 in
set_option maxHeartbeats 2000000 in
theorem walkN (w : World) : Calls Try.prog 7 #[] w (Ret (.bool true) w) := by
  have kc := fun (w : World) (C : Array Value) (n c : Nat) => Lib.run_convert_bytes_const (P := Try.prog) w 29 5 C n c Try.underlying29 Try.underlying5
  go_enter Try.func7, Try.ntmps7
  go_wp2_with fail
  clear kc
  refine (octet_seal_full 7 _ 3 _ _ [97, 98, 99] _ (litBytes w [97, 98, 99] 5 (3, 4)) (by simp) (by omega) (by omega) (by omega)).mono ?_
  rintro e x1 ⟨g, L, rfl, ho1, hb1, hf1⟩
  have hB1 : Below w.heap.size w x1 := bthen (balloc1 w _) hb1
  have hL : L = 13 := by
    obtain ⟨A, c, hv, _⟩ := ho1.form
    have hv2 : lenOf (.slice (some ⟨g, 0, none⟩) L L) = (sealB 7 [97, 98, 99]).length := by rw [hv]; rfl
    exact hv2.trans K13_len
  subst hL
  have ho1 : Own x1 5 u8v (.slice (some ⟨g, 0, none⟩) 13 13) K13 := ho1
  have hr1 := Own.reads ho1
  rw [K13_len] at hr1
  clear ho1 hf1 hb1
  obtain ⟨i0, hi0, hz0, hz1, hz2⟩ := info_parts Try.infoU8
  go_wp2_with (at_builtin; refine wpList_append_grows _ rfl (.tmp 41) (.tmp 42) 29 rfl 5 i0 (.int .u8 0) 1 1 Try.underlying29 hi0 hz0 hz1 hz2 rfl (by omega) (some ⟨g, 0, none⟩) 13 13 (K13.map u8v) rfl (fun h => by cases h) (by simp [K13_len]) ?c0 ⟨x1.heap.size, 0, none⟩ 1 1 [.int .u8 9] rfl rfl ?c1 ?c2 (by omega) (by unfold maxLen; omega) (by omega) ?_)
  case c0 =>
    intro b hb j u hu
    have h5 := Reads.alloc hr1 (Nat.le_refl _) (.cells #[.int .u8 9] 5)
    obtain ⟨ad, ha, _, hc⟩ := h5.2 (by omega)
    have : ad = b := by
      injection ha with ha
      injection hb with hb
      rw [← ha, ← hb]
    subst this
    exact hc j u hu
  case c1 =>
    intro j u hu
    have h5 := Reads.one x1 (.int .u8 9) 5
    obtain ⟨ad, ha, _, hc⟩ := h5.2 (by omega)
    injection ha with ha
    subst ha
    exact hc j u hu
  case c2 =>
    intro u hu
    simp at hu
    subst hu
    rfl
  intro v2 x2 ho2 hg2
  have hb2 : Below x1.heap.size x1 x2 := bthen (balloc1 x1 _) ⟨hg2.os, hg2.tape, hg2.output, hg2.size, fun k hk => hg2.block k hk (by simp)⟩
  have hB2 := bthen hB1 hb2
  have hz : x1.heap.size ≤ x2.heap.size := hb2.size
  have hr1 := Reads.below hr1 hb2
  obtain ⟨g2, cap2, hv2, hq2, hq3⟩ := ho2.form (by omega)
  rw [hv2] at ho2
  have hr2 := Reads.of_own ho2
  have hcap : 14 ≤ cap2 ∧ cap2 ≤ maxLen := by
    rcases ho2.2 with ⟨h1, _⟩ | ⟨g', cap, cur, h1, _, _, h3, h4, _⟩
    · cases h1
    · injection h1 with _ _ h1
      omega
  have hr2 : Bytes x2 x2.heap.size (some ⟨g2, 0, none⟩) 14 (K13 ++ [9]) := by
    unfold Bytes
    rw [List.map_append]
    exact hr2
  rw [hv2]
  unfold maxLen at hcap
  clear hv2 ho2 hg2 hB1 hb2 hi0 hz0 hz1 hz2
  go_wp2_with fail
  refine (octet_next _ 14 cap2 _ (K13 ++ [9]) x2 hr2 (Nat.le_refl _) (by omega) (by omega) (by omega)).mono ?_
  rintro e x3 ⟨v3, rfl, ho3, hb3, hf3⟩
  rw [K13_next] at ho3 ⊢
  have hB3 := bthen hB2 hb3
  have hr1 := Reads.below hr1 (hb3.mono hz)
  have hz := Nat.le_trans hz hb3.size
  obtain ⟨A3, c3, hv3, _, _⟩ := ho3.form
  rw [hv3] at ho3 ⊢
  have hs1 : Bytes x3 x3.heap.size A3 3 [97, 98, 99] := Own.reads ho3
  have hblk0 : ∀ ad, A3 = some ad → ad.block < x3.heap.size := fun ad he => ho3.lt ad.block (by rw [he]; rfl)
  have hzs : x3.heap.size ≤ x3.heap.size := Nat.le_refl _
  generalize hs3 : x3.heap.size = z3 at hs1 hzs
  have hzs : z3 ≤ x3.heap.size := Nat.le_of_eq hs3.symm
  have hblk : ∀ ad, A3 = some ad → ad.block < z3 := fun ad he => by rw [← hs3]; exact hblk0 ad he
  clear hv3 ho3 hb3 hf3 hB2 hr2 hcap hq2 hq3 hs3 hblk0
  go_wp2_with fail
  refine (seal_bad0 none 0 0 x3).mono ?_
  rintro e x4 ⟨rfl, rfl⟩
  go_wp2_with fail
  refine (octet_next none 0 0 0 [] x3 Reads.none_ (by omega) (by omega) (by omega) (by omega)).mono ?_
  rintro e x4 ⟨v4, rfl, ho4, hb4, hf4⟩
  rw [next_nil] at ho4 ⊢
  have hB4 := bthen hB3 hb4
  have hr1 := Reads.below hr1 (hb4.mono hz)
  have hs1 := Reads.below hs1 (hb4.mono hzs)
  have hz := Nat.le_trans hz hb4.size
  have hzs := Nat.le_trans hzs hb4.size
  obtain ⟨A4, c4, hv4, _, _⟩ := ho4.form
  rw [hv4]
  clear hv4 ho4 hb4 hf4 hB3
  go_wp2_with fail
  refine (octet_next _ 1 1 _ [0] _ (litBytes x4 [0] 5 (0, 0)) (by simp) (by omega) (by omega) (by omega)).mono ?_
  rintro e x5 ⟨v5, rfl, ho5, hb5, hf5⟩
  rw [next_0] at ho5 ⊢
  have hB5 := bthen hB4 (bthen (balloc1 x4 _) hb5)
  have hr1 := Reads.below hr1 ((bthen (balloc1 x4 _) hb5).mono hz)
  have hs1 := Reads.below hs1 ((bthen (balloc1 x4 _) hb5).mono hzs)
  have hz := Nat.le_trans hz (bthen (balloc1 x4 _) hb5).size
  have hzs := Nat.le_trans hzs (bthen (balloc1 x4 _) hb5).size
  obtain ⟨A5, c5, hv5, _, _⟩ := ho5.form
  rw [hv5]
  clear hv5 ho5 hb5 hf5 hB4
  go_wp2_with fail
  refine (octet_next _ 3 3 _ [1, 128, 0] _ (litBytes x5 [1, 128, 0] 5 (0, 0)) (by simp) (by omega) (by omega) (by omega)).mono ?_
  rintro e x6 ⟨v6, rfl, ho6, hb6, hf6⟩
  rw [next_1] at ho6 ⊢
  have hB6 := bthen hB5 (bthen (balloc1 x5 _) hb6)
  have hr1 := Reads.below hr1 ((bthen (balloc1 x5 _) hb6).mono hz)
  have hs1 := Reads.below hs1 ((bthen (balloc1 x5 _) hb6).mono hzs)
  have hz := Nat.le_trans hz (bthen (balloc1 x5 _) hb6).size
  have hzs := Nat.le_trans hzs (bthen (balloc1 x5 _) hb6).size
  obtain ⟨A6, c6, hv6, _, _⟩ := ho6.form
  rw [hv6]
  clear hv6 ho6 hb6 hf6 hB5
  go_wp2_with fail
  refine (octet_next _ 5 5 _ [1, 255, 255, 255, 127] _ (litBytes x6 [1, 255, 255, 255, 127] 5 (0, 0)) (by simp) (by omega) (by omega) (by omega)).mono ?_
  rintro e x7 ⟨v7, rfl, ho7, hb7, hf7⟩
  rw [next_2] at ho7 ⊢
  have hB7 := bthen hB6 (bthen (balloc1 x6 _) hb7)
  have hr1 := Reads.below hr1 ((bthen (balloc1 x6 _) hb7).mono hz)
  have hs1 := Reads.below hs1 ((bthen (balloc1 x6 _) hb7).mono hzs)
  have hz := Nat.le_trans hz (bthen (balloc1 x6 _) hb7).size
  have hzs := Nat.le_trans hzs (bthen (balloc1 x6 _) hb7).size
  obtain ⟨A7, c7, hv7, _, _⟩ := ho7.form
  rw [hv7]
  clear hv7 ho7 hb7 hf7 hB6
  have hrf := Reads.front hr1 (k := 12) (by omega)
  rw [Nat.mul_one, ← List.map_take] at hrf
  go_wp2_with fail
  refine (octet_next _ 12 13 _ (K13.take 12) x7 hrf hz (by omega) (by omega) (by omega)).mono ?_
  rintro e x8 ⟨v8, rfl, ho8, hb8, hf8⟩
  rw [K13_short] at ho8 ⊢
  have hB8 := bthen hB7 hb8
  have hs1 := Reads.below hs1 (hb8.mono hzs)
  have hzs := Nat.le_trans hzs hb8.size
  obtain ⟨A8, c8, hv8, _, _⟩ := ho8.form
  rw [hv8]
  clear hv8 ho8 hb8 hf8 hB7 hr1 hz hrf
  go_wp2_with fail
  refine (new_reader _ 2 2 _ [1, 5] _ (litBytes x8 [1, 5] 5 (0, 0)) (by simp) (by omega)).mono ?_
  rintro e x9 ⟨r, Br, rfl, hR, hb9, hrg⟩
  have hb9' := bthen (balloc1 x8 _) hb9
  have hB9 := bthen hB8 hb9'
  have hs1 := Reads.below hs1 (hb9'.mono hzs)
  have hzs0 := hzs
  have hzs := Nat.le_trans hzs hb9'.size
  have hrw : x8.heap.size < r := by simp at hrg; omega
  have hzr : z3 ≤ x8.heap.size := hzs0
  have hwr : w.heap.size ≤ r := by have := hB8.size; omega
  clear hb9' hb9 hrg
  go_wp2_with fail
  refine (reader_whole r Br ([1, 5], false) x9 hR (by simp)).mono ?_
  rintro e y1 ⟨rfl, hR1, hx1⟩
  rw [st_1] at hR1 ⊢
  have hY1 : Below w.heap.size w y1 := hB9.trans (Exc.below hx1 hB9.size hwr)
  have hs1 := Reads.exc hs1 hx1 hzs (fun ad he => ?_)
  rotate_left
  · have := hblk ad he
    omega
  have hzs := Nat.le_trans hzs hx1.size
  have e0 : intV 0 = .agg #[.bool false, .int .u64 0, .string ⟨#[]⟩] := by
    unfold intV
    rw [show (0 : Int).natAbs = 0 from rfl, lo_small 0 (by omega), mo_small 0 (by omega)]
    rfl
  simp only []
  rw [e0]
  have bx := Blk.new y1 53 #[.bool false, .int .u64 0, .string ⟨#[]⟩]
  have hRy := hR1.below (balloc1 y1 (.cells #[.bool false, .int .u64 0, .string ⟨#[]⟩] 53))
  have hY2 := bthen hY1 (balloc1 y1 (.cells #[.bool false, .int .u64 0, .string ⟨#[]⟩] 53))
  have hs2 := Reads.alloc hs1 hzs (.cells #[.bool false, .int .u64 0, .string ⟨#[]⟩] 53)
  have hzy : z3 ≤ (y1.alloc (.cells #[.bool false, .int .u64 0, .string ⟨#[]⟩] 53)).heap.size := by simp; omega
  go_wp2_with fail
  refine (octet_known _).mono ?_
  rintro e y2 ⟨rfl, hb2⟩
  have hRy := hRy.below hb2
  have hY2 := bthen hY2 hb2
  have hs2 := Reads.below hs2 (hb2.mono hzy)
  (try clear bxq0 bxq1 bxq2 bxf0 bxf1 bxf2 bxs0 bxs1 bxs2); have bx := bx.below hb2 bx.lt; obtain ⟨bxq0, bxq1, bxq2, bxf0, bxf1, bxf2, bxs0, bxs1, bxs2⟩ := bx.f3
  have hstr := run_string (P := Try.prog) y2 29 9 5 A3 3 c3 _ _ Try.underlying29 Try.underlying5 Try.underlying9 hs2
  clear hb2 hs1 hzy
  go_wp2_with fail
  refine (octet_sum none 0 0 [] 0 y2 Reads.none_ (by omega)).mono ?_
  rintro e y3 ⟨rfl, rfl⟩
  have hfn : fnv [] = 14695981039346656037 := by decide +kernel
  rw [hfn]
  clear hfn
  go_wp2_with fail
  have hsg := whole_sign 0 y2 (by decide)
  rw [e0] at hsg
  refine hsg.mono ?_
  rintro e y3 ⟨rfl, hb3⟩
  have hRy := hRy.below hb3
  have hY3 := bthen hY2 hb3
  clear hsg hstr hs2 hb3 bx
  clear bxq0 bxq1 bxq2 bxf0 bxf1 bxf2 bxs0 bxs1 bxs2
  go_wp2_with fail
  refine (reader_bad r Br _ y3 hRy).mono ?_
  rintro e y4 ⟨rfl, rfl⟩
  go_wp2_with fail
  refine (reader_left r Br _ y3 hRy).mono ?_
  rintro e y4 ⟨rfl, rfl⟩
  go_wp2_with fail
  refine (reader_bool r Br _ y3 hRy).mono ?_
  rintro e y4 ⟨rfl, hR4, hx4⟩
  have hY4 : Below w.heap.size w y4 := hY3.trans (Exc.below hx4 hY3.size hwr)
  go_wp2_with fail
  refine (reader_text r Br 9 _ y4 hR4 (by simp [stBool, stTake, stFail])).mono ?_
  rintro e y5 ⟨rfl, hR5, hx5⟩
  have hY5 : Below w.heap.size w y5 := hY4.trans (Exc.below hx5 hY4.size hwr)
  have e5 : stText 9 (stBool stFail).2 = ([], stFail) := by decide +kernel
  rw [e5]
  clear e5 e0 hR4 hR5 hRy
  go_wp2
  go_ret
  exact ⟨rfl, hY5⟩

/-! ### the walk -/
theorem walk (w : World) :
    Calls Try.prog 7 #[] w fun e w' => e = .returned (.bool true) ∧ Below w.heap.size w w' := walkN w

set_option maxRecDepth 100000 in
theorem lifted (os : Os) (started : os.Started) (H : Type) (enc : TypeId × Value → H) :
    ReturnsInHanded {} Try.checked os 7 .any (Rows.octetKnownSpec.pre6 enc Try.prog Try.f7 Rows.octetKnownRow.domain false) (Rows.octetKnownSpec.post enc Try.prog Try.f7 false true false false) := by
  refine returnsInHanded_of_change (C := Try.checked) own started (by kernel_rfl) Try.func7
    (ChangeSpec.witness6 (enc := enc) (C := Try.checked) false ⟨#[], #[], []⟩ 8 (by kernel_rfl) (by kernel_rfl) (by kernel_rfl) (by kernel_rfl)) ?_
  intro W base args ds gs before hval0 hW hcnd _
  have hval : ∀ (j : Nat) t v, Try.f7.params[j]? = some t → args[j]? = some v → Value.okWide Try.prog W .any base t v := hval0
  have hW' := hW
  obtain ⟨p, q, hA0, hV, rfl, hfz, hnd⟩ := hW
  have hA : DataW.TrodAll enc Try.prog W 0 (fun _ => true) true Try.f7.params.toList args.toList ds p := hA0
  rw [Try.params7] at hA hval
  obtain ⟨rfl, rfl, rfl⟩ := trodAll_none hA
  obtain ⟨rfl, rfl⟩ := trodVars_none hV
  clear hA0 hval0
  simp only [List.append_nil] at hW'
  refine (walk  W).mono fun e W' ⟨he, hg⟩ => ?_
  subst he
  exact ⟨_, rfl, _, _, _, [], _, [], hW', trodAll_mk1 (shut_bool Try.underlying4 _), rfl, rfl, hg.frame _, fun h => by cases h⟩

theorem over : Rows.octetKnownRow.holds Try.pinned (OpenSpec.ofChange Rows.octetKnownSpec) :=
  OpenClaim.holds_of_wide 7 Try.f7 rfl rfl rfl rfl rfl rfl rfl ⟨rfl, rfl, rfl, rfl, rfl⟩ rfl rfl rfl rfl rfl (by kernel_rfl) Try.func7 (by kernel_rfl)
    (of_decide_eq_true (by kernel_rfl)) (by unfold Func.isWrapper; first | (rw [if_pos (by decide +kernel)]; kernel_rfl) | (rw [if_neg (by decide +kernel)]; exact ⟨rfl, rfl⟩))
    (fun os started H enc _ => lifted os started H enc)

theorem proved : Rows.OctetKnownSaid :=
  over
#print axioms proved
end Go.Proofs.Ytjmbpnogicdkgaa.octetKnown
