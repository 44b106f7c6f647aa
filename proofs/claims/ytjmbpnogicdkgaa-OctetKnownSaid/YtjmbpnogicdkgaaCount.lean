/-
  octet.appendCount: a count as bytes of seven bits, the lowest first.
-/
import Derived.Test.YtjmbpnogicdkgaaProg
import Derived.Test.YtjmbpnogicdkgaaNum
import Derived.Test.YtjmbpnogicdkgaaOwn
namespace Go.Proofs.Ytjmbpnogicdkgaa
open Go.RowKit
set_option linter.unusedSimpArgs false
set_option linter.unusedVariables false

def countF : Nat → Nat → List UInt8
  | 0, n => [UInt8.ofNat n]
  | f + 1, n => if n < 128 then [UInt8.ofNat n] else UInt8.ofNat (n % 128 + 128) :: countF f (n / 128)
def countB (n : Nat) : List UInt8 := countF 9 n
theorem countF_small (f n : Nat) (h : n < 128) : countF f n = [UInt8.ofNat n] := by
  cases f <;> simp [countF, h]
theorem countF_big (f n : Nat) (h : ¬ n < 128) : countF (f + 1) n = UInt8.ofNat (n % 128 + 128) :: countF f (n / 128) := by
  simp [countF, h]
theorem countF_len (f : Nat) : ∀ n, (countF f n).length ≤ f + 1 := by
  induction f with
  | zero => intro n; simp [countF]
  | succ f ih =>
    intro n
    by_cases h : n < 128
    · rw [countF_small _ _ h]; simp
    · rw [countF_big _ _ h]
      have := ih (n / 128)
      simp; omega
theorem or128 : ∀ m : Nat, m < 256 → m ||| 128 = m % 128 + 128 := by decide +kernel
theorem count_walk (n : Nat) : bits .or .u8 ((n : Int) % 256) 128 = ((UInt8.ofNat (n % 128 + 128)).toNat : Int) := by
  rw [show (n : Int) % 256 = ((n % 256 : Nat) : Int) from by omega]
  have h : n % 256 < 256 := Nat.mod_lt _ (by omega)
  have e := or_u8 (n % 256) 128 h (by omega)
  rw [show ((128 : Nat) : Int) = 128 from rfl] at e
  rw [e, or128 _ h, UInt8.toNat_ofNat']
  omega
theorem Try.infoU8 : (Try.prog.info? 5).map (fun i => (i.zero, i.size, i.bytes)) = some (some (.int .u8 0), 1, 1) := by kernel_rfl

theorem Try.eltU8 : Elt Try.prog 29 5 (.int .u8 0) 1 := ⟨Try.underlying29, Try.infoU8, rfl⟩
theorem u8v_one (b : UInt8) : (u8v b).oneCell' = true := rfl

def CountRel (w : World) (v0 : Value) (goal : List UInt8) (m : Nat) (v : Value) (wr : World) : Prop :=
  ∃ f l, m < 128 ^ (f + 1) ∧ l ++ countF f m = goal ∧ Own wr 5 u8v v l ∧ Grew w wr v0 v

set_option maxRecDepth 100000 in
set_option maxHeartbeats 400000 in
theorem append_count_int (v : Value) (l : List UInt8) (z : Int) (n : Nat) (hz : z.toNat = n) (w : World) (ho : Own w 5 u8v v l) (hn : n ≤ 9223372036854775807) (hl : l.length ≤ 1099511627776) :
    Calls Try.prog 33 #[v, .int .i64 z] w fun e w' => ∃ v', e = .returned v' ∧ Own w' 5 u8v v' (l ++ countB n) ∧ Grew w w' v v' := by
  obtain ⟨A, c, rfl, hc1, hc2⟩ := ho.form
  have hmx : (if z < 0 then (0 : Int) else z) = (n : Int) := by split <;> omega
  have hmx2 : (if (0 : Int) < z then z else 0) = (n : Int) := by split <;> omega
  have hmx3 : max z 0 = (n : Int) := by omega
  clear hz
  go_enter Try.func33, Try.ntmps33
  go_wp2
  clear hmx hmx2 hmx3
  go_loopw [0, 1] (fun v x wr => ∃ m : Nat, m ≤ n ∧ x = .int .i64 m ∧ CountRel w (.slice A l.length c) (l ++ countB n) m v wr) (fun _ x _ => (intOf x).toNat)
  case atStart => exact ⟨n, Nat.le_refl _, rfl, 9, l, by omega, rfl, ho, Grew.refl _ _⟩
  case round =>
    obtain ⟨m, hm, rfl, f, l1, hm2, hl1, ho1, hg1⟩ := hrel
    obtain ⟨A1, c1, rfl, hc3, hc4⟩ := ho1.form
    have hlen := congrArg List.length hl1
    have hcl := countF_len 9 n
    have hll : l1.length ≤ 1099511627786 := by
      simp only [List.length_append, countB] at hlen
      omega
    have HL1 := Lib.hid hl1
    have HM2 := Lib.hid hm2
    clear hl1 hlen hcl hm2 ho hc1 hc2
    by_cases hlt : m < 128
    · have HX : Hid (.int .u8 (m : Int) = u8v (UInt8.ofNat m)) := by
        show .int .u8 (m : Int) = u8v (UInt8.ofNat m)
        unfold u8v
        rw [UInt8.toNat_ofNat', Nat.mod_eq_of_lt (by omega)]
      go_wp2_with (at_builtin; refine app1 Try.eltU8 rfl (.tmp 17) (.tmp 20) rfl wr _ l1 (UInt8.ofNat m) _ HX.out rfl ho1 rfl (u8v_one _) ?c1 ?c2 ?_)
      case c1 => unfold maxLen; omega
      case c2 => omega
      intro v' w1 hown' hgr
      go_wp2
      go_ret
      refine ⟨v', rfl, ?_, hg1.trans hgr⟩
      have := HL1.out
      rw [countF_small _ _ hlt] at this
      rw [← this]
      exact hown'
    · have e1 := count_walk m
      obtain ⟨x, hx⟩ : ∃ x, UInt8.ofNat (m % 128 + 128) = x := ⟨_, rfl⟩
      rw [hx] at e1
      have HX := Lib.hid hx
      clear hx
      obtain ⟨g, rfl⟩ : ∃ g, f = g + 1 := by
        cases f with
        | zero => have := HM2.out; omega
        | succ g => exact ⟨g, rfl⟩
      go_wp2_with (at_builtin; refine app1 Try.eltU8 rfl (.tmp 9) (.tmp 13) rfl wr _ l1 x _ rfl rfl ho1 rfl (u8v_one _) ?d1 ?d2 ?_)
      case d1 => unfold maxLen; omega
      case d2 => omega
      intro v' w1 hown' hgr
      go_wp2
      have h1 := HL1.out
      rw [countF_big _ _ hlt, HX.out] at h1
      have h2 := HM2.out
      refine ⟨⟨m / 128, by omega, by go_num, g, l1 ++ [x], ?_, by rw [List.append_assoc]; exact h1, hown', hg1.trans hgr⟩, by simp [intOf]; omega⟩
      rw [Nat.pow_succ] at h2
      omega
theorem append_count (v : Value) (l : List UInt8) (n : Nat) (w : World) (ho : Own w 5 u8v v l) (hn : n ≤ 9223372036854775807) (hl : l.length ≤ 1099511627776) :
    Calls Try.prog 33 #[v, .int .i64 (n : Int)] w fun e w' => ∃ v', e = .returned v' ∧ Own w' 5 u8v v' (l ++ countB n) ∧ Grew w w' v v' :=
  append_count_int v l (n : Int) n (Int.toNat_natCast n) w ho hn hl
end Go.Proofs.Ytjmbpnogicdkgaa
