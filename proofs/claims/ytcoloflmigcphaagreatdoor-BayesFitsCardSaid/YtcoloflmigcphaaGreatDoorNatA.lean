import Derived.Test.YtcoloflmigcphaaGreatDoorProg
import Derived.Test.YtcoloflmigcphaaGreatDoorShelf
import Derived.Deep.QuietTactic
import Derived.BigQuiet
import Derived.Test.YtcoloflmigcphaaGreatDoorOctet
import Derived.Deep.DeepMust
import Derived.Deep.RegionWith
import Derived.Shelf.Spec.BitsCarry
namespace Go.Proofs.YtcoloflmigcphaaGreatDoor
set_option maxRecDepth 100000
set_option maxHeartbeats 1000000
open Go.RowKit
set_option linter.all false
theorem Yg {P : Program} (t : TypeId) (ht : P.underlying t = some .string) (s : ByteArray) (l : List UInt8) (hs : s.data.toList = l) (k : IntKind) (i : Int) (h0 : 0 <= i) (x : UInt8) (hx : l[i.toNat]? = some x) (w : World) :
  (Instr.index t (.string s) (.int k i)).run P w = .ok (.int .u8 (x.toNat : Int)) w := by
 subst hs
 have hi : i.toNat < s.size := by
  have := (List.getElem?_eq_some_iff.1 hx).1
  simpa using this
 have dY : s[i.toNat]'hi = x := by
  have := (List.getElem?_eq_some_iff.1 hx).2
  simp at this
  exact this
 rw [run_index_string w t s k i ht, dif_pos ⟨h0, by omega⟩, dY]
theorem Uh (a b k : Nat) (ha : a < 2 ^ k) (hb : b < 256) (hk : k + 8 <= 64) : bits .or .u64 (a : Int) (IntKind.u64.wrap (IntKind.u64.wrap (b : Int) * ((2 ^ k : Nat) : Int))) = ((a + b * 2 ^ k : Nat) : Int) := by
 have h1 : b * 2 ^ k < 18446744073709551616 := by
  have h2 : b * 2 ^ k < 256 * 2 ^ k := Nat.mul_lt_mul_of_pos_right hb (Nat.two_pow_pos k)
  have h3 : 256 * 2 ^ k = 2 ^ (k + 8) := by rw [Nat.pow_add, Nat.mul_comm]
  have h4 : 2 ^ (k + 8) <= 2 ^ 64 := Nat.pow_le_pow_right (by omega) hk
  omega
 have h5 : a < 18446744073709551616 := by
  have h4 : 2 ^ k <= 2 ^ 64 := Nat.pow_le_pow_right (by omega) (by omega)
  omega
 rw [Jf, Nat.mod_eq_of_lt (by omega), <- Int.natCast_mul, Jf, Nat.mod_eq_of_lt h1, Ut _ _ h5 h1]
 rw [Nat.add_comm a, Nat.mul_comm b, Nat.two_pow_add_eq_or_of_lt ha, Nat.or_comm]
theorem Jnh (b0 b1 b2 b3 b4 b5 b6 b7 : UInt8) :
  bits .or .u64 (bits .or .u64 (bits .or .u64 (bits .or .u64 (bits .or .u64 (bits .or .u64 (bits .or .u64 (IntKind.u64.wrap (b0.toNat : Int)) (IntKind.u64.wrap (IntKind.u64.wrap (b1.toNat : Int) * 256))) (IntKind.u64.wrap (IntKind.u64.wrap (b2.toNat : Int) * 65536)))
   (IntKind.u64.wrap (IntKind.u64.wrap (b3.toNat : Int) * 16777216))) (IntKind.u64.wrap (IntKind.u64.wrap (b4.toNat : Int) * 4294967296))) (IntKind.u64.wrap (IntKind.u64.wrap (b5.toNat : Int) * 1099511627776)))
   (IntKind.u64.wrap (IntKind.u64.wrap (b6.toNat : Int) * 281474976710656))) (IntKind.u64.wrap (IntKind.u64.wrap (b7.toNat : Int) * 72057594037927936)) =
  ((b0.toNat + b1.toNat * 256 + b2.toNat * 65536 + b3.toNat * 16777216 + b4.toNat * 4294967296 + b5.toNat * 1099511627776 + b6.toNat * 281474976710656 + b7.toNat * 72057594037927936 : Nat) : Int) := by
 have h0 := b0.toNat_lt
 have h1 := b1.toNat_lt
 have h2 := b2.toNat_lt
 have h3 := b3.toNat_lt
 have h4 := b4.toNat_lt
 have h5 := b5.toNat_lt
 have h6 := b6.toNat_lt
 have h7 := b7.toNat_lt
 rw [Jf b0.toNat, Nat.mod_eq_of_lt (by omega)]
 have e1 : bits .or .u64 ((b0.toNat : Nat) : Int) (IntKind.u64.wrap (IntKind.u64.wrap (b1.toNat : Int) * 256)) = ((b0.toNat + b1.toNat * 256 : Nat) : Int) := Uh (b0.toNat) b1.toNat 8 (by omega) (by omega) (by omega)
 rw [e1]
 have e2 : bits .or .u64 ((b0.toNat + b1.toNat * 256 : Nat) : Int) (IntKind.u64.wrap (IntKind.u64.wrap (b2.toNat : Int) * 65536)) = ((b0.toNat + b1.toNat * 256 + b2.toNat * 65536 : Nat) : Int) := Uh (b0.toNat + b1.toNat * 256) b2.toNat 16 (by omega) (by omega) (by omega)
 rw [e2]
 have e3 : bits .or .u64 ((b0.toNat + b1.toNat * 256 + b2.toNat * 65536 : Nat) : Int) (IntKind.u64.wrap (IntKind.u64.wrap (b3.toNat : Int) * 16777216)) = ((b0.toNat + b1.toNat * 256 + b2.toNat * 65536 + b3.toNat * 16777216 : Nat) : Int) := Uh (b0.toNat + b1.toNat * 256 + b2.toNat * 65536) b3.toNat 24 (by omega) (by omega) (by omega)
 rw [e3]
 have e4 : bits .or .u64 ((b0.toNat + b1.toNat * 256 + b2.toNat * 65536 + b3.toNat * 16777216 : Nat) : Int) (IntKind.u64.wrap (IntKind.u64.wrap (b4.toNat : Int) * 4294967296)) = ((b0.toNat + b1.toNat * 256 + b2.toNat * 65536 + b3.toNat * 16777216 + b4.toNat * 4294967296 : Nat) : Int) := Uh (b0.toNat + b1.toNat * 256 + b2.toNat * 65536 + b3.toNat * 16777216) b4.toNat 32 (by omega) (by omega) (by omega)
 rw [e4]
 have e5 : bits .or .u64 ((b0.toNat + b1.toNat * 256 + b2.toNat * 65536 + b3.toNat * 16777216 + b4.toNat * 4294967296 : Nat) : Int) (IntKind.u64.wrap (IntKind.u64.wrap (b5.toNat : Int) * 1099511627776)) = ((b0.toNat + b1.toNat * 256 + b2.toNat * 65536 + b3.toNat * 16777216 + b4.toNat * 4294967296 + b5.toNat * 1099511627776 : Nat) : Int) := Uh (b0.toNat + b1.toNat * 256 + b2.toNat * 65536 + b3.toNat * 16777216 + b4.toNat * 4294967296) b5.toNat 40 (by omega) (by omega) (by omega)
 rw [e5]
 have e6 : bits .or .u64 ((b0.toNat + b1.toNat * 256 + b2.toNat * 65536 + b3.toNat * 16777216 + b4.toNat * 4294967296 + b5.toNat * 1099511627776 : Nat) : Int) (IntKind.u64.wrap (IntKind.u64.wrap (b6.toNat : Int) * 281474976710656)) = ((b0.toNat + b1.toNat * 256 + b2.toNat * 65536 + b3.toNat * 16777216 + b4.toNat * 4294967296 + b5.toNat * 1099511627776 + b6.toNat * 281474976710656 : Nat) : Int) := Uh (b0.toNat + b1.toNat * 256 + b2.toNat * 65536 + b3.toNat * 16777216 + b4.toNat * 4294967296 + b5.toNat * 1099511627776) b6.toNat 48 (by omega) (by omega) (by omega)
 rw [e6]
 have e7 : bits .or .u64 ((b0.toNat + b1.toNat * 256 + b2.toNat * 65536 + b3.toNat * 16777216 + b4.toNat * 4294967296 + b5.toNat * 1099511627776 + b6.toNat * 281474976710656 : Nat) : Int) (IntKind.u64.wrap (IntKind.u64.wrap (b7.toNat : Int) * 72057594037927936)) = ((b0.toNat + b1.toNat * 256 + b2.toNat * 65536 + b3.toNat * 16777216 + b4.toNat * 4294967296 + b5.toNat * 1099511627776 + b6.toNat * 281474976710656 + b7.toNat * 72057594037927936 : Nat) : Int) := Uh (b0.toNat + b1.toNat * 256 + b2.toNat * 65536 + b3.toNat * 16777216 + b4.toNat * 4294967296 + b5.toNat * 1099511627776 + b6.toNat * 281474976710656) b7.toNat 56 (by omega) (by omega) (by omega)
 rw [e7]
theorem Jk7 (s : ByteArray) (b0 b1 b2 b3 b4 b5 b6 b7 : UInt8) (r : List UInt8) (hs : s.data.toList = b0 :: b1 :: b2 :: b3 :: b4 :: b5 :: b6 :: b7 :: r) (w : World) :
  Calls Tryz.prog 134 #[.string s] w fun e w' => e = .returned (.int .u64 ((b0.toNat + b1.toNat * 256 + b2.toNat * 65536 + b3.toNat * 16777216 + b4.toNat * 4294967296 + b5.toNat * 1099511627776 + b6.toNat * 281474976710656 + b7.toNat * 72057594037927936 : Nat) : Int)) /\ ∃ k, w' = w.drewN k := by
 have i0 := Yg (P := Tryz.prog) 9 Tryz.underlying9 s _ hs .i64 0 (by omega) b0 rfl
 have i1 := Yg (P := Tryz.prog) 9 Tryz.underlying9 s _ hs .i64 1 (by omega) b1 rfl
 have i2 := Yg (P := Tryz.prog) 9 Tryz.underlying9 s _ hs .i64 2 (by omega) b2 rfl
 have i3 := Yg (P := Tryz.prog) 9 Tryz.underlying9 s _ hs .i64 3 (by omega) b3 rfl
 have i4 := Yg (P := Tryz.prog) 9 Tryz.underlying9 s _ hs .i64 4 (by omega) b4 rfl
 have i5 := Yg (P := Tryz.prog) 9 Tryz.underlying9 s _ hs .i64 5 (by omega) b5 rfl
 have i6 := Yg (P := Tryz.prog) 9 Tryz.underlying9 s _ hs .i64 6 (by omega) b6 rfl
 have i7 := Yg (P := Tryz.prog) 9 Tryz.underlying9 s _ hs .i64 7 (by omega) b7 rfl
 clear hs
 go_enter Tryz.func134, Tryz.ntmps134
 go_wp2
 go_quiet (fail)
 go_wp2
 go_ret
 exact ⟨Jb9 (Jnh b0 b1 b2 b3 b4 b5 b6 b7), _, rfl⟩
theorem Jml (x : Nat) (hx : x < 18446744073709551616) :
  (UInt8.ofNat x).toNat + (UInt8.ofNat (x / 256)).toNat * 256 + (UInt8.ofNat (x / 65536)).toNat * 65536 + (UInt8.ofNat (x / 16777216)).toNat * 16777216 + (UInt8.ofNat (x / 4294967296)).toNat * 4294967296 + (UInt8.ofNat (x / 1099511627776)).toNat * 1099511627776 + (UInt8.ofNat (x / 281474976710656)).toNat * 281474976710656 + (UInt8.ofNat (x / 72057594037927936)).toNat * 72057594037927936 = x := by
 simp only [UInt8.toNat_ofNat']
 omega
theorem Ke (s : ByteArray) (x : Nat) (r : List UInt8) (hx : x < 18446744073709551616) (hs : s.data.toList = leB x ++ r) (w : World) :
  Calls Tryz.prog 134 #[.string s] w fun e w' => e = .returned (.int .u64 (x : Int)) /\ ∃ k, w' = w.drewN k := by
 have := Jk7 s _ _ _ _ _ _ _ _ r hs w
 rw [Jml x hx] at this
 exact this
theorem Vh (s : ByteArray) (h : 0 < s.size) : ¬ s.toList = [] := by
 rw [Lib.toList_data]
 intro h1
 have := Lib.size_eq s
 rw [h1, List.length_nil] at this
 omega
theorem Kc {P : Program} (t : TypeId) (ht : P.underlying t = some .string) (s : ByteArray) (k : IntKind) (l : Int) (h0 : 0 <= l) (h1 : l <= s.size) (w : World) :
  (Instr.slice t (.string s) (some (.int k l)) none none).run P w = .ok (.string (s.extract l.toNat s.size)) w := by
 simp [Instr.slice, run_underlying ht, Instr.sliceBounds, Instr.sliceBound, asIntOf, h0, h1, Result.andThen]
theorem Je9 (n : Nat) (w : World) (hn : n < 18446744073709551616) : Calls Tryz.prog 119 #[.int .u64 (n : Int)] w (Ret (Jg n) w) := by
 have e : Jg n = .agg #[.int .u64 (n : Int), .string ⟨#[]⟩] := by unfold Jg; rw [Jp n hn, Jy n hn]
 rw [e]
 go_enter Tryz.func119, Tryz.ntmps119
 go_wp2
 go_returns
 exact ⟨rfl, (Below.refl _ _).alloc zd _⟩
theorem Qn (n : Nat) (w : World) (hn : Je n <= 4611686018427387904) : Calls Tryz.prog 102 #[Jg n] w (Ret (.int .i64 ((Je n : Nat) : Int)) w) := by
 unfold Jg
 by_cases h : n < 18446744073709551616
 ·rw [Jy n h, Jp n h]
  have e := lh (Kx n h)
  go_enter Tryz.func102, Tryz.ntmps102
  go_wp2_with fail
  refine (Tryz.bits_Len64 (n : Int) _ (by omega) (by omega)).mono ?_
  rintro e' w1 ⟨rfl, rfl⟩
  go_wp2
  go_ret
  exact ⟨Jb9 (by rw [e.out]), (Below.refl _ _).alloc zd _⟩
 have dV := Ui n
 have aP := Zf n h
 have bM := Ka n (by omega)
 obtain ⟨_, bN, aQ⟩ := Xj n (by omega)
 have aR := Jln n h
 generalize hs : mo n = s at dV aR
 have dC : 8 <= s.size := by omega
 have dD : (s.size : Int) * 8 <= 4611686018427387904 := by omega
 have HA := lh (And.intro dV (And.intro bM (And.intro bN aR)))
 have aS : ((s.size : Int) - 8).toNat = s.size - 8 := by omega
 clear dV bM bN aR hs aP hn
 have aT := Vh s (by omega)
 have cD : s.toList.isEmpty = false := by simpa using aT
 have cE : ∀ w, (Instr.slice 9 (.string s) (some (.int .i64 ((s.size : Int) - 8))) none none).run Tryz.prog w = .ok (.string (s.extract (s.size - 8) s.size)) w := fun w => by
  have := Kc (P := Tryz.prog) 9 Tryz.underlying9 s .i64 ((s.size : Int) - 8) (by omega) (by omega) w
  rw [this, aS]
 have y9 : (s.extract (s.size - 8) s.size).data.toList = leB (top n) ++ [] := by
  rw [Lib.extract_data, HA.out.2.2.2, List.take_of_length_le (by rw [Jap]; omega), List.append_nil]
 have cF : IntKind.i64.wrap (8 * (s.size : Int)) = 8 * (s.size : Int) := IntWalk.i64_in _ (by omega)
 have cG : IntKind.i64.wrap ((s.size : Int) - 8) = (s.size : Int) - 8 := IntWalk.i64_in _ (by omega)
 have HEX := lh y9
 clear y9
 generalize s.extract (s.size - 8) s.size = sx at *
 go_enter Tryz.func102, Tryz.ntmps102
 go_wp2_with fail
 go_quiet (first | (go_at_call 134; refine Calls.quiet_of (Ke sx (top n) [] aQ HEX.out _)) | (go_at_call 133; refine Calls.quiet_of_same (Tryz.bits_Len64 _ _ (by omega) (by omega))))
 have cH : Lib.bitLen (top n) <= 64 := Lib.bitLen_le _ 64 (by omega) aQ
 go_wp2
 go_ret
 obtain ⟨h1, h2, h3, h4⟩ := HA.out
 have h5 := Kx (top n) aQ
 exact ⟨Jb9 (by rw [IntWalk.wrap64_in _ (by omega), h2, <- h5]; omega), Jw ((Below.refl _ _).alloc zd _) _⟩
def New {α : Type} (w w' : World) (e : TypeId) (f : α -> Value) (v : Value) (l : List α) : Prop := Own w' e f v l /\ Below w.heap.size w w' /\ ∀ k, v.ownBlock = some k -> w.heap.size <= k
def Jh (x : Nat) : Value := .int .u64 (x : Int)
theorem Tryz.infoU64 : (Tryz.prog.info? 35).map (fun i => (i.zero, i.size, i.bytes)) = some (some (Jh 0), 1, 8) := by kernel_rfl
theorem Jes (n i : Nat) (x : Nat) (hi : 1 <= i) (hx : (words n)[i]? = some x) : ∃ r, (mo n).data.toList.drop (8 * (i - 1)) = leB x ++ r := by
 have e : (mo n).data.toList = (words n).tail.flatMap leB := rfl
 rw [e, Jeh, List.drop_tail, show i - 1 + 1 = i from by omega]
 have hk : i < (words n).length := (List.getElem?_eq_some_iff.1 hx).1
 have dY : (words n)[i] = x := (List.getElem?_eq_some_iff.1 hx).2
 rw [List.drop_eq_getElem_cons hk, dY, List.flatMap_cons]
 exact ⟨_, rfl⟩
theorem Jlo (l : List Nat) (i x : Nat) (hx : l[i]? = some x) : (l.take i ++ List.replicate (l.length - i) 0).set i x = l.take (i + 1) ++ List.replicate (l.length - (i + 1)) 0 := by
 have hk : i < l.length := (List.getElem?_eq_some_iff.1 hx).1
 obtain ⟨m, hm⟩ : ∃ m, l.length = i + 1 + m := ⟨l.length - (i + 1), by omega⟩
 rw [hm, show i + 1 + m - i = m + 1 from by omega, show i + 1 + m - (i + 1) = m from by omega, List.replicate_succ, List.set_append_right _ _ (by rw [List.length_take]; omega)]
 rw [List.length_take, show i - min i l.length = 0 from by omega, List.set_cons_zero, List.take_add_one, hx]
 simp
theorem Jkz (L x : Nat) (hL : 0 < L) : (Array.replicate L (Jh 0)).setIfInBounds 0 (Jh x) = (([x] ++ List.replicate (L - 1) 0).map Jh).toArray := by
 obtain ⟨m, rfl⟩ : ∃ m, L = m + 1 := ⟨L - 1, by omega⟩
 rw [<- List.toArray_replicate, List.setIfInBounds_toArray, List.replicate_succ, List.set_cons_zero]
 simp
def Jlx (w : World) (n : Nat) (i : Nat) (wr : World) : Prop :=
 Row wr (w.heap.size + 1) 35 Jh ((words n).take i ++ List.replicate ((words n).length - i) 0) /\ Below (w.heap.size + 1) (w.alloc (.cells #[.int .u64 (lo n : Int), .string (mo n)] 37)) wr
theorem Xl (n : Nat) (w : World) (hn : Je n <= 4611686018427387904) (hw : (words n).length <= 17592186044416) : Calls Tryz.prog 129 #[Jg n] w fun e w' => ∃ v, e = .returned v /\ New w w' 35 Jh v (words n) := by
 unfold Jg
 by_cases h0 : n = 0
 ·subst h0
  rw [Jy 0 (by omega), Jp 0 (by omega)]
  go_enter Tryz.func129, Tryz.ntmps129
  go_wp2
  go_ret
  exact ⟨_, rfl, Own.nil_ _ _ _, (Below.refl _ _).alloc zd _, fun k hk => by simp [Value.ownBlock] at hk⟩
 by_cases hb : n < 18446744073709551616
 ·have bO := Jfw n hb h0
  rw [Jy n hb, Jp n hb, bO]
  have hz : ((n : Int) == 0) = false := by simp; omega
  have aM := Qh (P := Tryz.prog) Jh 0 157 35 8 Tryz.underlying157 Tryz.infoU64 rfl .i64 .i64 1 (by omega) (by omega)
  have cI : ∀ w, (Instr.makeSlice 157 (.int .i64 1) (.int .i64 1)).run Tryz.prog w = .ok (.slice (some ⟨w.heap.size, 0, none⟩) 1 1) (w.alloc (.cells #[.int .u64 0] 35)) := aM
  clear aM bO hw hn
  go_enter Tryz.func129, Tryz.ntmps129
  go_wp2_with fail
  go_rounds 1
  go_ret
  have ho := Own.lit (w.alloc (.cells #[.int .u64 (n : Int), .string ⟨#[]⟩] 37)) 35 Jh [n] (by unfold maxLen; simp)
  refine ⟨_, rfl, by simpa [Jh] using ho, ((Below.refl _ _).alloc zd _).alloc (by simp) _, fun k hk => ?_⟩
  simp [Value.ownBlock] at hk
  omega
 have dV := Ui n
 have aA : 1 <= (words n).length := by rw [Qd n h0]; simp
 obtain ⟨L, hL⟩ : ∃ L, (words n).length = L := ⟨_, rfl⟩
 have aM := Qh (P := Tryz.prog) Jh 0 157 35 8 Tryz.underlying157 Tryz.infoU64 rfl .i64 .i64 L (by omega) (by omega)
 have cJ : (1 : Int) + ((mo n).size : Int) / 8 = (L : Int) := by rw [dV]; omega
 have d1 := Vh (mo n) (by have := Zf n hb; omega)
 have d2 : (mo n).toList.isEmpty = false := by simpa using d1
 have HH := lh (And.intro dV hL)
 have dE : L <= 17592186044416 := by omega
 have aS : ((mo n).size : Int) <= 140737488355328 := by omega
 have dF : 1 <= L := by omega
 have bP : 0 < L := by omega
 have dG : (0 : Int) < (L : Int) := by omega
 have aU : (Array.replicate L (Jh 0))[0]? = some (.int .u64 0) := by rw [Array.getElem?_replicate, if_pos bP]; rfl
 clear dV hL hw hn aA
 go_enter Tryz.func129, Tryz.ntmps129
 go_wp2_with fail
 clear aM aU
 go_loopw [4] (fun x wr => ∃ i : Nat, 1 <= i /\ i <= L /\ x = .int .i64 i /\ Jlx w n i wr) (fun x _ => L - (intOf x).toNat)
 case atStart =>
  refine ⟨1, by omega, by omega, rfl, ?_, ?_⟩
  ·have hr := Row.new (w.alloc (.cells #[.int .u64 (lo n : Int), .string (mo n)] 37)) 35 Jh ([lo n] ++ List.replicate (L - 1) 0)
   rw [<- Jkz L (lo n) bP] at hr
   have e1 : (words n).take 1 = [lo n] := by rw [Vw n h0]; rfl
   rw [HH.out.2, e1]
   rw [World.size_alloc] at hr
   exact hr
  exact (Below.refl _ _).alloc (by simp) _
 case round =>
  obtain ⟨i, cK, dH, rfl, j9, j6⟩ := hrel
  by_cases aB : i < L
  ·obtain ⟨x, hx⟩ : ∃ x, (words n)[i]? = some x := ⟨_, List.getElem?_eq_getElem (by rw [HH.out.2]; exact aB)⟩
   obtain ⟨r, hr⟩ := Jes n i x cK hx
   have cL := Yq n x (List.mem_of_getElem? hx)
   have j0 := j9.cell (k := i) (x := 0) (by rw [List.getElem?_append_right (by rw [List.length_take]; omega), List.getElem?_replicate]; simp; have := HH.out.2; omega)
   have dI := j9.frozen i
   have cN : wr.cell? ⟨w.heap.size, 1, none⟩ = some (.string (mo n)) := by
    rw [j6.cell (p := ⟨w.heap.size, 1, none⟩) (by simp)]
    exact (Blk.new w _ _).cell 1
   have dJ := j9.set_ i x
   have aV := Jlo (words n) i x hx
   rw [HH.out.2] at aV
   have dK := j6.setCell (p := ⟨w.heap.size + 1, i, none⟩) zd (Jh x)
   have HR := lh (And.intro hr (And.intro aV hx))
   unfold Jh at j0
   have cE : ∀ w, (Instr.slice 9 (.string (mo n)) (some (.int .i64 (8 * ((i : Int) - 1)))) none none).run Tryz.prog w = .ok (.string ((mo n).extract (8 * (i - 1)) (mo n).size)) w := fun w => by
    have hq := HH.out
    have := Kc (P := Tryz.prog) 9 Tryz.underlying9 (mo n) .i64 (8 * ((i : Int) - 1)) (by omega) (by omega) w
    rw [this, show (8 * ((i : Int) - 1)).toNat = 8 * (i - 1) from by omega]
   have y9 : ((mo n).extract (8 * (i - 1)) (mo n).size).data.toList = leB x ++ r := by
    have hq := HH.out
    rw [Lib.extract_data, hr, List.take_of_length_le]
    have h5 := congrArg List.length hr
    rw [List.length_drop, <- Lib.size_eq] at h5
    omega
   have HEX := lh y9
   clear y9 hr aV hx
   generalize (mo n).extract (8 * (i - 1)) (mo n).size = sx at *
   go_wp2_with fail
   refine (Ke sx x r cL HEX.out _).mono ?_
   rintro e w1 ⟨rfl, k, rfl⟩
   go_wp2
   refine ⟨⟨i + 1, by omega, by omega, by go_num, ?_, ?_⟩, by simp [intOf]; omega⟩
   ·have h6 := (j9.drewN k).set_ i x
    rw [HH.out.2, HR.out.2.1] at h6
    rw [HH.out.2]
    exact h6
   exact (Jw j6 k).setCell zd _
  obtain rfl : i = L := by omega
  go_wp2
  go_ret
  have hq := HH.out.2
  rw [hq, List.take_of_length_le (by omega), Nat.sub_self, List.replicate_zero, List.append_nil] at j9
  have ho := Own.ofBlk j9 (by unfold maxLen; omega)
  rw [hq] at ho
  exact ⟨_, rfl, ho, ((Below.refl _ _).alloc zd _).trans (j6.mono (by omega)), fun k hk => by simp [Value.ownBlock] at hk; omega⟩
def lenOf : Value -> Nat
 | .slice _ n _ => n
 | _ => 0
theorem Ur {l : List Nat} {k : Nat} (h : l[k]? = some 0) : trimL (l.take (k + 1)) = trimL (l.take k) := by
 rw [List.take_add_one, h, Option.toList_some, Jf6]
theorem Uq {l : List Nat} {k x : Nat} (h : l[k]? = some x) (hx : x ≠ 0) : trimL (l.take (k + 1)) = l.take (k + 1) := by
 rw [List.take_add_one, h, Option.toList_some, Jhp _ _ hx]
theorem Jgo (A : Option Addr) (n c B : Nat) (l : List Nat) (w : World) (h : Reads w B 1 A n (l.map Jh)) (hn : n <= 9223372036854775807) (hc : n <= c) :
  Calls Tryz.prog 152 #[.slice A n c] w fun e w' => e = .returned (.slice A (trimL l).length c) /\ w = w' := by
 have hl := h.lenf
 have HL := lh hl
 clear hl
 go_enter Tryz.func152, Tryz.ntmps152
 go_wp2
 go_loop [0] (fun v => ∃ k : Nat, k <= n /\ v = .slice A k c /\ Hid (trimL (l.take k) = trimL l)) (fun v => lenOf v)
 case atStart => exact ⟨n, Nat.le_refl _, rfl, by show _ = _; rw [List.take_of_length_le (by rw [HL.out]; omega)]⟩
 case round =>
  obtain ⟨k, hk, rfl, HK⟩ := hrel
  by_cases h0 : k = 0
  ·subst h0
   go_wp2
   go_ret
   have := HK.out
   rw [<- this]
   exact ⟨rfl, rfl⟩
  obtain ⟨j, rfl⟩ : ∃ j, k = j + 1 := ⟨k - 1, by omega⟩
  obtain ⟨ad, x, hA, hb, hx, j0⟩ := h.atf (show j < n by omega)
  subst hA
  unfold Jh at j0
  have k1 : (((j + 1 : Nat) : Int) - 1) = (j : Int) := by omega
  have k2 : (j : Int) < ((j + 1 : Nat) : Int) := by omega
  have k3 : (0 : Int) < ((j + 1 : Nat) : Int) := by omega
  have k4 : (j : Int) <= (c : Int) := by omega
  have HX := lh hx
  clear hx
  by_cases bQ : x = 0
  ·subst bQ
   go_wp2
   refine ⟨⟨j, by omega, rfl, ?_⟩, by simp [lenOf]⟩
   show _ = _
   rw [<- Ur HX.out]
   exact HK.out
  have dL : ((x : Int) == 0) = false := by simp; omega
  go_wp2
  go_ret
  refine ⟨?_, rfl⟩
  have h1 := HK.out
  rw [Uq HX.out bQ] at h1
  rw [<- h1, List.length_take, HL.out, Nat.min_eq_left hk]
  rfl
theorem Jau (B b : Nat) (l : List UInt8) (x : UInt8) (w : World) (h : Lib.BuilderAt 183 5 B b (.pointer (some ⟨b, 0, none⟩)) (Lib.byteCells l) w) (hl : l.length < 140737488355328) (hB : B <= w.heap.size) :
  Calls Tryz.prog 154 #[.pointer (some ⟨b, 0, none⟩), .int .u8 (x.toNat : Int)] w fun e w' => (∃ v, e = .returned v) /\ Lib.BuilderAt 183 5 B b (.pointer (some ⟨b, 0, none⟩)) (Lib.byteCells (l ++ [x])) w' /\ Below B w w' := by
 obtain ⟨bS, v, j7, o9, bT⟩ := h
 have q0 : w.cell? ⟨b, 0, none⟩ = some (.pointer (some ⟨b, 0, none⟩)) := by simp [World.cell?, j7]
 have q1 : w.cell? ⟨b, 1, none⟩ = some v := by simp [World.cell?, j7]
 have f1 : w.frozen? ⟨b, 1, none⟩ = false := by simp [World.frozen?, j7]
 obtain ⟨i0, cO, bU, cP, eB⟩ := info_parts Tryz.infoU8
 rw [Lib.byteCells_length] at o9
 have bV : ∀ w : World, (binOp .neq 181 (.pointer (some ⟨b, 0, none⟩)) (.pointer (some ⟨b, 0, none⟩))).run Tryz.prog w = .ok (.bool false) w := fun w => by
  obtain ⟨j, hj⟩ : ∃ j, Tryz.prog.info? 183 = some j := Option.isSome_iff_exists.1 (by kernel_rfl)
  exact Lib.run_neq_ptr_same w _ Tryz.underlying181 hj
 go_enter Tryz.func154, Tryz.ntmps154
 go_wp2_with (first | (at_builtin; go_must (refine Zn _ rfl (.tmp 11) (.tmp 13) 135 rfl B 5 i0 (u8v 0) 1 1 Tryz.underlying135 cO bU cP eB rfl (by omega) v l.length (Lib.byteCells l) rfl (o9.alloc _) (w.heap.size + 1) (some ⟨w.heap.size, 0, none⟩) 1 1 [.int .u8 (x.toNat : Int)] rfl (Reads.one _ _ _) ?c1 ?c2 ?c3 ?c4 ?_)) | go_in)
 case c1 => intro u hu; simp at hu; subst hu; rfl
 case c2 => unfold maxLen; omega
 case c3 => omega
 case c4 => simp; omega
 intro v' w1 dT s9 bW
 have aB : b < w.heap.size := by
  rcases Nat.lt_or_ge b w.heap.size with h1 | h1
  ·exact h1
  rw [Array.getElem?_eq_none h1] at j7; cases j7
 have j8 : w1.heap[b]? = some (.cells #[.pointer (some ⟨b, 0, none⟩), v] 183 (0, 0)) := by
  rw [s9.block b (by simp; omega) (fun e => bT e.symm), Below.heap_alloc _ _ _ aB]
  exact j7
 have q1' : w1.cell? ⟨b, 1, none⟩ = some v := by simp [World.cell?, j8]
 have f1' : w1.frozen? ⟨b, 1, none⟩ = false := by simp [World.frozen?, j8]
 have aC : v'.ownBlock ≠ some b := by
  rcases bW with h1 | h1
  ·rw [h1]; exact bT
  rw [h1]
  simp
  omega
 have cR : ∀ k, v.ownBlock = some k -> B <= k := fun k hk => (World.ownsRow.lt o9 k hk).1
 have j6 : Below B w w1 := ((Below.refl _ _).alloc (by omega) _).trans ⟨s9.os, s9.tape, s9.output, s9.size, fun k hk => s9.block k (by simp; omega) (fun e => by have := cR k e.symm; omega)⟩
 have aD : Lib.BuilderAt 183 5 B b (.pointer (some ⟨b, 0, none⟩)) (Lib.byteCells (l ++ [x])) (w1.setCell ⟨b, 1, none⟩ v') := by
  refine ⟨bS, v', ?_, ?_, aC⟩
  ·simp [World.setCell, Array.getElem?_modify, j8]
  have h5 : Lib.byteCells (l ++ [x]) = Lib.byteCells l ++ [.int .u8 (x.toNat : Int)] := by simp [Lib.byteCells]
  rw [h5, List.length_append, Lib.byteCells_length]
  exact dT.kept (row := some b) ⟨rfl, rfl, rfl, by simp [World.setCell], fun k _ hk => Below.heap_setCell _ _ _ _ (fun e => hk (by simp [e]))⟩ (Or.inr aC)
 have HF := lh (And.intro aD (j6.setCell (p := ⟨b, 1, none⟩) bS v'))
 obtain ⟨A', n', c', bX⟩ : ∃ A' n' c', v' = .slice A' n' c' := by
  rcases dT.2 with ⟨h1, _⟩ | ⟨g, cap, cur, h1, _⟩
  ·exact ⟨_, _, _, h1⟩
  exact ⟨_, _, _, h1⟩
 rw [bX] at HF ⊢
 clear j7 o9 dT aD j6 s9 bW bX q0 q1 j8
 go_wp2
 go_ret
 exact ⟨⟨_, rfl⟩, HF.out.1, HF.out.2⟩
theorem Jko (l : List Nat) : val l = dv 18446744073709551616 l := by
 induction l with
 | nil => rfl
 | cons x r ih => simp only [val, dv, ih]
theorem Jaf (l : List Nat) (h : Dig 18446744073709551616 l) : words (dv 18446744073709551616 l) = trimL l := by
 rw [<- Jci, <- Jko]
 exact Jje _ (fun x hx => h.trimL x hx) (Jch l)
theorem Jmm (x k : Nat) (h : k < 8) : (leB x)[k]? = some (Zr x k) := by
 have e : k = 0 \/ k = 1 \/ k = 2 \/ k = 3 \/ k = 4 \/ k = 5 \/ k = 6 \/ k = 7 := by omega
 have u : ∀ n : Nat, UInt8.ofNat (n % 256) = UInt8.ofNat n := fun n => by
  apply UInt8.toNat_inj.1
  rw [UInt8.toNat_ofNat', UInt8.toNat_ofNat']
  omega
 rcases e with rfl | rfl | rfl | rfl | rfl | rfl | rfl | rfl <;> simp [leB, Zr, u]
theorem Jla (n x : Nat) (r : List Nat) (h : words n = x :: r) : lo n = x := by
 have h0 : n ≠ 0 := by
  intro h0
  subst h0
  rw [Qf] at h
  cases h
 rw [Qd n h0] at h
 injection h
theorem Jbb : Jg 0 = .agg #[.int .u64 0, .string ⟨#[]⟩] := by unfold Jg; rw [Jp 0 (by omega), Jy 0 (by omega)]; rfl
def Jm4 (w : World) (b : Nat) (l : List UInt8) (wr : World) : Prop :=
 Lib.BuilderAt 183 5 b b (.pointer (some ⟨b, 0, none⟩)) (Lib.byteCells l) wr /\ Below b w wr
theorem Qe (A : Option Addr) (n c B : Nat) (l : List Nat) (w : World) (h : Reads w B 1 A n (l.map Jh)) (hB : B <= w.heap.size) (hd : Dig 18446744073709551616 l) (hn : n <= 17592186044416) (hc : n <= c) :
  Calls Tryz.prog 127 #[.slice A n c] w (Ret (Jg (dv 18446744073709551616 l)) w) := by
 have hw := Jaf l hd
 have aW := hd.trimL
 obtain ⟨N, hN⟩ : ∃ N, dv 18446744073709551616 l = N := ⟨_, rfl⟩
 rw [hN] at hw ⊢
 have aX := h.lenf
 have bY := Kn l
 have dW := h.front (k := (trimL l).length) (by omega)
 rw [Nat.mul_one, <- List.map_take, <- Zc] at dW
 have aY := Jgo A n c B l (w.alloc (.cells #[.int .u64 0, .string ⟨#[]⟩] 37)) (Reads.alloc h hB _) (by omega) hc
 generalize trimL l = t at *
 have HW := lh hw
 clear hN hw hd
 obtain ⟨m, hm⟩ : ∃ m, t.length = m := ⟨_, rfl⟩
 rw [hm] at dW bY aY
 have dM : m <= n := by omega
 have HM := lh hm
 have HTR := lh aY
 clear hm aX aY bY h
 have aN := Blk.new w 37 #[.int .u64 0, .string ⟨#[]⟩]
 have q0 := aN.cell 0
 have q1 := aN.cell 1
 simp at q0 q1
 by_cases h0 : m = 0
 ·subst h0
  obtain rfl : t = [] := List.eq_nil_of_length_eq_zero HM.out
  have aZ : N = 0 := by rw [<- Vg N, HW.out]; rfl
  subst aZ
  have e : Jg 0 = .agg #[.int .u64 0, .string ⟨#[]⟩] := by unfold Jg; rw [Jp 0 (by omega), Jy 0 (by omega)]; rfl
  rw [e]
  go_enter Tryz.func127, Tryz.ntmps127
  go_wp2_with fail
  refine HTR.out.mono ?_
  rintro e w1 ⟨rfl, rfl⟩
  go_wp2
  go_returns
  exact ⟨rfl, by go_grown⟩
 by_cases h1 : m = 1
 ·subst h1
  obtain ⟨x, rfl⟩ : ∃ x, t = [x] := List.length_eq_one_iff.1 HM.out
  have hx : x < 18446744073709551616 := aW x (by simp)
  have aZ : N = x := by rw [<- Vg N, HW.out]; simp [val]
  subst aZ
  have e : Jg N = .agg #[.int .u64 (N : Int), .string ⟨#[]⟩] := by unfold Jg; rw [Jp N hx, Jy N hx]
  rw [e]
  obtain ⟨ad, x', hA, hb, aE, j0⟩ := dW.atf (k := 0) (by omega)
  simp at aE
  subst aE
  subst hA
  have bA : (w.alloc (.cells #[.int .u64 0, .string ⟨#[]⟩] 37)).cell? ad = some (.int .u64 (N : Int)) := (World.cell?_alloc_lt w _ ad (by omega)).trans j0
  go_enter Tryz.func127, Tryz.ntmps127
  go_wp2_with fail
  refine HTR.out.mono ?_
  rintro e w1 ⟨rfl, rfl⟩
  go_wp2
  go_returns
  exact ⟨rfl, by go_grown⟩
 obtain ⟨x0, t', rfl⟩ : ∃ x0 t', t = x0 :: t' := by
  cases t with
  | nil => exact absurd HM.out.symm h0
  | cons a b => exact ⟨a, b, rfl⟩
 have aF : t'.length = m - 1 := by have := HM.out; simp at this; omega
 have e : Jg N = .agg #[.int .u64 (x0 : Int), .string ⟨(t'.flatMap leB).toArray⟩] := by
  unfold Jg
  rw [Jla N x0 t' HW.out]
  unfold mo more
  rw [HW.out]
  rfl
 rw [e]
 obtain ⟨ad, x', hA, hb, aE, j0⟩ := dW.atf (k := 0) (by omega)
 simp at aE
 subst aE
 subst hA
 have aO := Reads.part dW c 1 (m - 1) (by omega) (by omega)
 simp only [Nat.mul_one, List.map_cons, List.drop_succ_cons, List.drop_zero] at aO
 rw [List.take_of_length_le (by simp; omega)] at aO
 have aS : ∀ w, (Instr.slice 157 (.slice (some ad) m c) (some (.int .i64 1)) none none).run Tryz.prog w = .ok (.slice (Jg4 (some ad) c 1 1) (m - 1) (c - 1)) w :=
  fun w => Ji0 Tryz.underlying157 Tryz.infoU64 (some ad) m c .i64 1 (by omega) (by omega) w
 have dN : ((m : Int) == 0) = false := by simp; omega
 have dO : ((m : Int) == 1) = false := by simp; omega
 have k1 : (8 : Int) * ((m : Int) - 1) = ((8 * (m - 1) : Nat) : Int) := by omega
 have bU : 0 < m := by omega
 have hf := Jcy t'
 have HF := lh hf
 have HLT := lh aF
 clear hf aF
 have bZ : x0 < 18446744073709551616 := aW x0 (by simp)
 go_enter Tryz.func127, Tryz.ntmps127
 go_wp2_with fail
 refine HTR.out.mono ?_
 rintro e w1 ⟨rfl, rfl⟩
 go_wp2_with fail
 have bB := heap_alloc_new (w.alloc (.cells #[.int .u64 0, .string ⟨#[]⟩] 37)) (.cells #[.pointer none, .slice none 0 0] 183)
 rw [World.size_alloc] at bB
 have hg := Tryz.Builder_Grow_fresh (w.heap.size + 1) (w.heap.size + 1) (8 * (m - 1)) ((w.alloc (.cells #[.int .u64 0, .string ⟨#[]⟩] 37)).alloc (.cells #[.pointer none, .slice none 0 0] 183)) zd bB (by simp) (by omega)
 rw [show ((8 * (m - 1) : Nat) : Int) = 8 * ((m - 1 : Nat) : Int) from by omega] at hg
 refine hg.mono ?_
 rintro e w2 ⟨rfl, bC, j6⟩
 have o0 : Below w.heap.size w w2 := (((Below.refl _ _).alloc zd _).alloc (by simp) _).trans (j6.mono (by omega))
 have aG : Below (w.heap.size + 1) (w.alloc (.cells #[.int .u64 0, .string ⟨#[]⟩] 37)) w2 := ((Below.refl _ _).alloc (by simp) _).trans j6
 have bD : Blk w2 w.heap.size 37 #[.int .u64 0, .string ⟨#[]⟩] := aN.below aG (by omega)
 generalize dP : w.heap.size + 1 = b at *
 have eC : Reads w2 w.heap.size 1 (some ad) m ((x0 :: t').map Jh) := (dW.more hB).below o0
 have cT : Reads w2 w.heap.size 1 (Jg4 (some ad) c 1 1) (m - 1) (t'.map Jh) := (aO.more hB).below o0
 clear hg bB j6 aN q0 q1 j0 dW aO k1 HTR
 go_wp2_with fail
 go_loopw [5, 6, 28] (fun x5 x6 i wr => ∃ k : Nat, k <= m - 1 /\ i = .int .i64 k /\ Jm4 w2 b ((t'.take k).flatMap leB) wr) (fun _ _ i _ => m - 1 - (intOf i).toNat)
 case atStart => exact ⟨0, Nat.zero_le _, rfl, bC, Below.refl _ _⟩
 case round =>
  obtain ⟨k, hk, rfl, bR, dZ⟩ := hrel
  by_cases aB : k < m - 1
  ·have bE := cT.below (dZ.mono (show w.heap.size <= b by omega))
   obtain ⟨ad2, x, aH, dQ, hx, cU⟩ := bE.atf aB
   have eD : x < 18446744073709551616 := aW x (by simp; exact .inr (List.mem_of_getElem? hx))
   have dR : (k : Int) < ((m - 1 : Nat) : Int) := by omega
   have HX := lh hx
   unfold Jh at cU
   rw [aH]
   clear hx bC
   go_wp2_with fail
   obtain ⟨wo, cA⟩ : ∃ wo : World, wo = wr := ⟨_, rfl⟩
   rw [<- cA] at dZ bR ⊢
   clear cA
   go_loopw [6, 32] (fun x6 j wr => ∃ p : Nat, p <= 8 /\ j = .int .i64 p /\ Jm4 w2 b ((t'.take k).flatMap leB ++ (leB x).take p) wr) (fun _ j _ => 8 - (intOf j).toNat)
   case atStart => exact ⟨0, by omega, rfl, by simpa using bR, dZ⟩
   case round =>
    obtain ⟨p, hp, rfl, dU, cB⟩ := hrel
    by_cases cZ : p < 8
    ·have aI := Jmm x p cZ
     have e1 := Jeo x p
     have bF : ((t'.take k).flatMap leB ++ (leB x).take p).length < 140737488355328 := by
      have h5 := Jcy (t'.take k)
      have h6 : (t'.take k).length <= k := by rw [List.length_take]; omega
      have h7 : ((leB x).take p).length <= 8 := by rw [List.length_take, Jap]; omega
      rw [List.length_append, h5]
      omega
     have eA : (t'.take k).flatMap leB ++ (leB x).take p ++ [Zr x p] = (t'.take k).flatMap leB ++ (leB x).take (p + 1) := by
      rw [List.append_assoc, List.take_add_one, aI]
      rfl
     generalize Zr x p = y at *
     generalize (t'.take k).flatMap leB ++ (leB x).take p = pre at *
     have HSN := lh eA
     clear eA aI
     have k3 : (8 : Int) * (p : Int) <= 56 := by omega
     go_wp2_with fail
     refine (Jau b b pre y wr dU bF (Nat.le_of_lt (Lib.BuilderAt.lt dU))).mono ?_
     rintro e w5 ⟨⟨v5, rfl⟩, aJ, p9⟩
     rw [HSN.out] at aJ
     go_wp2
     refine ⟨⟨p + 1, by omega, by go_num, aJ, cB.trans p9⟩, by simp [intOf]; omega⟩
    obtain rfl : p = 8 := by omega
    rw [List.take_of_length_le (l := leB x) (by rw [Jap]; omega)] at dU
    go_wp2
    refine ⟨⟨k + 1, by omega, by go_num, ?_, cB⟩, by simp [intOf]; omega⟩
    rw [List.take_add_one, HX.out, List.flatMap_append]
    simpa using dU
  obtain rfl : k = m - 1 := by omega
  rw [List.take_of_length_le (by rw [HLT.out]; omega)] at bR
  have bE := eC.below (dZ.mono (show w.heap.size <= b by omega))
  obtain ⟨ad2, x2, aH, _, dY, j0⟩ := bE.atf (k := 0) (by omega)
  injection aH with aH
  subst aH
  simp at dY
  subst dY
  rw [show ad.add 0 = ad from rfl] at j0
  unfold Jh at j0
  have bG : Blk wr w.heap.size 37 #[.int .u64 0, .string ⟨#[]⟩] := bD.below dZ (by omega)
  have bH : Blk wr.drew w.heap.size 37 #[.int .u64 0, .string ⟨#[]⟩] := bG
  have dX : wr.drew.cell? ad = some (.int .u64 (x0 : Int)) := j0
  have bI : w.heap.size < b := by omega
  have dA : b <= wr.heap.size := Nat.le_of_lt (Lib.BuilderAt.lt bR)
  have bJ : b <= wr.drew.heap.size := dA
  have aK := Tryz.Builder_String_any b b (t'.flatMap leB) wr.drew (.inr bR) bJ
  have k5 : ¬ ((m - 1 : Nat) : Int) < ((m - 1 : Nat) : Int) := by omega
  generalize hfl : (t'.flatMap leB).toArray = fl at *
  have HST := lh aK
  clear aK bC bR hfl
  have aL : ad.block < b := by omega
  go_wp2_with fail
  go_region_with (go_at_call 155; refine HST.out.mono ?_; rintro e' w5 ⟨rfl, p9⟩; have bK : w5.cell? ad = some (Value.int IntKind.u64 ↑x0) := (p9.cell aL).trans dX; have dS : Blk w5 w.heap.size 37 #[.int .u64 0, .string ⟨#[]⟩] := bH.below p9 bI; have q0 := dS.cell 0; have q1 := dS.cell 1; have f0 := dS.frozen 0; have f1 := dS.frozen 1; have s0 := dS.same0 (by simp); have s1 := dS.same1 (by simp); simp at q0 q1)
  all_goals
   go_wp2
   refine bodyPost_ret (v := .agg #[.int .u64 (x0 : Int), .string ⟨fl⟩]) (by simp [results, Tryz.results127, go_sem, s0, s1]) rfl ?_
   have dB : Below b wr w5 := ⟨p9.os, p9.tape, p9.output, p9.size, p9.block⟩
   have bL : Below w.heap.size w w5 := (o0.trans (dZ.mono (by omega))).trans (dB.mono (by omega))
   exact ⟨rfl, (bL.setCell zd _).setCell zd _⟩
theorem Tryz.eltU64 : Elt Tryz.prog 157 35 (Jh 0) 8 := ⟨Tryz.underlying157, Tryz.infoU64, rfl⟩
theorem Zo (x y c : Nat) (hc : c <= 1) (w : World) :
  (callFunc 140 #[.int .u64 (x : Int), .int .u64 (y : Int), .int .u64 (c : Int)]).run Tryz.prog w =
   .ok (.value (.tuple #[.int .u64 (((x + y + c) % 18446744073709551616 : Nat) : Int), .int .u64 (((x + y + c) / 18446744073709551616 : Nat) : Int)])) w := by
 rw [run_callFunc_extern Tryz.func140 (by kernel_rfl) (by kernel_rfl) (by kernel_rfl) (e := add64Entry) (by kernel_rfl), run_add64 x y c (by omega) (by omega) (by omega) (by omega)]
 simp only [Result.andThen]
 congr 5 <;> omega
theorem Jb8 (x y c : Nat) (hc : c <= 1) (w : World) :
  (callFunc 141 #[.int .u64 (x : Int), .int .u64 (y : Int), .int .u64 (c : Int)]).run Tryz.prog w =
   .ok (.value (.tuple #[.int .u64 (((x + 18446744073709551616 - y - c) % 18446744073709551616 : Nat) : Int), .int .u64 ((if x < y + c then 1 else 0 : Nat) : Int)])) w := by
 rw [run_callFunc_extern Tryz.func141 (by kernel_rfl) (by kernel_rfl) (by kernel_rfl) (e := sub64Entry) (by kernel_rfl), run_sub64 x y c hc]
 rfl
def Qz (a b : Nat) : Int := if a < b then -1 else if b < a then 1 else 0
theorem Jbu (x y : Nat) (w : World) : Calls Tryz.prog 142 #[.int .u64 (x : Int), .int .u64 (y : Int)] w fun e w' => e = .returned (.int .i64 (Qz x y)) /\ w = w' := by
 unfold Qz
 by_cases h1 : x < y
 ·rw [if_pos h1]
  have h2 : (x : Int) < (y : Int) := by omega
  go_enter Tryz.func142, Tryz.ntmps142
  go_wp2
  go_ret
  exact ⟨rfl, rfl⟩
 rw [if_neg h1]
 have h2 : ¬ (x : Int) < (y : Int) := by omega
 by_cases h3 : y < x
 ·rw [if_pos h3]
  have h4 : (y : Int) < (x : Int) := by omega
  go_enter Tryz.func142, Tryz.ntmps142
  go_wp2
  go_ret
  exact ⟨rfl, rfl⟩
 rw [if_neg h3]
 have h4 : ¬ (y : Int) < (x : Int) := by omega
 go_enter Tryz.func142, Tryz.ntmps142
 go_wp2
 go_ret
 exact ⟨rfl, rfl⟩
theorem Jba (n : Nat) (w : World) : Calls Tryz.prog 124 #[Jg n] w (Ret (if n < 18446744073709551616 then .tuple #[.int .u64 (n : Int), .bool true] else .tuple #[.int .u64 0, .bool false]) w) := by
 unfold Jg
 by_cases h : n < 18446744073709551616
 ·rw [Jy n h, Jp n h, if_pos h]
  go_enter Tryz.func124, Tryz.ntmps124
  go_wp2
  go_ret2
  exact ⟨rfl, by go_grown⟩
 rw [if_neg h]
 have d1 := Vh (mo n) (by have := Zf n h; have := Ui n; omega)
 have d2 : (mo n).toList.isEmpty = false := by simpa using d1
 go_enter Tryz.func124, Tryz.ntmps124
 go_wp2
 go_ret2
 exact ⟨rfl, by go_grown⟩
