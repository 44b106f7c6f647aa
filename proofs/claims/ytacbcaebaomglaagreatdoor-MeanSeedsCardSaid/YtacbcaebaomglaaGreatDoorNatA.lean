import Derived.Test.YtacbcaebaomglaaGreatDoorProg
import Derived.Test.YtacbcaebaomglaaGreatDoorShelf
import Derived.Deep.QuietTactic
import Derived.BigQuiet
import Derived.Test.YtacbcaebaomglaaGreatDoorOctet
import Derived.Deep.DeepMust
import Derived.Deep.RegionWith
import Derived.Shelf.Spec.BitsCarry
namespace Go.Proofs.YtacbcaebaomglaaGreatDoor
set_option maxRecDepth 100000
set_option maxHeartbeats 1000000
open Go.RowKit
set_option linter.all false
theorem Kd {P : Program} (t : TypeId) (ht : P.underlying t = some .string) (s : ByteArray) (l : List UInt8) (hs : s.data.toList = l) (k : IntKind) (i : Int) (h0 : 0 <= i) (x : UInt8) (hx : l[i.toNat]? = some x) (w : World) :
  (Instr.index t (.string s) (.int k i)).run P w = .ok (.int .u8 (x.toNat : Int)) w := by
 subst hs
 have hi : i.toNat < s.size := by
  have := (List.getElem?_eq_some_iff.1 hx).1
  simpa using this
 have s9 : s[i.toNat]'hi = x := by
  have := (List.getElem?_eq_some_iff.1 hx).2
  simp at this
  exact this
 rw [run_index_string w t s k i ht, dif_pos ⟨h0, by omega⟩, s9]
theorem Vi (a b k : Nat) (ha : a < 2 ^ k) (hb : b < 256) (hk : k + 8 <= 64) : bits .or .u64 (a : Int) (IntKind.u64.wrap (IntKind.u64.wrap (b : Int) * ((2 ^ k : Nat) : Int))) = ((a + b * 2 ^ k : Nat) : Int) := by
 have h1 : b * 2 ^ k < 18446744073709551616 := by
  have h2 : b * 2 ^ k < 256 * 2 ^ k := Nat.mul_lt_mul_of_pos_right hb (Nat.two_pow_pos k)
  have h3 : 256 * 2 ^ k = 2 ^ (k + 8) := by rw [Nat.pow_add, Nat.mul_comm]
  have h4 : 2 ^ (k + 8) <= 2 ^ 64 := Nat.pow_le_pow_right (by omega) hk
  omega
 have h5 : a < 18446744073709551616 := by
  have h4 : 2 ^ k <= 2 ^ 64 := Nat.pow_le_pow_right (by omega) (by omega)
  omega
 rw [Jg, Nat.mod_eq_of_lt (by omega), <- Int.natCast_mul, Jg, Nat.mod_eq_of_lt h1, Jab _ _ h5 h1]
 rw [Nat.add_comm a, Nat.mul_comm b, Nat.two_pow_add_eq_or_of_lt ha, Nat.or_comm]
theorem Joe (b0 b1 b2 b3 b4 b5 b6 b7 : UInt8) :
  bits .or .u64 (bits .or .u64 (bits .or .u64 (bits .or .u64 (bits .or .u64 (bits .or .u64 (bits .or .u64 (IntKind.u64.wrap (b0.toNat : Int)) (IntKind.u64.wrap (IntKind.u64.wrap (b1.toNat : Int) * 256))) (IntKind.u64.wrap (IntKind.u64.wrap (b2.toNat : Int) * 65536)))
   (IntKind.u64.wrap (IntKind.u64.wrap (b3.toNat : Int) * 16777216))) (IntKind.u64.wrap (IntKind.u64.wrap (b4.toNat : Int) * 4294967296))) (IntKind.u64.wrap (IntKind.u64.wrap (b5.toNat : Int) * 1099511627776)))
   (IntKind.u64.wrap (IntKind.u64.wrap (b6.toNat : Int) * 281474976710656))) (IntKind.u64.wrap (IntKind.u64.wrap (b7.toNat : Int) * 72057594037927936)) =
  ((b0.toNat + b1.toNat * 256 + b2.toNat * 65536 + b3.toNat * 16777216 + b4.toNat * 4294967296 + b5.toNat * 1099511627776 + b6.toNat * 281474976710656 + b7.toNat * 72057594037927936 : Nat) : Int) := by
 have h0 := b0.toNat_lt
 have h1 := b1.toNat_lt
 have h2 := b2.toNat_lt
 have h3 := b3.toNat_lt
 have h4 := b4.toNat_lt
 have h5 := b5.toNat_lt
 have h6 := b6.toNat_lt
 have h7 := b7.toNat_lt
 rw [Jg b0.toNat, Nat.mod_eq_of_lt (by omega)]
 have e1 : bits .or .u64 ((b0.toNat : Nat) : Int) (IntKind.u64.wrap (IntKind.u64.wrap (b1.toNat : Int) * 256)) = ((b0.toNat + b1.toNat * 256 : Nat) : Int) := Vi (b0.toNat) b1.toNat 8 (by omega) (by omega) (by omega)
 rw [e1]
 have e2 : bits .or .u64 ((b0.toNat + b1.toNat * 256 : Nat) : Int) (IntKind.u64.wrap (IntKind.u64.wrap (b2.toNat : Int) * 65536)) = ((b0.toNat + b1.toNat * 256 + b2.toNat * 65536 : Nat) : Int) := Vi (b0.toNat + b1.toNat * 256) b2.toNat 16 (by omega) (by omega) (by omega)
 rw [e2]
 have e3 : bits .or .u64 ((b0.toNat + b1.toNat * 256 + b2.toNat * 65536 : Nat) : Int) (IntKind.u64.wrap (IntKind.u64.wrap (b3.toNat : Int) * 16777216)) = ((b0.toNat + b1.toNat * 256 + b2.toNat * 65536 + b3.toNat * 16777216 : Nat) : Int) := Vi (b0.toNat + b1.toNat * 256 + b2.toNat * 65536) b3.toNat 24 (by omega) (by omega) (by omega)
 rw [e3]
 have e4 : bits .or .u64 ((b0.toNat + b1.toNat * 256 + b2.toNat * 65536 + b3.toNat * 16777216 : Nat) : Int) (IntKind.u64.wrap (IntKind.u64.wrap (b4.toNat : Int) * 4294967296)) = ((b0.toNat + b1.toNat * 256 + b2.toNat * 65536 + b3.toNat * 16777216 + b4.toNat * 4294967296 : Nat) : Int) := Vi (b0.toNat + b1.toNat * 256 + b2.toNat * 65536 + b3.toNat * 16777216) b4.toNat 32 (by omega) (by omega) (by omega)
 rw [e4]
 have e5 : bits .or .u64 ((b0.toNat + b1.toNat * 256 + b2.toNat * 65536 + b3.toNat * 16777216 + b4.toNat * 4294967296 : Nat) : Int) (IntKind.u64.wrap (IntKind.u64.wrap (b5.toNat : Int) * 1099511627776)) = ((b0.toNat + b1.toNat * 256 + b2.toNat * 65536 + b3.toNat * 16777216 + b4.toNat * 4294967296 + b5.toNat * 1099511627776 : Nat) : Int) := Vi (b0.toNat + b1.toNat * 256 + b2.toNat * 65536 + b3.toNat * 16777216 + b4.toNat * 4294967296) b5.toNat 40 (by omega) (by omega) (by omega)
 rw [e5]
 have e6 : bits .or .u64 ((b0.toNat + b1.toNat * 256 + b2.toNat * 65536 + b3.toNat * 16777216 + b4.toNat * 4294967296 + b5.toNat * 1099511627776 : Nat) : Int) (IntKind.u64.wrap (IntKind.u64.wrap (b6.toNat : Int) * 281474976710656)) = ((b0.toNat + b1.toNat * 256 + b2.toNat * 65536 + b3.toNat * 16777216 + b4.toNat * 4294967296 + b5.toNat * 1099511627776 + b6.toNat * 281474976710656 : Nat) : Int) := Vi (b0.toNat + b1.toNat * 256 + b2.toNat * 65536 + b3.toNat * 16777216 + b4.toNat * 4294967296 + b5.toNat * 1099511627776) b6.toNat 48 (by omega) (by omega) (by omega)
 rw [e6]
 have e7 : bits .or .u64 ((b0.toNat + b1.toNat * 256 + b2.toNat * 65536 + b3.toNat * 16777216 + b4.toNat * 4294967296 + b5.toNat * 1099511627776 + b6.toNat * 281474976710656 : Nat) : Int) (IntKind.u64.wrap (IntKind.u64.wrap (b7.toNat : Int) * 72057594037927936)) = ((b0.toNat + b1.toNat * 256 + b2.toNat * 65536 + b3.toNat * 16777216 + b4.toNat * 4294967296 + b5.toNat * 1099511627776 + b6.toNat * 281474976710656 + b7.toNat * 72057594037927936 : Nat) : Int) := Vi (b0.toNat + b1.toNat * 256 + b2.toNat * 65536 + b3.toNat * 16777216 + b4.toNat * 4294967296 + b5.toNat * 1099511627776 + b6.toNat * 281474976710656) b7.toNat 56 (by omega) (by omega) (by omega)
 rw [e7]
theorem Jl3 (s : ByteArray) (b0 b1 b2 b3 b4 b5 b6 b7 : UInt8) (r : List UInt8) (hs : s.data.toList = b0 :: b1 :: b2 :: b3 :: b4 :: b5 :: b6 :: b7 :: r) (w : World) :
  Calls Tryz.prog 150 #[.string s] w fun e w' => e = .returned (.int .u64 ((b0.toNat + b1.toNat * 256 + b2.toNat * 65536 + b3.toNat * 16777216 + b4.toNat * 4294967296 + b5.toNat * 1099511627776 + b6.toNat * 281474976710656 + b7.toNat * 72057594037927936 : Nat) : Int)) /\ ∃ k, w' = w.drewN k := by
 have i0 := Kd (P := Tryz.prog) 9 Tryz.underlying9 s _ hs .i64 0 (by omega) b0 rfl
 have i1 := Kd (P := Tryz.prog) 9 Tryz.underlying9 s _ hs .i64 1 (by omega) b1 rfl
 have i2 := Kd (P := Tryz.prog) 9 Tryz.underlying9 s _ hs .i64 2 (by omega) b2 rfl
 have i3 := Kd (P := Tryz.prog) 9 Tryz.underlying9 s _ hs .i64 3 (by omega) b3 rfl
 have i4 := Kd (P := Tryz.prog) 9 Tryz.underlying9 s _ hs .i64 4 (by omega) b4 rfl
 have i5 := Kd (P := Tryz.prog) 9 Tryz.underlying9 s _ hs .i64 5 (by omega) b5 rfl
 have i6 := Kd (P := Tryz.prog) 9 Tryz.underlying9 s _ hs .i64 6 (by omega) b6 rfl
 have i7 := Kd (P := Tryz.prog) 9 Tryz.underlying9 s _ hs .i64 7 (by omega) b7 rfl
 clear hs
 go_enter Tryz.func150, Tryz.ntmps150
 go_wp2
 go_quiet (fail)
 go_wp2
 go_ret
 exact ⟨Jas (Joe b0 b1 b2 b3 b4 b5 b6 b7), _, rfl⟩
theorem Jnk (x : Nat) (hx : x < 18446744073709551616) :
  (UInt8.ofNat x).toNat + (UInt8.ofNat (x / 256)).toNat * 256 + (UInt8.ofNat (x / 65536)).toNat * 65536 + (UInt8.ofNat (x / 16777216)).toNat * 16777216 + (UInt8.ofNat (x / 4294967296)).toNat * 4294967296 + (UInt8.ofNat (x / 1099511627776)).toNat * 1099511627776 + (UInt8.ofNat (x / 281474976710656)).toNat * 281474976710656 + (UInt8.ofNat (x / 72057594037927936)).toNat * 72057594037927936 = x := by
 simp only [UInt8.toNat_ofNat']
 omega
theorem Uf (s : ByteArray) (x : Nat) (r : List UInt8) (hx : x < 18446744073709551616) (hs : s.data.toList = leB x ++ r) (w : World) :
  Calls Tryz.prog 150 #[.string s] w fun e w' => e = .returned (.int .u64 (x : Int)) /\ ∃ k, w' = w.drewN k := by
 have := Jl3 s _ _ _ _ _ _ _ _ r hs w
 rw [Jnk x hx] at this
 exact this
theorem Jap (s : ByteArray) (h : 0 < s.size) : ¬ s.toList = [] := by
 rw [Lib.toList_data]
 intro h1
 have := Lib.size_eq s
 rw [h1, List.length_nil] at this
 omega
theorem Uc {P : Program} (t : TypeId) (ht : P.underlying t = some .string) (s : ByteArray) (k : IntKind) (l : Int) (h0 : 0 <= l) (h1 : l <= s.size) (w : World) :
  (Instr.slice t (.string s) (some (.int k l)) none none).run P w = .ok (.string (s.extract l.toNat s.size)) w := by
 simp [Instr.slice, run_underlying ht, Instr.sliceBounds, Instr.sliceBound, asIntOf, h0, h1, Result.andThen]
theorem Jgj (n : Nat) (w : World) (hn : n < 18446744073709551616) : Calls Tryz.prog 122 #[.int .u64 (n : Int)] w (Ret (Jh n) w) := by
 have e : Jh n = .agg #[.int .u64 (n : Int), .string ⟨#[]⟩] := by unfold Jh; rw [Ju n hn, Qa n hn]
 rw [e]
 go_enter Tryz.func122, Tryz.ntmps122
 go_wp2
 go_returns
 exact ⟨rfl, (Below.refl _ _).alloc zd _⟩
theorem Qr (n : Nat) (w : World) (hn : Je n <= 4611686018427387904) : Calls Tryz.prog 115 #[Jh n] w (Ret (.int .i64 ((Je n : Nat) : Int)) w) := by
 unfold Jh
 by_cases h : n < 18446744073709551616
 ·rw [Qa n h, Ju n h]
  have e := lh (Vb n h)
  go_enter Tryz.func115, Tryz.ntmps115
  go_wp2_with fail
  refine (Tryz.bits_Len64 (n : Int) _ (by omega) (by omega)).mono ?_
  rintro e' w1 ⟨rfl, rfl⟩
  go_wp2
  go_ret
  exact ⟨Jas (by rw [e.out]), (Below.refl _ _).alloc zd _⟩
 have p7 := Vj n
 have aJ := Ye n h
 have bG := Ky n (by omega)
 obtain ⟨_, bH, aK⟩ := Xx n (by omega)
 have aL := Jmm n h
 generalize hs : mo n = s at p7 aL
 have cS : 8 <= s.size := by omega
 have cT : (s.size : Int) * 8 <= 4611686018427387904 := by omega
 have HA := lh (And.intro p7 (And.intro bG (And.intro bH aL)))
 have aM : ((s.size : Int) - 8).toNat = s.size - 8 := by omega
 clear p7 bG bH aL hs aJ hn
 have aN := Jap s (by omega)
 have bW : s.toList.isEmpty = false := by simpa using aN
 have bX : ∀ w, (Instr.slice 9 (.string s) (some (.int .i64 ((s.size : Int) - 8))) none none).run Tryz.prog w = .ok (.string (s.extract (s.size - 8) s.size)) w := fun w => by
  have := Uc (P := Tryz.prog) 9 Tryz.underlying9 s .i64 ((s.size : Int) - 8) (by omega) (by omega) w
  rw [this, aM]
 have t8 : (s.extract (s.size - 8) s.size).data.toList = leB (top n) ++ [] := by
  rw [Lib.extract_data, HA.out.2.2.2, List.take_of_length_le (by rw [Jby]; omega), List.append_nil]
 have bY : IntKind.i64.wrap (8 * (s.size : Int)) = 8 * (s.size : Int) := IntWalk.i64_in _ (by omega)
 have bZ : IntKind.i64.wrap ((s.size : Int) - 8) = (s.size : Int) - 8 := IntWalk.i64_in _ (by omega)
 have HEX := lh t8
 clear t8
 generalize s.extract (s.size - 8) s.size = sx at *
 go_enter Tryz.func115, Tryz.ntmps115
 go_wp2_with fail
 go_quiet (first | (go_at_call 150; refine Calls.quiet_of (Uf sx (top n) [] aK HEX.out _)) | (go_at_call 149; refine Calls.quiet_of_same (Tryz.bits_Len64 _ _ (by omega) (by omega))))
 have cA : Lib.bitLen (top n) <= 64 := Lib.bitLen_le _ 64 (by omega) aK
 go_wp2
 go_ret
 obtain ⟨h1, h2, h3, h4⟩ := HA.out
 have h5 := Vb (top n) aK
 exact ⟨Jas (by rw [IntWalk.wrap64_in _ (by omega), h2, <- h5]; omega), Jy ((Below.refl _ _).alloc zd _) _⟩
def New {α : Type} (w w' : World) (e : TypeId) (f : α -> Value) (v : Value) (l : List α) : Prop := Own w' e f v l /\ Below w.heap.size w w' /\ ∀ k, v.ownBlock = some k -> w.heap.size <= k
def Jk (x : Nat) : Value := .int .u64 (x : Int)
theorem Tryz.infoU64 : (Tryz.prog.info? 59).map (fun i => (i.zero, i.size, i.bytes)) = some (some (Jk 0), 1, 8) := by kernel_rfl
theorem Jf6 (n i : Nat) (x : Nat) (hi : 1 <= i) (hx : (Jf n)[i]? = some x) : ∃ r, (mo n).data.toList.drop (8 * (i - 1)) = leB x ++ r := by
 have e : (mo n).data.toList = (Jf n).tail.flatMap leB := rfl
 rw [e, Jfs, List.drop_tail, show i - 1 + 1 = i from by omega]
 have hk : i < (Jf n).length := (List.getElem?_eq_some_iff.1 hx).1
 have s9 : (Jf n)[i] = x := (List.getElem?_eq_some_iff.1 hx).2
 rw [List.drop_eq_getElem_cons hk, s9, List.flatMap_cons]
 exact ⟨_, rfl⟩
theorem Jmn (l : List Nat) (i x : Nat) (hx : l[i]? = some x) : (l.take i ++ List.replicate (l.length - i) 0).set i x = l.take (i + 1) ++ List.replicate (l.length - (i + 1)) 0 := by
 have hk : i < l.length := (List.getElem?_eq_some_iff.1 hx).1
 obtain ⟨m, hm⟩ : ∃ m, l.length = i + 1 + m := ⟨l.length - (i + 1), by omega⟩
 rw [hm, show i + 1 + m - i = m + 1 from by omega, show i + 1 + m - (i + 1) = m from by omega, List.replicate_succ, List.set_append_right _ _ (by rw [List.length_take]; omega)]
 rw [List.length_take, show i - min i l.length = 0 from by omega, List.set_cons_zero, List.take_add_one, hx]
 simp
theorem Jlu (L x : Nat) (hL : 0 < L) : (Array.replicate L (Jk 0)).setIfInBounds 0 (Jk x) = (([x] ++ List.replicate (L - 1) 0).map Jk).toArray := by
 obtain ⟨m, rfl⟩ : ∃ m, L = m + 1 := ⟨L - 1, by omega⟩
 rw [<- List.toArray_replicate, List.setIfInBounds_toArray, List.replicate_succ, List.set_cons_zero]
 simp
def Jmw (w : World) (n : Nat) (i : Nat) (wr : World) : Prop :=
 Row wr (w.heap.size + 1) 59 Jk ((Jf n).take i ++ List.replicate ((Jf n).length - i) 0) /\ Below (w.heap.size + 1) (w.alloc (.cells #[.int .u64 (lo n : Int), .string (mo n)] 61)) wr
theorem Xz (n : Nat) (w : World) (hn : Je n <= 4611686018427387904) (hw : (Jf n).length <= 17592186044416) : Calls Tryz.prog 127 #[Jh n] w fun e w' => ∃ v, e = .returned v /\ New w w' 59 Jk v (Jf n) := by
 unfold Jh
 by_cases h0 : n = 0
 ·subst h0
  rw [Qa 0 (by omega), Ju 0 (by omega)]
  go_enter Tryz.func127, Tryz.ntmps127
  go_wp2
  go_ret
  exact ⟨_, rfl, Own.nil_ _ _ _, (Below.refl _ _).alloc zd _, fun k hk => by simp [Value.ownBlock] at hk⟩
 by_cases hb : n < 18446744073709551616
 ·have bI := Jg6 n hb h0
  rw [Qa n hb, Ju n hb, bI]
  have hz : ((n : Int) == 0) = false := by simp; omega
  have aG := Qf (P := Tryz.prog) Jk 0 178 59 8 Tryz.underlying178 Tryz.infoU64 rfl .i64 .i64 1 (by omega) (by omega)
  have cB : ∀ w, (Instr.makeSlice 178 (.int .i64 1) (.int .i64 1)).run Tryz.prog w = .ok (.slice (some ⟨w.heap.size, 0, none⟩) 1 1) (w.alloc (.cells #[.int .u64 0] 59)) := aG
  clear aG bI hw hn
  go_enter Tryz.func127, Tryz.ntmps127
  go_wp2_with fail
  go_rounds 1
  go_ret
  have ho := Own.lit (w.alloc (.cells #[.int .u64 (n : Int), .string ⟨#[]⟩] 61)) 59 Jk [n] (by unfold maxLen; simp)
  refine ⟨_, rfl, by simpa [Jk] using ho, ((Below.refl _ _).alloc zd _).alloc (by simp) _, fun k hk => ?_⟩
  simp [Value.ownBlock] at hk
  omega
 have p7 := Vj n
 have u4 : 1 <= (Jf n).length := by rw [Qd n h0]; simp
 obtain ⟨L, hL⟩ : ∃ L, (Jf n).length = L := ⟨_, rfl⟩
 have aG := Qf (P := Tryz.prog) Jk 0 178 59 8 Tryz.underlying178 Tryz.infoU64 rfl .i64 .i64 L (by omega) (by omega)
 have cC : (1 : Int) + ((mo n).size : Int) / 8 = (L : Int) := by rw [p7]; omega
 have d1 := Jap (mo n) (by have := Ye n hb; omega)
 have d2 : (mo n).toList.isEmpty = false := by simpa using d1
 have HH := lh (And.intro p7 hL)
 have cU : L <= 17592186044416 := by omega
 have aM : ((mo n).size : Int) <= 140737488355328 := by omega
 have cV : 1 <= L := by omega
 have bJ : 0 < L := by omega
 have cW : (0 : Int) < (L : Int) := by omega
 have aO : (Array.replicate L (Jk 0))[0]? = some (.int .u64 0) := by rw [Array.getElem?_replicate, if_pos bJ]; rfl
 clear p7 hL hw hn u4
 go_enter Tryz.func127, Tryz.ntmps127
 go_wp2_with fail
 clear aG aO
 go_loopw [4] (fun x wr => ∃ i : Nat, 1 <= i /\ i <= L /\ x = .int .i64 i /\ Jmw w n i wr) (fun x _ => L - (intOf x).toNat)
 case atStart =>
  refine ⟨1, by omega, by omega, rfl, ?_, ?_⟩
  ·have hr := Row.new (w.alloc (.cells #[.int .u64 (lo n : Int), .string (mo n)] 61)) 59 Jk ([lo n] ++ List.replicate (L - 1) 0)
   rw [<- Jlu L (lo n) bJ] at hr
   have e1 : (Jf n).take 1 = [lo n] := by rw [Jba n h0]; rfl
   rw [HH.out.2, e1]
   rw [World.size_alloc] at hr
   exact hr
  exact (Below.refl _ _).alloc (by simp) _
 case round =>
  obtain ⟨i, cD, cZ, rfl, j7, e9⟩ := hrel
  by_cases x7 : i < L
  ·obtain ⟨x, hx⟩ : ∃ x, (Jf n)[i]? = some x := ⟨_, List.getElem?_eq_getElem (by rw [HH.out.2]; exact x7)⟩
   obtain ⟨r, hr⟩ := Jf6 n i x cD hx
   have cE := Kp n x (List.mem_of_getElem? hx)
   have e8 := j7.cell (k := i) (x := 0) (by rw [List.getElem?_append_right (by rw [List.length_take]; omega), List.getElem?_replicate]; simp; have := HH.out.2; omega)
   have dA := j7.frozen i
   have cF : wr.cell? ⟨w.heap.size, 1, none⟩ = some (.string (mo n)) := by
    rw [e9.cell (p := ⟨w.heap.size, 1, none⟩) (by simp)]
    exact (Blk.new w _ _).cell 1
   have dB := j7.set_ i x
   have aP := Jmn (Jf n) i x hx
   rw [HH.out.2] at aP
   have dC := e9.setCell (p := ⟨w.heap.size + 1, i, none⟩) zd (Jk x)
   have HR := lh (And.intro hr (And.intro aP hx))
   unfold Jk at e8
   have bX : ∀ w, (Instr.slice 9 (.string (mo n)) (some (.int .i64 (8 * ((i : Int) - 1)))) none none).run Tryz.prog w = .ok (.string ((mo n).extract (8 * (i - 1)) (mo n).size)) w := fun w => by
    have hq := HH.out
    have := Uc (P := Tryz.prog) 9 Tryz.underlying9 (mo n) .i64 (8 * ((i : Int) - 1)) (by omega) (by omega) w
    rw [this, show (8 * ((i : Int) - 1)).toNat = 8 * (i - 1) from by omega]
   have t8 : ((mo n).extract (8 * (i - 1)) (mo n).size).data.toList = leB x ++ r := by
    have hq := HH.out
    rw [Lib.extract_data, hr, List.take_of_length_le]
    have h5 := congrArg List.length hr
    rw [List.length_drop, <- Lib.size_eq] at h5
    omega
   have HEX := lh t8
   clear t8 hr aP hx
   generalize (mo n).extract (8 * (i - 1)) (mo n).size = sx at *
   go_wp2_with fail
   refine (Uf sx x r cE HEX.out _).mono ?_
   rintro e w1 ⟨rfl, k, rfl⟩
   go_wp2
   refine ⟨⟨i + 1, by omega, by omega, by go_num, ?_, ?_⟩, by simp [intOf]; omega⟩
   ·have h6 := (j7.drewN k).set_ i x
    rw [HH.out.2, HR.out.2.1] at h6
    rw [HH.out.2]
    exact h6
   exact (Jy e9 k).setCell zd _
  obtain rfl : i = L := by omega
  go_wp2
  go_ret
  have hq := HH.out.2
  rw [hq, List.take_of_length_le (by omega), Nat.sub_self, List.replicate_zero, List.append_nil] at j7
  have ho := Own.ofBlk j7 (by unfold maxLen; omega)
  rw [hq] at ho
  exact ⟨_, rfl, ho, ((Below.refl _ _).alloc zd _).trans (e9.mono (by omega)), fun k hk => by simp [Value.ownBlock] at hk; omega⟩
def lenOf : Value -> Nat
 | .slice _ n _ => n
 | _ => 0
theorem Vw {l : List Nat} {k : Nat} (h : l[k]? = some 0) : trimL (l.take (k + 1)) = trimL (l.take k) := by
 rw [List.take_add_one, h, Option.toList_some, Jhe]
theorem Vv {l : List Nat} {k x : Nat} (h : l[k]? = some x) (hx : x ≠ 0) : trimL (l.take (k + 1)) = l.take (k + 1) := by
 rw [List.take_add_one, h, Option.toList_some, Jir _ _ hx]
theorem Jhz (A : Option Addr) (n c B : Nat) (l : List Nat) (w : World) (h : Reads w B 1 A n (l.map Jk)) (hn : n <= 9223372036854775807) (hc : n <= c) :
  Calls Tryz.prog 160 #[.slice A n c] w fun e w' => e = .returned (.slice A (trimL l).length c) /\ w = w' := by
 have hl := h.lenf
 have HL := lh hl
 clear hl
 go_enter Tryz.func160, Tryz.ntmps160
 go_wp2
 go_loop [0] (fun v => ∃ k : Nat, k <= n /\ v = .slice A k c /\ Hid (trimL (l.take k) = trimL l)) (fun v => lenOf v)
 case atStart => exact ⟨n, Nat.le_refl _, rfl, by show _ = _; rw [List.take_of_length_le (by rw [HL.out]; omega)]⟩
 case round =>
  obtain ⟨k, hk, rfl, HK⟩ := hrel
  by_cases h0 : k = 0
  ·subst h0
   go_wp2
   go_ret
   have := HK.out
   rw [<- this]
   exact ⟨rfl, rfl⟩
  obtain ⟨j, rfl⟩ : ∃ j, k = j + 1 := ⟨k - 1, by omega⟩
  obtain ⟨ad, x, hA, hb, hx, e8⟩ := h.atf (show j < n by omega)
  subst hA
  unfold Jk at e8
  have k1 : (((j + 1 : Nat) : Int) - 1) = (j : Int) := by omega
  have k2 : (j : Int) < ((j + 1 : Nat) : Int) := by omega
  have k3 : (0 : Int) < ((j + 1 : Nat) : Int) := by omega
  have k4 : (j : Int) <= (c : Int) := by omega
  have HX := lh hx
  clear hx
  by_cases bK : x = 0
  ·subst bK
   go_wp2
   refine ⟨⟨j, by omega, rfl, ?_⟩, by simp [lenOf]⟩
   show _ = _
   rw [<- Vw HX.out]
   exact HK.out
  have dD : ((x : Int) == 0) = false := by simp; omega
  go_wp2
  go_ret
  refine ⟨?_, rfl⟩
  have h1 := HK.out
  rw [Vv HX.out bK] at h1
  rw [<- h1, List.length_take, HL.out, Nat.min_eq_left hk]
  rfl
theorem Jb5 (B b : Nat) (l : List UInt8) (x : UInt8) (w : World) (h : Lib.BuilderAt 211 5 B b (.pointer (some ⟨b, 0, none⟩)) (Lib.byteCells l) w) (hl : l.length < 140737488355328) (hB : B <= w.heap.size) :
  Calls Tryz.prog 162 #[.pointer (some ⟨b, 0, none⟩), .int .u8 (x.toNat : Int)] w fun e w' => (∃ v, e = .returned v) /\ Lib.BuilderAt 211 5 B b (.pointer (some ⟨b, 0, none⟩)) (Lib.byteCells (l ++ [x])) w' /\ Below B w w' := by
 obtain ⟨bL, v, j0, o7, bM⟩ := h
 have q0 : w.cell? ⟨b, 0, none⟩ = some (.pointer (some ⟨b, 0, none⟩)) := by simp [World.cell?, j0]
 have q1 : w.cell? ⟨b, 1, none⟩ = some v := by simp [World.cell?, j0]
 have f1 : w.frozen? ⟨b, 1, none⟩ = false := by simp [World.frozen?, j0]
 obtain ⟨i0, cG, bN, cH, cI⟩ := info_parts Tryz.infoU8
 rw [Lib.byteCells_length] at o7
 have bO : ∀ w : World, (binOp .neq 209 (.pointer (some ⟨b, 0, none⟩)) (.pointer (some ⟨b, 0, none⟩))).run Tryz.prog w = .ok (.bool false) w := fun w => by
  obtain ⟨j, hj⟩ : ∃ j, Tryz.prog.info? 211 = some j := Option.isSome_iff_exists.1 (by kernel_rfl)
  exact Lib.run_neq_ptr_same w _ Tryz.underlying209 hj
 go_enter Tryz.func162, Tryz.ntmps162
 go_wp2_with (first | (at_builtin; go_must (refine Zj _ rfl (.tmp 11) (.tmp 13) 164 rfl B 5 i0 (u8v 0) 1 1 Tryz.underlying164 cG bN cH cI rfl (by omega) v l.length (Lib.byteCells l) rfl (o7.alloc _) (w.heap.size + 1) (some ⟨w.heap.size, 0, none⟩) 1 1 [.int .u8 (x.toNat : Int)] rfl (Reads.one _ _ _) ?c1 ?c2 ?c3 ?c4 ?_)) | go_in)
 case c1 => intro u hu; simp at hu; subst hu; rfl
 case c2 => unfold maxLen; omega
 case c3 => omega
 case c4 => simp; omega
 intro v' w1 o0 p8 bP
 have x7 : b < w.heap.size := by
  rcases Nat.lt_or_ge b w.heap.size with h1 | h1
  ·exact h1
  rw [Array.getElem?_eq_none h1] at j0; cases j0
 have j6 : w1.heap[b]? = some (.cells #[.pointer (some ⟨b, 0, none⟩), v] 211 (0, 0)) := by
  rw [p8.block b (by simp; omega) (fun e => bM e.symm), Below.heap_alloc _ _ _ x7]
  exact j0
 have q1' : w1.cell? ⟨b, 1, none⟩ = some v := by simp [World.cell?, j6]
 have f1' : w1.frozen? ⟨b, 1, none⟩ = false := by simp [World.frozen?, j6]
 have x8 : v'.ownBlock ≠ some b := by
  rcases bP with h1 | h1
  ·rw [h1]; exact bM
  rw [h1]
  simp
  omega
 have cJ : ∀ k, v.ownBlock = some k -> B <= k := fun k hk => (World.ownsRow.lt o7 k hk).1
 have e9 : Below B w w1 := ((Below.refl _ _).alloc (by omega) _).trans ⟨p8.os, p8.tape, p8.output, p8.size, fun k hk => p8.block k (by simp; omega) (fun e => by have := cJ k e.symm; omega)⟩
 have x9 : Lib.BuilderAt 211 5 B b (.pointer (some ⟨b, 0, none⟩)) (Lib.byteCells (l ++ [x])) (w1.setCell ⟨b, 1, none⟩ v') := by
  refine ⟨bL, v', ?_, ?_, x8⟩
  ·simp [World.setCell, Array.getElem?_modify, j6]
  have h5 : Lib.byteCells (l ++ [x]) = Lib.byteCells l ++ [.int .u8 (x.toNat : Int)] := by simp [Lib.byteCells]
  rw [h5, List.length_append, Lib.byteCells_length]
  exact o0.kept (row := some b) ⟨rfl, rfl, rfl, by simp [World.setCell], fun k _ hk => Below.heap_setCell _ _ _ _ (fun e => hk (by simp [e]))⟩ (Or.inr x8)
 have HF := lh (And.intro x9 (e9.setCell (p := ⟨b, 1, none⟩) bL v'))
 obtain ⟨A', n', c', bQ⟩ : ∃ A' n' c', v' = .slice A' n' c' := by
  rcases o0.2 with ⟨h1, _⟩ | ⟨g, cap, cur, h1, _⟩
  ·exact ⟨_, _, _, h1⟩
  exact ⟨_, _, _, h1⟩
 rw [bQ] at HF ⊢
 clear j0 o7 o0 x9 e9 p8 bP bQ q0 q1 j6
 go_wp2
 go_ret
 exact ⟨⟨_, rfl⟩, HF.out.1, HF.out.2⟩
theorem Jlj (l : List Nat) : val l = dv 18446744073709551616 l := by
 induction l with
 | nil => rfl
 | cons x r ih => simp only [val, dv, ih]
theorem Jbo (l : List Nat) (h : Dig 18446744073709551616 l) : Jf (dv 18446744073709551616 l) = trimL l := by
 rw [<- Jdi, <- Jlj]
 exact Jkd _ (fun x hx => h.trimL x hx) (Jdh l)
theorem Jnl (x k : Nat) (h : k < 8) : (leB x)[k]? = some (Zn x k) := by
 have e : k = 0 \/ k = 1 \/ k = 2 \/ k = 3 \/ k = 4 \/ k = 5 \/ k = 6 \/ k = 7 := by omega
 have u : ∀ n : Nat, UInt8.ofNat (n % 256) = UInt8.ofNat n := fun n => by
  apply UInt8.toNat_inj.1
  rw [UInt8.toNat_ofNat', UInt8.toNat_ofNat']
  omega
 rcases e with rfl | rfl | rfl | rfl | rfl | rfl | rfl | rfl <;> simp [leB, Zn, u]
theorem Jl9 (n x : Nat) (r : List Nat) (h : Jf n = x :: r) : lo n = x := by
 have h0 : n ≠ 0 := by
  intro h0
  subst h0
  rw [Qh] at h
  cases h
 rw [Qd n h0] at h
 injection h
theorem Jce : Jh 0 = .agg #[.int .u64 0, .string ⟨#[]⟩] := by unfold Jh; rw [Ju 0 (by omega), Qa 0 (by omega)]; rfl
def Jn2 (w : World) (b : Nat) (l : List UInt8) (wr : World) : Prop :=
 Lib.BuilderAt 211 5 b b (.pointer (some ⟨b, 0, none⟩)) (Lib.byteCells l) wr /\ Below b w wr
theorem Qe (A : Option Addr) (n c B : Nat) (l : List Nat) (w : World) (h : Reads w B 1 A n (l.map Jk)) (hB : B <= w.heap.size) (hd : Dig 18446744073709551616 l) (hn : n <= 17592186044416) (hc : n <= c) :
  Calls Tryz.prog 125 #[.slice A n c] w (Ret (Jh (dv 18446744073709551616 l)) w) := by
 have hw := Jbo l hd
 have aQ := hd.trimL
 obtain ⟨N, hN⟩ : ∃ N, dv 18446744073709551616 l = N := ⟨_, rfl⟩
 rw [hN] at hw ⊢
 have aR := h.lenf
 have bR := Us l
 have p9 := h.front (k := (trimL l).length) (by omega)
 rw [Nat.mul_one, <- List.map_take, <- Zy] at p9
 have aS := Jhz A n c B l (w.alloc (.cells #[.int .u64 0, .string ⟨#[]⟩] 61)) (Reads.alloc h hB _) (by omega) hc
 generalize trimL l = t at *
 have HW := lh hw
 clear hN hw hd
 obtain ⟨m, hm⟩ : ∃ m, t.length = m := ⟨_, rfl⟩
 rw [hm] at p9 bR aS
 have dE : m <= n := by omega
 have HM := lh hm
 have HTR := lh aS
 clear hm aR aS bR h
 have aH := Blk.new w 61 #[.int .u64 0, .string ⟨#[]⟩]
 have q0 := aH.cell 0
 have q1 := aH.cell 1
 simp at q0 q1
 by_cases h0 : m = 0
 ·subst h0
  obtain rfl : t = [] := List.eq_nil_of_length_eq_zero HM.out
  have aT : N = 0 := by rw [<- Jao N, HW.out]; rfl
  subst aT
  have e : Jh 0 = .agg #[.int .u64 0, .string ⟨#[]⟩] := by unfold Jh; rw [Ju 0 (by omega), Qa 0 (by omega)]; rfl
  rw [e]
  go_enter Tryz.func125, Tryz.ntmps125
  go_wp2_with fail
  refine HTR.out.mono ?_
  rintro e w1 ⟨rfl, rfl⟩
  go_wp2
  go_returns
  exact ⟨rfl, by go_grown⟩
 by_cases h1 : m = 1
 ·subst h1
  obtain ⟨x, rfl⟩ : ∃ x, t = [x] := List.length_eq_one_iff.1 HM.out
  have hx : x < 18446744073709551616 := aQ x (by simp)
  have aT : N = x := by rw [<- Jao N, HW.out]; simp [val]
  subst aT
  have e : Jh N = .agg #[.int .u64 (N : Int), .string ⟨#[]⟩] := by unfold Jh; rw [Ju N hx, Qa N hx]
  rw [e]
  obtain ⟨ad, x', hA, hb, y8, e8⟩ := p9.atf (k := 0) (by omega)
  simp at y8
  subst y8
  subst hA
  have aU : (w.alloc (.cells #[.int .u64 0, .string ⟨#[]⟩] 61)).cell? ad = some (.int .u64 (N : Int)) := (World.cell?_alloc_lt w _ ad (by omega)).trans e8
  go_enter Tryz.func125, Tryz.ntmps125
  go_wp2_with fail
  refine HTR.out.mono ?_
  rintro e w1 ⟨rfl, rfl⟩
  go_wp2
  go_returns
  exact ⟨rfl, by go_grown⟩
 obtain ⟨x0, t', rfl⟩ : ∃ x0 t', t = x0 :: t' := by
  cases t with
  | nil => exact absurd HM.out.symm h0
  | cons a b => exact ⟨a, b, rfl⟩
 have y9 : t'.length = m - 1 := by have := HM.out; simp at this; omega
 have e : Jh N = .agg #[.int .u64 (x0 : Int), .string ⟨(t'.flatMap leB).toArray⟩] := by
  unfold Jh
  rw [Jl9 N x0 t' HW.out]
  unfold mo more
  rw [HW.out]
  rfl
 rw [e]
 obtain ⟨ad, x', hA, hb, y8, e8⟩ := p9.atf (k := 0) (by omega)
 simp at y8
 subst y8
 subst hA
 have aI := Reads.part p9 c 1 (m - 1) (by omega) (by omega)
 simp only [Nat.mul_one, List.map_cons, List.drop_succ_cons, List.drop_zero] at aI
 rw [List.take_of_length_le (by simp; omega)] at aI
 have aM : ∀ w, (Instr.slice 178 (.slice (some ad) m c) (some (.int .i64 1)) none none).run Tryz.prog w = .ok (.slice (Jb3 (some ad) c 1 1) (m - 1) (c - 1)) w :=
  fun w => Jc9 Tryz.underlying178 Tryz.infoU64 (some ad) m c .i64 1 (by omega) (by omega) w
 have dF : ((m : Int) == 0) = false := by simp; omega
 have dG : ((m : Int) == 1) = false := by simp; omega
 have k1 : (8 : Int) * ((m : Int) - 1) = ((8 * (m - 1) : Nat) : Int) := by omega
 have bN : 0 < m := by omega
 have hf := Jd7 t'
 have HF := lh hf
 have HLT := lh y9
 clear hf y9
 have bS : x0 < 18446744073709551616 := aQ x0 (by simp)
 go_enter Tryz.func125, Tryz.ntmps125
 go_wp2_with fail
 refine HTR.out.mono ?_
 rintro e w1 ⟨rfl, rfl⟩
 go_wp2_with fail
 have aV := heap_alloc_new (w.alloc (.cells #[.int .u64 0, .string ⟨#[]⟩] 61)) (.cells #[.pointer none, .slice none 0 0] 211)
 rw [World.size_alloc] at aV
 have hg := Tryz.Builder_Grow_fresh (w.heap.size + 1) (w.heap.size + 1) (8 * (m - 1)) ((w.alloc (.cells #[.int .u64 0, .string ⟨#[]⟩] 61)).alloc (.cells #[.pointer none, .slice none 0 0] 211)) zd aV (by simp) (by omega)
 rw [show ((8 * (m - 1) : Nat) : Int) = 8 * ((m - 1 : Nat) : Int) from by omega] at hg
 refine hg.mono ?_
 rintro e w2 ⟨rfl, aW, e9⟩
 have o6 : Below w.heap.size w w2 := (((Below.refl _ _).alloc zd _).alloc (by simp) _).trans (e9.mono (by omega))
 have aA : Below (w.heap.size + 1) (w.alloc (.cells #[.int .u64 0, .string ⟨#[]⟩] 61)) w2 := ((Below.refl _ _).alloc (by simp) _).trans e9
 have aX : Blk w2 w.heap.size 61 #[.int .u64 0, .string ⟨#[]⟩] := aH.below aA (by omega)
 generalize dH : w.heap.size + 1 = b at *
 have cK : Reads w2 w.heap.size 1 (some ad) m ((x0 :: t').map Jk) := (p9.more hB).below o6
 have cL : Reads w2 w.heap.size 1 (Jb3 (some ad) c 1 1) (m - 1) (t'.map Jk) := (aI.more hB).below o6
 clear hg aV e9 aH q0 q1 e8 p9 aI k1 HTR
 go_wp2_with fail
 go_loopw [5, 6, 28] (fun x5 x6 i wr => ∃ k : Nat, k <= m - 1 /\ i = .int .i64 k /\ Jn2 w2 b ((t'.take k).flatMap leB) wr) (fun _ _ i _ => m - 1 - (intOf i).toNat)
 case atStart => exact ⟨0, Nat.zero_le _, rfl, aW, Below.refl _ _⟩
 case round =>
  obtain ⟨k, hk, rfl, j8, t7⟩ := hrel
  by_cases x7 : k < m - 1
  ·have aY := cL.below (t7.mono (show w.heap.size <= b by omega))
   obtain ⟨ad2, x, aB, dI, hx, cM⟩ := aY.atf x7
   have cN : x < 18446744073709551616 := aQ x (by simp; exact .inr (List.mem_of_getElem? hx))
   have dJ : (k : Int) < ((m - 1 : Nat) : Int) := by omega
   have HX := lh hx
   unfold Jk at cM
   rw [aB]
   clear hx aW
   go_wp2_with fail
   obtain ⟨wo, bT⟩ : ∃ wo : World, wo = wr := ⟨_, rfl⟩
   rw [<- bT] at t7 j8 ⊢
   clear bT
   go_loopw [6, 32] (fun x6 j wr => ∃ p : Nat, p <= 8 /\ j = .int .i64 p /\ Jn2 w2 b ((t'.take k).flatMap leB ++ (leB x).take p) wr) (fun _ j _ => 8 - (intOf j).toNat)
   case atStart => exact ⟨0, by omega, rfl, by simpa using j8, t7⟩
   case round =>
    obtain ⟨p, hp, rfl, o8, bU⟩ := hrel
    by_cases cO : p < 8
    ·have aC := Jnl x p cO
     have e1 := Jf0 x p
     have aZ : ((t'.take k).flatMap leB ++ (leB x).take p).length < 140737488355328 := by
      have h5 := Jd7 (t'.take k)
      have h6 : (t'.take k).length <= k := by rw [List.length_take]; omega
      have h7 : ((leB x).take p).length <= 8 := by rw [List.length_take, Jby]; omega
      rw [List.length_append, h5]
      omega
     have bV : (t'.take k).flatMap leB ++ (leB x).take p ++ [Zn x p] = (t'.take k).flatMap leB ++ (leB x).take (p + 1) := by
      rw [List.append_assoc, List.take_add_one, aC]
      rfl
     generalize Zn x p = y at *
     generalize (t'.take k).flatMap leB ++ (leB x).take p = pre at *
     have HSN := lh bV
     clear bV aC
     have k3 : (8 : Int) * (p : Int) <= 56 := by omega
     go_wp2_with fail
     refine (Jb5 b b pre y wr o8 aZ (Nat.le_of_lt (Lib.BuilderAt.lt o8))).mono ?_
     rintro e w5 ⟨⟨v5, rfl⟩, aD, o9⟩
     rw [HSN.out] at aD
     go_wp2
     refine ⟨⟨p + 1, by omega, by go_num, aD, bU.trans o9⟩, by simp [intOf]; omega⟩
    obtain rfl : p = 8 := by omega
    rw [List.take_of_length_le (l := leB x) (by rw [Jby]; omega)] at o8
    go_wp2
    refine ⟨⟨k + 1, by omega, by go_num, ?_, bU⟩, by simp [intOf]; omega⟩
    rw [List.take_add_one, HX.out, List.flatMap_append]
    simpa using o8
  obtain rfl : k = m - 1 := by omega
  rw [List.take_of_length_le (by rw [HLT.out]; omega)] at j8
  have aY := cK.below (t7.mono (show w.heap.size <= b by omega))
  obtain ⟨ad2, x2, aB, _, s9, e8⟩ := aY.atf (k := 0) (by omega)
  injection aB with aB
  subst aB
  simp at s9
  subst s9
  rw [show ad.add 0 = ad from rfl] at e8
  unfold Jk at e8
  have bA : Blk wr w.heap.size 61 #[.int .u64 0, .string ⟨#[]⟩] := aX.below t7 (by omega)
  have bB : Blk wr.drew w.heap.size 61 #[.int .u64 0, .string ⟨#[]⟩] := bA
  have q8 : wr.drew.cell? ad = some (.int .u64 (x0 : Int)) := e8
  have bC : w.heap.size < b := by omega
  have cP : b <= wr.heap.size := Nat.le_of_lt (Lib.BuilderAt.lt j8)
  have bD : b <= wr.drew.heap.size := cP
  have aE := Tryz.Builder_String_any b b (t'.flatMap leB) wr.drew (.inr j8) bD
  have k5 : ¬ ((m - 1 : Nat) : Int) < ((m - 1 : Nat) : Int) := by omega
  generalize hfl : (t'.flatMap leB).toArray = fl at *
  have HST := lh aE
  clear aE aW j8 hfl
  have aF : ad.block < b := by omega
  go_wp2_with fail
  go_region_with (go_at_call 163; refine HST.out.mono ?_; rintro e' w5 ⟨rfl, o9⟩; have bE : w5.cell? ad = some (Value.int IntKind.u64 ↑x0) := (o9.cell aF).trans q8; have j9 : Blk w5 w.heap.size 61 #[.int .u64 0, .string ⟨#[]⟩] := bB.below o9 bC; have q0 := j9.cell 0; have q1 := j9.cell 1; have f0 := j9.frozen 0; have f1 := j9.frozen 1; have s0 := j9.same0 (by simp); have s1 := j9.same1 (by simp); simp at q0 q1)
  all_goals
   go_wp2
   refine bodyPost_ret (v := .agg #[.int .u64 (x0 : Int), .string ⟨fl⟩]) (by simp [results, Tryz.results125, go_sem, s0, s1]) rfl ?_
   have cQ : Below b wr w5 := ⟨o9.os, o9.tape, o9.output, o9.size, o9.block⟩
   have bF : Below w.heap.size w w5 := (o6.trans (t7.mono (by omega))).trans (cQ.mono (by omega))
   exact ⟨rfl, (bF.setCell zd _).setCell zd _⟩
theorem Tryz.eltU64 : Elt Tryz.prog 178 59 (Jk 0) 8 := ⟨Tryz.underlying178, Tryz.infoU64, rfl⟩
theorem Yl (x y c : Nat) (hc : c <= 1) (w : World) :
  (callFunc 164 #[.int .u64 (x : Int), .int .u64 (y : Int), .int .u64 (c : Int)]).run Tryz.prog w =
   .ok (.value (.tuple #[.int .u64 (((x + y + c) % 18446744073709551616 : Nat) : Int), .int .u64 (((x + y + c) / 18446744073709551616 : Nat) : Int)])) w := by
 rw [run_callFunc_extern Tryz.func164 (by kernel_rfl) (by kernel_rfl) (by kernel_rfl) (e := add64Entry) (by kernel_rfl), run_add64 x y c (by omega) (by omega) (by omega) (by omega)]
 simp only [Result.andThen]
 congr 5 <;> omega
theorem Jc8 (x y c : Nat) (hc : c <= 1) (w : World) :
  (callFunc 173 #[.int .u64 (x : Int), .int .u64 (y : Int), .int .u64 (c : Int)]).run Tryz.prog w =
   .ok (.value (.tuple #[.int .u64 (((x + 18446744073709551616 - y - c) % 18446744073709551616 : Nat) : Int), .int .u64 ((if x < y + c then 1 else 0 : Nat) : Int)])) w := by
 rw [run_callFunc_extern Tryz.func173 (by kernel_rfl) (by kernel_rfl) (by kernel_rfl) (e := sub64Entry) (by kernel_rfl), run_sub64 x y c hc]
 rfl
def Qx (a b : Nat) : Int := if a < b then -1 else if b < a then 1 else 0
theorem Jcw (x y : Nat) (w : World) : Calls Tryz.prog 151 #[.int .u64 (x : Int), .int .u64 (y : Int)] w fun e w' => e = .returned (.int .i64 (Qx x y)) /\ w = w' := by
 unfold Qx
 by_cases h1 : x < y
 ·rw [if_pos h1]
  have h2 : (x : Int) < (y : Int) := by omega
  go_enter Tryz.func151, Tryz.ntmps151
  go_wp2
  go_ret
  exact ⟨rfl, rfl⟩
 rw [if_neg h1]
 have h2 : ¬ (x : Int) < (y : Int) := by omega
 by_cases h3 : y < x
 ·rw [if_pos h3]
  have h4 : (y : Int) < (x : Int) := by omega
  go_enter Tryz.func151, Tryz.ntmps151
  go_wp2
  go_ret
  exact ⟨rfl, rfl⟩
 rw [if_neg h3]
 have h4 : ¬ (y : Int) < (x : Int) := by omega
 go_enter Tryz.func151, Tryz.ntmps151
 go_wp2
 go_ret
 exact ⟨rfl, rfl⟩
theorem Jcd (n : Nat) (w : World) : Calls Tryz.prog 121 #[Jh n] w (Ret (if n < 18446744073709551616 then .tuple #[.int .u64 (n : Int), .bool true] else .tuple #[.int .u64 0, .bool false]) w) := by
 unfold Jh
 by_cases h : n < 18446744073709551616
 ·rw [Qa n h, Ju n h, if_pos h]
  go_enter Tryz.func121, Tryz.ntmps121
  go_wp2
  go_ret2
  exact ⟨rfl, by go_grown⟩
 rw [if_neg h]
 have d1 := Jap (mo n) (by have := Ye n h; have := Vj n; omega)
 have d2 : (mo n).toList.isEmpty = false := by simpa using d1
 go_enter Tryz.func121, Tryz.ntmps121
 go_wp2
 go_ret2
 exact ⟨rfl, by go_grown⟩
