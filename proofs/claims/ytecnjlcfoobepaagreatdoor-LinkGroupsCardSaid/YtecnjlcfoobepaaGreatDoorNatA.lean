import Derived.Test.YtecnjlcfoobepaaGreatDoorProg
import Derived.Test.YtecnjlcfoobepaaGreatDoorShelf
import Derived.Deep.QuietTactic
import Derived.BigQuiet
import Derived.Test.YtecnjlcfoobepaaGreatDoorOctet
import Derived.Deep.DeepMust
import Derived.Deep.RegionWith
import Derived.Shelf.Spec.BitsCarry
namespace Go.Proofs.YtecnjlcfoobepaaGreatDoor
set_option maxRecDepth 100000
set_option maxHeartbeats 1000000
open Go.RowKit
set_option linter.all false
theorem Kc {P : Program} (t : TypeId) (ht : P.underlying t = some .string) (s : ByteArray) (l : List UInt8) (hs : s.data.toList = l) (k : IntKind) (i : Int) (h0 : 0 <= i) (x : UInt8) (hx : l[i.toNat]? = some x) (w : World) :
  (Instr.index t (.string s) (.int k i)).run P w = .ok (.int .u8 (x.toNat : Int)) w := by
 subst hs
 have hi : i.toNat < s.size := by
  have := (List.getElem?_eq_some_iff.1 hx).1
  simpa using this
 have aD : s[i.toNat]'hi = x := by
  have := (List.getElem?_eq_some_iff.1 hx).2
  simp at this
  exact this
 rw [run_index_string w t s k i ht, dif_pos ⟨h0, by omega⟩, aD]
theorem Vo (a b k : Nat) (ha : a < 2 ^ k) (hb : b < 256) (hk : k + 8 <= 64) : bits .or .u64 (a : Int) (IntKind.u64.wrap (IntKind.u64.wrap (b : Int) * ((2 ^ k : Nat) : Int))) = ((a + b * 2 ^ k : Nat) : Int) := by
 have h1 : b * 2 ^ k < 18446744073709551616 := by
  have h2 : b * 2 ^ k < 256 * 2 ^ k := Nat.mul_lt_mul_of_pos_right hb (Nat.two_pow_pos k)
  have h3 : 256 * 2 ^ k = 2 ^ (k + 8) := by rw [Nat.pow_add, Nat.mul_comm]
  have h4 : 2 ^ (k + 8) <= 2 ^ 64 := Nat.pow_le_pow_right (by omega) hk
  omega
 have h5 : a < 18446744073709551616 := by
  have h4 : 2 ^ k <= 2 ^ 64 := Nat.pow_le_pow_right (by omega) (by omega)
  omega
 rw [Ji, Nat.mod_eq_of_lt (by omega), <- Int.natCast_mul, Ji, Nat.mod_eq_of_lt h1, Jan _ _ h5 h1]
 rw [Nat.add_comm a, Nat.mul_comm b, Nat.two_pow_add_eq_or_of_lt ha, Nat.or_comm]
theorem Jsn (b0 b1 b2 b3 b4 b5 b6 b7 : UInt8) :
  bits .or .u64 (bits .or .u64 (bits .or .u64 (bits .or .u64 (bits .or .u64 (bits .or .u64 (bits .or .u64 (IntKind.u64.wrap (b0.toNat : Int)) (IntKind.u64.wrap (IntKind.u64.wrap (b1.toNat : Int) * 256))) (IntKind.u64.wrap (IntKind.u64.wrap (b2.toNat : Int) * 65536)))
   (IntKind.u64.wrap (IntKind.u64.wrap (b3.toNat : Int) * 16777216))) (IntKind.u64.wrap (IntKind.u64.wrap (b4.toNat : Int) * 4294967296))) (IntKind.u64.wrap (IntKind.u64.wrap (b5.toNat : Int) * 1099511627776)))
   (IntKind.u64.wrap (IntKind.u64.wrap (b6.toNat : Int) * 281474976710656))) (IntKind.u64.wrap (IntKind.u64.wrap (b7.toNat : Int) * 72057594037927936)) =
  ((b0.toNat + b1.toNat * 256 + b2.toNat * 65536 + b3.toNat * 16777216 + b4.toNat * 4294967296 + b5.toNat * 1099511627776 + b6.toNat * 281474976710656 + b7.toNat * 72057594037927936 : Nat) : Int) := by
 have h0 := b0.toNat_lt
 have h1 := b1.toNat_lt
 have h2 := b2.toNat_lt
 have h3 := b3.toNat_lt
 have h4 := b4.toNat_lt
 have h5 := b5.toNat_lt
 have h6 := b6.toNat_lt
 have h7 := b7.toNat_lt
 rw [Ji b0.toNat, Nat.mod_eq_of_lt (by omega)]
 have e1 : bits .or .u64 ((b0.toNat : Nat) : Int) (IntKind.u64.wrap (IntKind.u64.wrap (b1.toNat : Int) * 256)) = ((b0.toNat + b1.toNat * 256 : Nat) : Int) := Vo (b0.toNat) b1.toNat 8 (by omega) (by omega) (by omega)
 rw [e1]
 have e2 : bits .or .u64 ((b0.toNat + b1.toNat * 256 : Nat) : Int) (IntKind.u64.wrap (IntKind.u64.wrap (b2.toNat : Int) * 65536)) = ((b0.toNat + b1.toNat * 256 + b2.toNat * 65536 : Nat) : Int) := Vo (b0.toNat + b1.toNat * 256) b2.toNat 16 (by omega) (by omega) (by omega)
 rw [e2]
 have e3 : bits .or .u64 ((b0.toNat + b1.toNat * 256 + b2.toNat * 65536 : Nat) : Int) (IntKind.u64.wrap (IntKind.u64.wrap (b3.toNat : Int) * 16777216)) = ((b0.toNat + b1.toNat * 256 + b2.toNat * 65536 + b3.toNat * 16777216 : Nat) : Int) := Vo (b0.toNat + b1.toNat * 256 + b2.toNat * 65536) b3.toNat 24 (by omega) (by omega) (by omega)
 rw [e3]
 have e4 : bits .or .u64 ((b0.toNat + b1.toNat * 256 + b2.toNat * 65536 + b3.toNat * 16777216 : Nat) : Int) (IntKind.u64.wrap (IntKind.u64.wrap (b4.toNat : Int) * 4294967296)) = ((b0.toNat + b1.toNat * 256 + b2.toNat * 65536 + b3.toNat * 16777216 + b4.toNat * 4294967296 : Nat) : Int) := Vo (b0.toNat + b1.toNat * 256 + b2.toNat * 65536 + b3.toNat * 16777216) b4.toNat 32 (by omega) (by omega) (by omega)
 rw [e4]
 have e5 : bits .or .u64 ((b0.toNat + b1.toNat * 256 + b2.toNat * 65536 + b3.toNat * 16777216 + b4.toNat * 4294967296 : Nat) : Int) (IntKind.u64.wrap (IntKind.u64.wrap (b5.toNat : Int) * 1099511627776)) = ((b0.toNat + b1.toNat * 256 + b2.toNat * 65536 + b3.toNat * 16777216 + b4.toNat * 4294967296 + b5.toNat * 1099511627776 : Nat) : Int) := Vo (b0.toNat + b1.toNat * 256 + b2.toNat * 65536 + b3.toNat * 16777216 + b4.toNat * 4294967296) b5.toNat 40 (by omega) (by omega) (by omega)
 rw [e5]
 have e6 : bits .or .u64 ((b0.toNat + b1.toNat * 256 + b2.toNat * 65536 + b3.toNat * 16777216 + b4.toNat * 4294967296 + b5.toNat * 1099511627776 : Nat) : Int) (IntKind.u64.wrap (IntKind.u64.wrap (b6.toNat : Int) * 281474976710656)) = ((b0.toNat + b1.toNat * 256 + b2.toNat * 65536 + b3.toNat * 16777216 + b4.toNat * 4294967296 + b5.toNat * 1099511627776 + b6.toNat * 281474976710656 : Nat) : Int) := Vo (b0.toNat + b1.toNat * 256 + b2.toNat * 65536 + b3.toNat * 16777216 + b4.toNat * 4294967296 + b5.toNat * 1099511627776) b6.toNat 48 (by omega) (by omega) (by omega)
 rw [e6]
 have e7 : bits .or .u64 ((b0.toNat + b1.toNat * 256 + b2.toNat * 65536 + b3.toNat * 16777216 + b4.toNat * 4294967296 + b5.toNat * 1099511627776 + b6.toNat * 281474976710656 : Nat) : Int) (IntKind.u64.wrap (IntKind.u64.wrap (b7.toNat : Int) * 72057594037927936)) = ((b0.toNat + b1.toNat * 256 + b2.toNat * 65536 + b3.toNat * 16777216 + b4.toNat * 4294967296 + b5.toNat * 1099511627776 + b6.toNat * 281474976710656 + b7.toNat * 72057594037927936 : Nat) : Int) := Vo (b0.toNat + b1.toNat * 256 + b2.toNat * 65536 + b3.toNat * 16777216 + b4.toNat * 4294967296 + b5.toNat * 1099511627776 + b6.toNat * 281474976710656) b7.toNat 56 (by omega) (by omega) (by omega)
 rw [e7]
theorem Jo9 (s : ByteArray) (b0 b1 b2 b3 b4 b5 b6 b7 : UInt8) (r : List UInt8) (hs : s.data.toList = b0 :: b1 :: b2 :: b3 :: b4 :: b5 :: b6 :: b7 :: r) (w : World) :
  Calls Tryz.prog 134 #[.string s] w fun e w' => e = .returned (.int .u64 ((b0.toNat + b1.toNat * 256 + b2.toNat * 65536 + b3.toNat * 16777216 + b4.toNat * 4294967296 + b5.toNat * 1099511627776 + b6.toNat * 281474976710656 + b7.toNat * 72057594037927936 : Nat) : Int)) /\ ∃ k, w' = w.drewN k := by
 have i0 := Kc (P := Tryz.prog) 9 Tryz.underlying9 s _ hs .i64 0 (by omega) b0 rfl
 have i1 := Kc (P := Tryz.prog) 9 Tryz.underlying9 s _ hs .i64 1 (by omega) b1 rfl
 have i2 := Kc (P := Tryz.prog) 9 Tryz.underlying9 s _ hs .i64 2 (by omega) b2 rfl
 have i3 := Kc (P := Tryz.prog) 9 Tryz.underlying9 s _ hs .i64 3 (by omega) b3 rfl
 have i4 := Kc (P := Tryz.prog) 9 Tryz.underlying9 s _ hs .i64 4 (by omega) b4 rfl
 have i5 := Kc (P := Tryz.prog) 9 Tryz.underlying9 s _ hs .i64 5 (by omega) b5 rfl
 have i6 := Kc (P := Tryz.prog) 9 Tryz.underlying9 s _ hs .i64 6 (by omega) b6 rfl
 have i7 := Kc (P := Tryz.prog) 9 Tryz.underlying9 s _ hs .i64 7 (by omega) b7 rfl
 clear hs
 go_enter Tryz.func134, Tryz.ntmps134
 go_wp2
 go_quiet (fail)
 go_wp2
 go_ret
 exact ⟨Uh (Jsn b0 b1 b2 b3 b4 b5 b6 b7), _, rfl⟩
theorem Jrc (x : Nat) (hx : x < 18446744073709551616) :
  (UInt8.ofNat x).toNat + (UInt8.ofNat (x / 256)).toNat * 256 + (UInt8.ofNat (x / 65536)).toNat * 65536 + (UInt8.ofNat (x / 16777216)).toNat * 16777216 + (UInt8.ofNat (x / 4294967296)).toNat * 4294967296 + (UInt8.ofNat (x / 1099511627776)).toNat * 1099511627776 + (UInt8.ofNat (x / 281474976710656)).toNat * 281474976710656 + (UInt8.ofNat (x / 72057594037927936)).toNat * 72057594037927936 = x := by
 simp only [UInt8.toNat_ofNat']
 omega
theorem Ui (s : ByteArray) (x : Nat) (r : List UInt8) (hx : x < 18446744073709551616) (hs : s.data.toList = leB x ++ r) (w : World) :
  Calls Tryz.prog 134 #[.string s] w fun e w' => e = .returned (.int .u64 (x : Int)) /\ ∃ k, w' = w.drewN k := by
 have := Jo9 s _ _ _ _ _ _ _ _ r hs w
 rw [Jrc x hx] at this
 exact this
theorem Ja5 (s : ByteArray) (h : 0 < s.size) : ¬ s.toList = [] := by
 rw [Lib.toList_data]
 intro h1
 have := Lib.size_eq s
 rw [h1, List.length_nil] at this
 omega
theorem Ug {P : Program} (t : TypeId) (ht : P.underlying t = some .string) (s : ByteArray) (k : IntKind) (l : Int) (h0 : 0 <= l) (h1 : l <= s.size) (w : World) :
  (Instr.slice t (.string s) (some (.int k l)) none none).run P w = .ok (.string (s.extract l.toNat s.size)) w := by
 simp [Instr.slice, run_underlying ht, Instr.sliceBounds, Instr.sliceBound, asIntOf, h0, h1, Result.andThen]
theorem Jhj (n : Nat) (w : World) (hn : n < 18446744073709551616) : Calls Tryz.prog 103 #[.int .u64 (n : Int)] w (Ret (Jj n) w) := by
 have e : Jj n = .agg #[.int .u64 (n : Int), .string ⟨#[]⟩] := by unfold Jj; rw [Jx n hn, Qc n hn]
 rw [e]
 go_enter Tryz.func103, Tryz.ntmps103
 go_wp2
 go_returns
 exact ⟨rfl, (Below.refl _ _).alloc zd _⟩
theorem Qx (n : Nat) (w : World) (hn : Je n <= 4611686018427387904) : Calls Tryz.prog 101 #[Jj n] w (Ret (.int .i64 ((Je n : Nat) : Int)) w) := by
 unfold Jj
 by_cases h : n < 18446744073709551616
 ·rw [Qc n h, Jx n h]
  have e := lh (Vi n h)
  go_enter Tryz.func101, Tryz.ntmps101
  go_wp2_with fail
  refine (Tryz.bits_Len64 (n : Int) _ (by omega) (by omega)).mono ?_
  rintro e' w1 ⟨rfl, rfl⟩
  go_wp2
  go_ret
  exact ⟨Uh (by rw [e.out]), (Below.refl _ _).alloc zd _⟩
 have y9 := Vp n
 have aV := Ya n h
 have bS := Ua n (by omega)
 obtain ⟨_, bT, aW⟩ := Xw n (by omega)
 have aX := Jp7 n h
 generalize hs : mo n = s at y9 aX
 have dG : 8 <= s.size := by omega
 have dH : (s.size : Int) * 8 <= 4611686018427387904 := by omega
 have HA := lh (And.intro y9 (And.intro bS (And.intro bT aX)))
 have aY : ((s.size : Int) - 8).toNat = s.size - 8 := by omega
 clear y9 bS bT aX hs aV hn
 have aZ := Ja5 s (by omega)
 have cI : s.toList.isEmpty = false := by simpa using aZ
 have cJ : ∀ w, (Instr.slice 9 (.string s) (some (.int .i64 ((s.size : Int) - 8))) none none).run Tryz.prog w = .ok (.string (s.extract (s.size - 8) s.size)) w := fun w => by
  have := Ug (P := Tryz.prog) 9 Tryz.underlying9 s .i64 ((s.size : Int) - 8) (by omega) (by omega) w
  rw [this, aY]
 have aF : (s.extract (s.size - 8) s.size).data.toList = leB (top n) ++ [] := by
  rw [Lib.extract_data, HA.out.2.2.2, List.take_of_length_le (by rw [Jch]; omega), List.append_nil]
 have cK : IntKind.i64.wrap (8 * (s.size : Int)) = 8 * (s.size : Int) := IntWalk.i64_in _ (by omega)
 have cL : IntKind.i64.wrap ((s.size : Int) - 8) = (s.size : Int) - 8 := IntWalk.i64_in _ (by omega)
 have HEX := lh aF
 clear aF
 generalize s.extract (s.size - 8) s.size = sx at *
 go_enter Tryz.func101, Tryz.ntmps101
 go_wp2_with fail
 go_quiet (first | (go_at_call 134; refine Calls.quiet_of (Ui sx (top n) [] aW HEX.out _)) | (go_at_call 133; refine Calls.quiet_of_same (Tryz.bits_Len64 _ _ (by omega) (by omega))))
 have cM : Lib.bitLen (top n) <= 64 := Lib.bitLen_le _ 64 (by omega) aW
 go_wp2
 go_ret
 obtain ⟨h1, h2, h3, h4⟩ := HA.out
 have h5 := Vi (top n) aW
 exact ⟨Uh (by rw [IntWalk.wrap64_in _ (by omega), h2, <- h5]; omega), Jz ((Below.refl _ _).alloc zd _) _⟩
def New {α : Type} (w w' : World) (e : TypeId) (f : α -> Value) (v : Value) (l : List α) : Prop := Own w' e f v l /\ Below w.heap.size w w' /\ ∀ k, v.ownBlock = some k -> w.heap.size <= k
def Jm (x : Nat) : Value := .int .u64 (x : Int)
theorem Tryz.infoU64 : (Tryz.prog.info? 50).map (fun i => (i.zero, i.size, i.bytes)) = some (some (Jm 0), 1, 8) := by kernel_rfl
theorem Jg0 (n i : Nat) (x : Nat) (hi : 1 <= i) (hx : (Jg n)[i]? = some x) : ∃ r, (mo n).data.toList.drop (8 * (i - 1)) = leB x ++ r := by
 have e : (mo n).data.toList = (Jg n).tail.flatMap leB := rfl
 rw [e, Jgj, List.drop_tail, show i - 1 + 1 = i from by omega]
 have hk : i < (Jg n).length := (List.getElem?_eq_some_iff.1 hx).1
 have aD : (Jg n)[i] = x := (List.getElem?_eq_some_iff.1 hx).2
 rw [List.drop_eq_getElem_cons hk, aD, List.flatMap_cons]
 exact ⟨_, rfl⟩
theorem Jp9 (l : List Nat) (i x : Nat) (hx : l[i]? = some x) : (l.take i ++ List.replicate (l.length - i) 0).set i x = l.take (i + 1) ++ List.replicate (l.length - (i + 1)) 0 := by
 have hk : i < l.length := (List.getElem?_eq_some_iff.1 hx).1
 obtain ⟨m, hm⟩ : ∃ m, l.length = i + 1 + m := ⟨l.length - (i + 1), by omega⟩
 rw [hm, show i + 1 + m - i = m + 1 from by omega, show i + 1 + m - (i + 1) = m from by omega, List.replicate_succ, List.set_append_right _ _ (by rw [List.length_take]; omega)]
 rw [List.length_take, show i - min i l.length = 0 from by omega, List.set_cons_zero, List.take_add_one, hx]
 simp
theorem Jov (L x : Nat) (hL : 0 < L) : (Array.replicate L (Jm 0)).setIfInBounds 0 (Jm x) = (([x] ++ List.replicate (L - 1) 0).map Jm).toArray := by
 obtain ⟨m, rfl⟩ : ∃ m, L = m + 1 := ⟨L - 1, by omega⟩
 rw [<- List.toArray_replicate, List.setIfInBounds_toArray, List.replicate_succ, List.set_cons_zero]
 simp
def Jqk (w : World) (n : Nat) (i : Nat) (wr : World) : Prop :=
 Row wr (w.heap.size + 1) 50 Jm ((Jg n).take i ++ List.replicate ((Jg n).length - i) 0) /\ Below (w.heap.size + 1) (w.alloc (.cells #[.int .u64 (lo n : Int), .string (mo n)] 52)) wr
theorem Xx (n : Nat) (w : World) (hn : Je n <= 4611686018427387904) (hw : (Jg n).length <= 17592186044416) : Calls Tryz.prog 122 #[Jj n] w fun e w' => ∃ v, e = .returned v /\ New w w' 50 Jm v (Jg n) := by
 unfold Jj
 by_cases h0 : n = 0
 ·subst h0
  rw [Qc 0 (by omega), Jx 0 (by omega)]
  go_enter Tryz.func122, Tryz.ntmps122
  go_wp2
  go_ret
  exact ⟨_, rfl, Own.nil_ _ _ _, (Below.refl _ _).alloc zd _, fun k hk => by simp [Value.ownBlock] at hk⟩
 by_cases hb : n < 18446744073709551616
 ·have bU := Jh9 n hb h0
  rw [Qc n hb, Jx n hb, bU]
  have hz : ((n : Int) == 0) = false := by simp; omega
  have aS := Ql (P := Tryz.prog) Jm 0 170 50 8 Tryz.underlying170 Tryz.infoU64 rfl .i64 .i64 1 (by omega) (by omega)
  have cN : ∀ w, (Instr.makeSlice 170 (.int .i64 1) (.int .i64 1)).run Tryz.prog w = .ok (.slice (some ⟨w.heap.size, 0, none⟩) 1 1) (w.alloc (.cells #[.int .u64 0] 50)) := aS
  clear aS bU hw hn
  go_enter Tryz.func122, Tryz.ntmps122
  go_wp2_with fail
  go_rounds 1
  go_ret
  have ho := Own.lit (w.alloc (.cells #[.int .u64 (n : Int), .string ⟨#[]⟩] 52)) 50 Jm [n] (by unfold maxLen; simp)
  refine ⟨_, rfl, by simpa [Jm] using ho, ((Below.refl _ _).alloc zd _).alloc (by simp) _, fun k hk => ?_⟩
  simp [Value.ownBlock] at hk
  omega
 have y9 := Vp n
 have aG : 1 <= (Jg n).length := by rw [Qi n h0]; simp
 obtain ⟨L, hL⟩ : ∃ L, (Jg n).length = L := ⟨_, rfl⟩
 have aS := Ql (P := Tryz.prog) Jm 0 170 50 8 Tryz.underlying170 Tryz.infoU64 rfl .i64 .i64 L (by omega) (by omega)
 have cO : (1 : Int) + ((mo n).size : Int) / 8 = (L : Int) := by rw [y9]; omega
 have d1 := Ja5 (mo n) (by have := Ya n hb; omega)
 have d2 : (mo n).toList.isEmpty = false := by simpa using d1
 have HH := lh (And.intro y9 hL)
 have dI : L <= 17592186044416 := by omega
 have aY : ((mo n).size : Int) <= 140737488355328 := by omega
 have dJ : 1 <= L := by omega
 have bV : 0 < L := by omega
 have dK : (0 : Int) < (L : Int) := by omega
 have bA : (Array.replicate L (Jm 0))[0]? = some (.int .u64 0) := by rw [Array.getElem?_replicate, if_pos bV]; rfl
 clear y9 hL hw hn aG
 go_enter Tryz.func122, Tryz.ntmps122
 go_wp2_with fail
 clear aS bA
 go_loopw [4] (fun x wr => ∃ i : Nat, 1 <= i /\ i <= L /\ x = .int .i64 i /\ Jqk w n i wr) (fun x _ => L - (intOf x).toNat)
 case atStart =>
  refine ⟨1, by omega, by omega, rfl, ?_, ?_⟩
  ·have hr := Row.new (w.alloc (.cells #[.int .u64 (lo n : Int), .string (mo n)] 52)) 50 Jm ([lo n] ++ List.replicate (L - 1) 0)
   rw [<- Jov L (lo n) bV] at hr
   have e1 : (Jg n).take 1 = [lo n] := by rw [Jbr n h0]; rfl
   rw [HH.out.2, e1]
   rw [World.size_alloc] at hr
   exact hr
  exact (Below.refl _ _).alloc (by simp) _
 case round =>
  obtain ⟨i, cP, dL, rfl, o0, j7⟩ := hrel
  by_cases aH : i < L
  ·obtain ⟨x, hx⟩ : ∃ x, (Jg n)[i]? = some x := ⟨_, List.getElem?_eq_getElem (by rw [HH.out.2]; exact aH)⟩
   obtain ⟨r, hr⟩ := Jg0 n i x cP hx
   have cQ := Kr n x (List.mem_of_getElem? hx)
   have j6 := o0.cell (k := i) (x := 0) (by rw [List.getElem?_append_right (by rw [List.length_take]; omega), List.getElem?_replicate]; simp; have := HH.out.2; omega)
   have dM := o0.frozen i
   have cR : wr.cell? ⟨w.heap.size, 1, none⟩ = some (.string (mo n)) := by
    rw [j7.cell (p := ⟨w.heap.size, 1, none⟩) (by simp)]
    exact (Blk.new w _ _).cell 1
   have dN := o0.set_ i x
   have bB := Jp9 (Jg n) i x hx
   rw [HH.out.2] at bB
   have dO := j7.setCell (p := ⟨w.heap.size + 1, i, none⟩) zd (Jm x)
   have HR := lh (And.intro hr (And.intro bB hx))
   unfold Jm at j6
   have cJ : ∀ w, (Instr.slice 9 (.string (mo n)) (some (.int .i64 (8 * ((i : Int) - 1)))) none none).run Tryz.prog w = .ok (.string ((mo n).extract (8 * (i - 1)) (mo n).size)) w := fun w => by
    have hq := HH.out
    have := Ug (P := Tryz.prog) 9 Tryz.underlying9 (mo n) .i64 (8 * ((i : Int) - 1)) (by omega) (by omega) w
    rw [this, show (8 * ((i : Int) - 1)).toNat = 8 * (i - 1) from by omega]
   have aF : ((mo n).extract (8 * (i - 1)) (mo n).size).data.toList = leB x ++ r := by
    have hq := HH.out
    rw [Lib.extract_data, hr, List.take_of_length_le]
    have h5 := congrArg List.length hr
    rw [List.length_drop, <- Lib.size_eq] at h5
    omega
   have HEX := lh aF
   clear aF hr bB hx
   generalize (mo n).extract (8 * (i - 1)) (mo n).size = sx at *
   go_wp2_with fail
   refine (Ui sx x r cQ HEX.out _).mono ?_
   rintro e w1 ⟨rfl, k, rfl⟩
   go_wp2
   refine ⟨⟨i + 1, by omega, by omega, by go_num, ?_, ?_⟩, by simp [intOf]; omega⟩
   ·have h6 := (o0.drewN k).set_ i x
    rw [HH.out.2, HR.out.2.1] at h6
    rw [HH.out.2]
    exact h6
   exact (Jz j7 k).setCell zd _
  obtain rfl : i = L := by omega
  go_wp2
  go_ret
  have hq := HH.out.2
  rw [hq, List.take_of_length_le (by omega), Nat.sub_self, List.replicate_zero, List.append_nil] at o0
  have ho := Own.ofBlk o0 (by unfold maxLen; omega)
  rw [hq] at ho
  exact ⟨_, rfl, ho, ((Below.refl _ _).alloc zd _).trans (j7.mono (by omega)), fun k hk => by simp [Value.ownBlock] at hk; omega⟩
def lenOf : Value -> Nat
 | .slice _ n _ => n
 | _ => 0
theorem Jah {l : List Nat} {k : Nat} (h : l[k]? = some 0) : trimL (l.take (k + 1)) = trimL (l.take k) := by
 rw [List.take_add_one, h, Option.toList_some, Jih]
theorem Jag {l : List Nat} {k x : Nat} (h : l[k]? = some x) (hx : x ≠ 0) : trimL (l.take (k + 1)) = l.take (k + 1) := by
 rw [List.take_add_one, h, Option.toList_some, Jke _ _ hx]
theorem Ji4 (A : Option Addr) (n c B : Nat) (l : List Nat) (w : World) (h : Reads w B 1 A n (l.map Jm)) (hn : n <= 9223372036854775807) (hc : n <= c) :
  Calls Tryz.prog 151 #[.slice A n c] w fun e w' => e = .returned (.slice A (trimL l).length c) /\ w = w' := by
 have hl := h.lenf
 have HL := lh hl
 clear hl
 go_enter Tryz.func151, Tryz.ntmps151
 go_wp2
 go_loop [0] (fun v => ∃ k : Nat, k <= n /\ v = .slice A k c /\ Hid (trimL (l.take k) = trimL l)) (fun v => lenOf v)
 case atStart => exact ⟨n, Nat.le_refl _, rfl, by show _ = _; rw [List.take_of_length_le (by rw [HL.out]; omega)]⟩
 case round =>
  obtain ⟨k, hk, rfl, HK⟩ := hrel
  by_cases h0 : k = 0
  ·subst h0
   go_wp2
   go_ret
   have := HK.out
   rw [<- this]
   exact ⟨rfl, rfl⟩
  obtain ⟨j, rfl⟩ : ∃ j, k = j + 1 := ⟨k - 1, by omega⟩
  obtain ⟨ad, x, hA, hb, hx, j6⟩ := h.atf (show j < n by omega)
  subst hA
  unfold Jm at j6
  have k1 : (((j + 1 : Nat) : Int) - 1) = (j : Int) := by omega
  have k2 : (j : Int) < ((j + 1 : Nat) : Int) := by omega
  have k3 : (0 : Int) < ((j + 1 : Nat) : Int) := by omega
  have k4 : (j : Int) <= (c : Int) := by omega
  have HX := lh hx
  clear hx
  by_cases bW : x = 0
  ·subst bW
   go_wp2
   refine ⟨⟨j, by omega, rfl, ?_⟩, by simp [lenOf]⟩
   show _ = _
   rw [<- Jah HX.out]
   exact HK.out
  have dP : ((x : Int) == 0) = false := by simp; omega
  go_wp2
  go_ret
  refine ⟨?_, rfl⟩
  have h1 := HK.out
  rw [Jag HX.out bW] at h1
  rw [<- h1, List.length_take, HL.out, Nat.min_eq_left hk]
  rfl
theorem Jcn (B b : Nat) (l : List UInt8) (x : UInt8) (w : World) (h : Lib.BuilderAt 197 5 B b (.pointer (some ⟨b, 0, none⟩)) (Lib.byteCells l) w) (hl : l.length < 140737488355328) (hB : B <= w.heap.size) :
  Calls Tryz.prog 153 #[.pointer (some ⟨b, 0, none⟩), .int .u8 (x.toNat : Int)] w fun e w' => (∃ v, e = .returned v) /\ Lib.BuilderAt 197 5 B b (.pointer (some ⟨b, 0, none⟩)) (Lib.byteCells (l ++ [x])) w' /\ Below B w w' := by
 obtain ⟨bX, v, j8, x8, bY⟩ := h
 have q0 : w.cell? ⟨b, 0, none⟩ = some (.pointer (some ⟨b, 0, none⟩)) := by simp [World.cell?, j8]
 have q1 : w.cell? ⟨b, 1, none⟩ = some v := by simp [World.cell?, j8]
 have f1 : w.frozen? ⟨b, 1, none⟩ = false := by simp [World.frozen?, j8]
 obtain ⟨i0, cS, bZ, cT, cU⟩ := info_parts Tryz.infoU8
 rw [Lib.byteCells_length] at x8
 have cA : ∀ w : World, (binOp .neq 195 (.pointer (some ⟨b, 0, none⟩)) (.pointer (some ⟨b, 0, none⟩))).run Tryz.prog w = .ok (.bool false) w := fun w => by
  obtain ⟨j, hj⟩ : ∃ j, Tryz.prog.info? 197 = some j := Option.isSome_iff_exists.1 (by kernel_rfl)
  exact Lib.run_neq_ptr_same w _ Tryz.underlying195 hj
 go_enter Tryz.func153, Tryz.ntmps153
 go_wp2_with (first | (at_builtin; go_must (refine Zf _ rfl (.tmp 11) (.tmp 13) 157 rfl B 5 i0 (u8v 0) 1 1 Tryz.underlying157 cS bZ cT cU rfl (by omega) v l.length (Lib.byteCells l) rfl (x8.alloc _) (w.heap.size + 1) (some ⟨w.heap.size, 0, none⟩) 1 1 [.int .u8 (x.toNat : Int)] rfl (Reads.one _ _ _) ?c1 ?c2 ?c3 ?c4 ?_)) | go_in)
 case c1 => intro u hu; simp at hu; subst hu; rfl
 case c2 => unfold maxLen; omega
 case c3 => omega
 case c4 => simp; omega
 intro v' w1 t7 aA cB
 have aH : b < w.heap.size := by
  rcases Nat.lt_or_ge b w.heap.size with h1 | h1
  ·exact h1
  rw [Array.getElem?_eq_none h1] at j8; cases j8
 have j9 : w1.heap[b]? = some (.cells #[.pointer (some ⟨b, 0, none⟩), v] 197 (0, 0)) := by
  rw [aA.block b (by simp; omega) (fun e => bY e.symm), Below.heap_alloc _ _ _ aH]
  exact j8
 have q1' : w1.cell? ⟨b, 1, none⟩ = some v := by simp [World.cell?, j9]
 have f1' : w1.frozen? ⟨b, 1, none⟩ = false := by simp [World.frozen?, j9]
 have aI : v'.ownBlock ≠ some b := by
  rcases cB with h1 | h1
  ·rw [h1]; exact bY
  rw [h1]
  simp
  omega
 have cV : ∀ k, v.ownBlock = some k -> B <= k := fun k hk => (World.ownsRow.lt x8 k hk).1
 have j7 : Below B w w1 := ((Below.refl _ _).alloc (by omega) _).trans ⟨aA.os, aA.tape, aA.output, aA.size, fun k hk => aA.block k (by simp; omega) (fun e => by have := cV k e.symm; omega)⟩
 have aJ : Lib.BuilderAt 197 5 B b (.pointer (some ⟨b, 0, none⟩)) (Lib.byteCells (l ++ [x])) (w1.setCell ⟨b, 1, none⟩ v') := by
  refine ⟨bX, v', ?_, ?_, aI⟩
  ·simp [World.setCell, Array.getElem?_modify, j9]
  have h5 : Lib.byteCells (l ++ [x]) = Lib.byteCells l ++ [.int .u8 (x.toNat : Int)] := by simp [Lib.byteCells]
  rw [h5, List.length_append, Lib.byteCells_length]
  exact t7.kept (row := some b) ⟨rfl, rfl, rfl, by simp [World.setCell], fun k _ hk => Below.heap_setCell _ _ _ _ (fun e => hk (by simp [e]))⟩ (Or.inr aI)
 have HF := lh (And.intro aJ (j7.setCell (p := ⟨b, 1, none⟩) bX v'))
 obtain ⟨A', n', c', cC⟩ : ∃ A' n' c', v' = .slice A' n' c' := by
  rcases t7.2 with ⟨h1, _⟩ | ⟨g, cap, cur, h1, _⟩
  ·exact ⟨_, _, _, h1⟩
  exact ⟨_, _, _, h1⟩
 rw [cC] at HF ⊢
 clear j8 x8 t7 aJ j7 aA cB cC q0 q1 j9
 go_wp2
 go_ret
 exact ⟨⟨_, rfl⟩, HF.out.1, HF.out.2⟩
theorem Joh (l : List Nat) : val l = dv 18446744073709551616 l := by
 induction l with
 | nil => rfl
 | cons x r ih => simp only [val, dv, ih]
theorem Jb7 (l : List Nat) (h : Dig 18446744073709551616 l) : Jg (dv 18446744073709551616 l) = trimL l := by
 rw [<- Jd4, <- Joh]
 exact Jms _ (fun x hx => h.trimL x hx) (Jd3 l)
theorem Jrd (x k : Nat) (h : k < 8) : (leB x)[k]? = some (Zm x k) := by
 have e : k = 0 \/ k = 1 \/ k = 2 \/ k = 3 \/ k = 4 \/ k = 5 \/ k = 6 \/ k = 7 := by omega
 have u : ∀ n : Nat, UInt8.ofNat (n % 256) = UInt8.ofNat n := fun n => by
  apply UInt8.toNat_inj.1
  rw [UInt8.toNat_ofNat', UInt8.toNat_ofNat']
  omega
 rcases e with rfl | rfl | rfl | rfl | rfl | rfl | rfl | rfl <;> simp [leB, Zm, u]
theorem Jpm (n x : Nat) (r : List Nat) (h : Jg n = x :: r) : lo n = x := by
 have h0 : n ≠ 0 := by
  intro h0
  subst h0
  rw [Qp] at h
  cases h
 rw [Qi n h0] at h
 injection h
theorem Jc0 : Jj 0 = .agg #[.int .u64 0, .string ⟨#[]⟩] := by unfold Jj; rw [Jx 0 (by omega), Qc 0 (by omega)]; rfl
def Jr6 (w : World) (b : Nat) (l : List UInt8) (wr : World) : Prop :=
 Lib.BuilderAt 197 5 b b (.pointer (some ⟨b, 0, none⟩)) (Lib.byteCells l) wr /\ Below b w wr
theorem Qk (A : Option Addr) (n c B : Nat) (l : List Nat) (w : World) (h : Reads w B 1 A n (l.map Jm)) (hB : B <= w.heap.size) (hd : Dig 18446744073709551616 l) (hn : n <= 17592186044416) (hc : n <= c) :
  Calls Tryz.prog 120 #[.slice A n c] w (Ret (Jj (dv 18446744073709551616 l)) w) := by
 have hw := Jb7 l hd
 have bC := hd.trimL
 obtain ⟨N, hN⟩ : ∃ N, dv 18446744073709551616 l = N := ⟨_, rfl⟩
 rw [hN] at hw ⊢
 have bD := h.lenf
 have cD := Uw l
 have aB := h.front (k := (trimL l).length) (by omega)
 rw [Nat.mul_one, <- List.map_take, <- Zu] at aB
 have bE := Ji4 A n c B l (w.alloc (.cells #[.int .u64 0, .string ⟨#[]⟩] 52)) (Reads.alloc h hB _) (by omega) hc
 generalize trimL l = t at *
 have HW := lh hw
 clear hN hw hd
 obtain ⟨m, hm⟩ : ∃ m, t.length = m := ⟨_, rfl⟩
 rw [hm] at aB cD bE
 have dQ : m <= n := by omega
 have HM := lh hm
 have HTR := lh bE
 clear hm bD bE cD h
 have aT := Blk.new w 52 #[.int .u64 0, .string ⟨#[]⟩]
 have q0 := aT.cell 0
 have q1 := aT.cell 1
 simp at q0 q1
 by_cases h0 : m = 0
 ·subst h0
  obtain rfl : t = [] := List.eq_nil_of_length_eq_zero HM.out
  have bF : N = 0 := by rw [<- Ja4 N, HW.out]; rfl
  subst bF
  have e : Jj 0 = .agg #[.int .u64 0, .string ⟨#[]⟩] := by unfold Jj; rw [Jx 0 (by omega), Qc 0 (by omega)]; rfl
  rw [e]
  go_enter Tryz.func120, Tryz.ntmps120
  go_wp2_with fail
  refine HTR.out.mono ?_
  rintro e w1 ⟨rfl, rfl⟩
  go_wp2
  go_returns
  exact ⟨rfl, by go_grown⟩
 by_cases h1 : m = 1
 ·subst h1
  obtain ⟨x, rfl⟩ : ∃ x, t = [x] := List.length_eq_one_iff.1 HM.out
  have hx : x < 18446744073709551616 := bC x (by simp)
  have bF : N = x := by rw [<- Ja4 N, HW.out]; simp [val]
  subst bF
  have e : Jj N = .agg #[.int .u64 (N : Int), .string ⟨#[]⟩] := by unfold Jj; rw [Jx N hx, Qc N hx]
  rw [e]
  obtain ⟨ad, x', hA, hb, aK, j6⟩ := aB.atf (k := 0) (by omega)
  simp at aK
  subst aK
  subst hA
  have bG : (w.alloc (.cells #[.int .u64 0, .string ⟨#[]⟩] 52)).cell? ad = some (.int .u64 (N : Int)) := (World.cell?_alloc_lt w _ ad (by omega)).trans j6
  go_enter Tryz.func120, Tryz.ntmps120
  go_wp2_with fail
  refine HTR.out.mono ?_
  rintro e w1 ⟨rfl, rfl⟩
  go_wp2
  go_returns
  exact ⟨rfl, by go_grown⟩
 obtain ⟨x0, t', rfl⟩ : ∃ x0 t', t = x0 :: t' := by
  cases t with
  | nil => exact absurd HM.out.symm h0
  | cons a b => exact ⟨a, b, rfl⟩
 have aL : t'.length = m - 1 := by have := HM.out; simp at this; omega
 have e : Jj N = .agg #[.int .u64 (x0 : Int), .string ⟨(t'.flatMap leB).toArray⟩] := by
  unfold Jj
  rw [Jpm N x0 t' HW.out]
  unfold mo more
  rw [HW.out]
  rfl
 rw [e]
 obtain ⟨ad, x', hA, hb, aK, j6⟩ := aB.atf (k := 0) (by omega)
 simp at aK
 subst aK
 subst hA
 have aU := Reads.part aB c 1 (m - 1) (by omega) (by omega)
 simp only [Nat.mul_one, List.map_cons, List.drop_succ_cons, List.drop_zero] at aU
 rw [List.take_of_length_le (by simp; omega)] at aU
 have aY : ∀ w, (Instr.slice 170 (.slice (some ad) m c) (some (.int .i64 1)) none none).run Tryz.prog w = .ok (.slice (Us (some ad) c 1 1) (m - 1) (c - 1)) w :=
  fun w => Jdv Tryz.underlying170 Tryz.infoU64 (some ad) m c .i64 1 (by omega) (by omega) w
 have dR : ((m : Int) == 0) = false := by simp; omega
 have dS : ((m : Int) == 1) = false := by simp; omega
 have k1 : (8 : Int) * ((m : Int) - 1) = ((8 * (m - 1) : Nat) : Int) := by omega
 have bZ : 0 < m := by omega
 have hf := Je0 t'
 have HF := lh hf
 have HLT := lh aL
 clear hf aL
 have cE : x0 < 18446744073709551616 := bC x0 (by simp)
 go_enter Tryz.func120, Tryz.ntmps120
 go_wp2_with fail
 refine HTR.out.mono ?_
 rintro e w1 ⟨rfl, rfl⟩
 go_wp2_with fail
 have bH := heap_alloc_new (w.alloc (.cells #[.int .u64 0, .string ⟨#[]⟩] 52)) (.cells #[.pointer none, .slice none 0 0] 197)
 rw [World.size_alloc] at bH
 have hg := Tryz.Builder_Grow_fresh (w.heap.size + 1) (w.heap.size + 1) (8 * (m - 1)) ((w.alloc (.cells #[.int .u64 0, .string ⟨#[]⟩] 52)).alloc (.cells #[.pointer none, .slice none 0 0] 197)) zd bH (by simp) (by omega)
 rw [show ((8 * (m - 1) : Nat) : Int) = 8 * ((m - 1 : Nat) : Int) from by omega] at hg
 refine hg.mono ?_
 rintro e w2 ⟨rfl, bI, j7⟩
 have t8 : Below w.heap.size w w2 := (((Below.refl _ _).alloc zd _).alloc (by simp) _).trans (j7.mono (by omega))
 have aM : Below (w.heap.size + 1) (w.alloc (.cells #[.int .u64 0, .string ⟨#[]⟩] 52)) w2 := ((Below.refl _ _).alloc (by simp) _).trans j7
 have bJ : Blk w2 w.heap.size 52 #[.int .u64 0, .string ⟨#[]⟩] := aT.below aM (by omega)
 generalize dT : w.heap.size + 1 = b at *
 have cZ : Reads w2 w.heap.size 1 (some ad) m ((x0 :: t').map Jm) := (aB.more hB).below t8
 have dA : Reads w2 w.heap.size 1 (Us (some ad) c 1 1) (m - 1) (t'.map Jm) := (aU.more hB).below t8
 clear hg bH j7 aT q0 q1 j6 aB aU k1 HTR
 go_wp2_with fail
 go_loopw [5, 6, 28] (fun x5 x6 i wr => ∃ k : Nat, k <= m - 1 /\ i = .int .i64 k /\ Jr6 w2 b ((t'.take k).flatMap leB) wr) (fun _ _ i _ => m - 1 - (intOf i).toNat)
 case atStart => exact ⟨0, Nat.zero_le _, rfl, bI, Below.refl _ _⟩
 case round =>
  obtain ⟨k, hk, rfl, o5, aE⟩ := hrel
  by_cases aH : k < m - 1
  ·have bK := dA.below (aE.mono (show w.heap.size <= b by omega))
   obtain ⟨ad2, x, aN, dU, hx, dB⟩ := bK.atf aH
   have dC : x < 18446744073709551616 := bC x (by simp; exact .inr (List.mem_of_getElem? hx))
   have dV : (k : Int) < ((m - 1 : Nat) : Int) := by omega
   have HX := lh hx
   unfold Jm at dB
   rw [aN]
   clear hx bI
   go_wp2_with fail
   obtain ⟨wo, cF⟩ : ∃ wo : World, wo = wr := ⟨_, rfl⟩
   rw [<- cF] at aE o5 ⊢
   clear cF
   go_loopw [6, 32] (fun x6 j wr => ∃ p : Nat, p <= 8 /\ j = .int .i64 p /\ Jr6 w2 b ((t'.take k).flatMap leB ++ (leB x).take p) wr) (fun _ j _ => 8 - (intOf j).toNat)
   case atStart => exact ⟨0, by omega, rfl, by simpa using o5, aE⟩
   case round =>
    obtain ⟨p, hp, rfl, x9, cG⟩ := hrel
    by_cases dD : p < 8
    ·have aO := Jrd x p dD
     have e1 := Jgs x p
     have bL : ((t'.take k).flatMap leB ++ (leB x).take p).length < 140737488355328 := by
      have h5 := Je0 (t'.take k)
      have h6 : (t'.take k).length <= k := by rw [List.length_take]; omega
      have h7 : ((leB x).take p).length <= 8 := by rw [List.length_take, Jch]; omega
      rw [List.length_append, h5]
      omega
     have cH : (t'.take k).flatMap leB ++ (leB x).take p ++ [Zm x p] = (t'.take k).flatMap leB ++ (leB x).take (p + 1) := by
      rw [List.append_assoc, List.take_add_one, aO]
      rfl
     generalize Zm x p = y at *
     generalize (t'.take k).flatMap leB ++ (leB x).take p = pre at *
     have HSN := lh cH
     clear cH aO
     have k3 : (8 : Int) * (p : Int) <= 56 := by omega
     go_wp2_with fail
     refine (Jcn b b pre y wr x9 bL (Nat.le_of_lt (Lib.BuilderAt.lt x9))).mono ?_
     rintro e w5 ⟨⟨v5, rfl⟩, aP, y8⟩
     rw [HSN.out] at aP
     go_wp2
     refine ⟨⟨p + 1, by omega, by go_num, aP, cG.trans y8⟩, by simp [intOf]; omega⟩
    obtain rfl : p = 8 := by omega
    rw [List.take_of_length_le (l := leB x) (by rw [Jch]; omega)] at x9
    go_wp2
    refine ⟨⟨k + 1, by omega, by go_num, ?_, cG⟩, by simp [intOf]; omega⟩
    rw [List.take_add_one, HX.out, List.flatMap_append]
    simpa using x9
  obtain rfl : k = m - 1 := by omega
  rw [List.take_of_length_le (by rw [HLT.out]; omega)] at o5
  have bK := cZ.below (aE.mono (show w.heap.size <= b by omega))
  obtain ⟨ad2, x2, aN, _, aD, j6⟩ := bK.atf (k := 0) (by omega)
  injection aN with aN
  subst aN
  simp at aD
  subst aD
  rw [show ad.add 0 = ad from rfl] at j6
  unfold Jm at j6
  have bM : Blk wr w.heap.size 52 #[.int .u64 0, .string ⟨#[]⟩] := bJ.below aE (by omega)
  have bN : Blk wr.drew w.heap.size 52 #[.int .u64 0, .string ⟨#[]⟩] := bM
  have aC : wr.drew.cell? ad = some (.int .u64 (x0 : Int)) := j6
  have bO : w.heap.size < b := by omega
  have dE : b <= wr.heap.size := Nat.le_of_lt (Lib.BuilderAt.lt o5)
  have bP : b <= wr.drew.heap.size := dE
  have aQ := Tryz.Builder_String_any b b (t'.flatMap leB) wr.drew (.inr o5) bP
  have k5 : ¬ ((m - 1 : Nat) : Int) < ((m - 1 : Nat) : Int) := by omega
  generalize hfl : (t'.flatMap leB).toArray = fl at *
  have HST := lh aQ
  clear aQ bI o5 hfl
  have aR : ad.block < b := by omega
  go_wp2_with fail
  go_region_with (go_at_call 154; refine HST.out.mono ?_; rintro e' w5 ⟨rfl, y8⟩; have bQ : w5.cell? ad = some (Value.int IntKind.u64 ↑x0) := (y8.cell aR).trans aC; have s9 : Blk w5 w.heap.size 52 #[.int .u64 0, .string ⟨#[]⟩] := bN.below y8 bO; have q0 := s9.cell 0; have q1 := s9.cell 1; have f0 := s9.frozen 0; have f1 := s9.frozen 1; have s0 := s9.same0 (by simp); have s1 := s9.same1 (by simp); simp at q0 q1)
  all_goals
   go_wp2
   refine bodyPost_ret (v := .agg #[.int .u64 (x0 : Int), .string ⟨fl⟩]) (by simp [results, Tryz.results120, go_sem, s0, s1]) rfl ?_
   have dF : Below b wr w5 := ⟨y8.os, y8.tape, y8.output, y8.size, y8.block⟩
   have bR : Below w.heap.size w w5 := (t8.trans (aE.mono (by omega))).trans (dF.mono (by omega))
   exact ⟨rfl, (bR.setCell zd _).setCell zd _⟩
theorem Tryz.eltU64 : Elt Tryz.prog 170 50 (Jm 0) 8 := ⟨Tryz.underlying170, Tryz.infoU64, rfl⟩
theorem Yh (x y c : Nat) (hc : c <= 1) (w : World) :
  (callFunc 155 #[.int .u64 (x : Int), .int .u64 (y : Int), .int .u64 (c : Int)]).run Tryz.prog w =
   .ok (.value (.tuple #[.int .u64 (((x + y + c) % 18446744073709551616 : Nat) : Int), .int .u64 (((x + y + c) / 18446744073709551616 : Nat) : Int)])) w := by
 rw [run_callFunc_extern Tryz.func155 (by kernel_rfl) (by kernel_rfl) (by kernel_rfl) (e := add64Entry) (by kernel_rfl), run_add64 x y c (by omega) (by omega) (by omega) (by omega)]
 simp only [Result.andThen]
 congr 5 <;> omega
theorem Jdu (x y c : Nat) (hc : c <= 1) (w : World) :
  (callFunc 166 #[.int .u64 (x : Int), .int .u64 (y : Int), .int .u64 (c : Int)]).run Tryz.prog w =
   .ok (.value (.tuple #[.int .u64 (((x + 18446744073709551616 - y - c) % 18446744073709551616 : Nat) : Int), .int .u64 ((if x < y + c then 1 else 0 : Nat) : Int)])) w := by
 rw [run_callFunc_extern Tryz.func166 (by kernel_rfl) (by kernel_rfl) (by kernel_rfl) (e := sub64Entry) (by kernel_rfl), run_sub64 x y c hc]
 rfl
def Xd (a b : Nat) : Int := if a < b then -1 else if b < a then 1 else 0
theorem Jdj (x y : Nat) (w : World) : Calls Tryz.prog 135 #[.int .u64 (x : Int), .int .u64 (y : Int)] w fun e w' => e = .returned (.int .i64 (Xd x y)) /\ w = w' := by
 unfold Xd
 by_cases h1 : x < y
 ·rw [if_pos h1]
  have h2 : (x : Int) < (y : Int) := by omega
  go_enter Tryz.func135, Tryz.ntmps135
  go_wp2
  go_ret
  exact ⟨rfl, rfl⟩
 rw [if_neg h1]
 have h2 : ¬ (x : Int) < (y : Int) := by omega
 by_cases h3 : y < x
 ·rw [if_pos h3]
  have h4 : (y : Int) < (x : Int) := by omega
  go_enter Tryz.func135, Tryz.ntmps135
  go_wp2
  go_ret
  exact ⟨rfl, rfl⟩
 rw [if_neg h3]
 have h4 : ¬ (y : Int) < (x : Int) := by omega
 go_enter Tryz.func135, Tryz.ntmps135
 go_wp2
 go_ret
 exact ⟨rfl, rfl⟩
theorem Jcz (n : Nat) (w : World) : Calls Tryz.prog 117 #[Jj n] w (Ret (if n < 18446744073709551616 then .tuple #[.int .u64 (n : Int), .bool true] else .tuple #[.int .u64 0, .bool false]) w) := by
 unfold Jj
 by_cases h : n < 18446744073709551616
 ·rw [Qc n h, Jx n h, if_pos h]
  go_enter Tryz.func117, Tryz.ntmps117
  go_wp2
  go_ret2
  exact ⟨rfl, by go_grown⟩
 rw [if_neg h]
 have d1 := Ja5 (mo n) (by have := Ya n h; have := Vp n; omega)
 have d2 : (mo n).toList.isEmpty = false := by simpa using d1
 go_enter Tryz.func117, Tryz.ntmps117
 go_wp2
 go_ret2
 exact ⟨rfl, by go_grown⟩
