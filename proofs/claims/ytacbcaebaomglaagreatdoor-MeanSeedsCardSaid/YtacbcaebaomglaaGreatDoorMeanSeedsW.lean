import Derived.Test.YtacbcaebaomglaaGreatDoorMeanK
import Derived.Test.YtacbcaebaomglaaGreatDoorPick
import Derived.RegionTactic
import Derived.Deep.LoopGhost
import Derived.BigRegion
import Derived.Deep.DeepCutAuto
import Derived.Deep.CutBlock
namespace Go.Proofs.YtacbcaebaomglaaGreatDoor
set_option maxRecDepth 100000
set_option maxHeartbeats 8000000
open Go.RowKit
set_option linter.all false
section
variable {α : Type}
end
section
variable {f x : List (List Rat)}
end
section
variable {wd : Nat} {f a b : List (List Rat)}
end
section
variable {u : Rat}
end
theorem Jqd (A A' : Option Addr) (n c c' B B' : Nat) (f : List (List Rat)) (w : World) (h : Xa w B A n f) (h' : Xa w B' A' n f) (hB : B <= w.heap.size) (eA : B' <= w.heap.size) (hn : n <= 1000) (hq : ∀ l ∈ f, l.length <= 1000000 /\ ∀ x ∈ l, QS 549755813888 x) :
  Calls Tryz.prog 95 #[.slice A n c, .slice A' n c', .func (.func 48) #[] #[]] w (Ret (.bool true) w) := by
 have H := lh h
 have H' := lh h'
 have HQ := lh hq
 have HLN := lh h.len
 have q0 : ((n : Int) != (n : Int)) = false := by simp
 clear h h' hq
 go_enter Tryz.func95, Tryz.ntmps95
 go_wp2_with fail
 go_loopw [17] (fun p wr => ∃ k : Nat, k <= n /\ p = .int .i64 (k : Int) /\ Below w.heap.size w wr) (fun p _ => n - (intOf p).toNat)
 case atStart => exact ⟨0, by omega, rfl, Below.refl _ _⟩
 case round =>
  obtain ⟨k, hk, rfl, cD⟩ := hrel
  rename World => wr
  by_cases bW : k < n
  ·have k1 : (k : Int) < (n : Int) := by omega
   have k2 : ¬ (n : Int) <= (k : Int) := by omega
   obtain ⟨l, hl⟩ : ∃ l, f[k]? = some l := ⟨_, List.getElem?_eq_getElem (by have := HLN.out; omega)⟩
   obtain ⟨ad, A1, m1, d1, rfl, o8, cM, aZ⟩ := (H.out.below Xh (cD.mono hB)).at_ hl
   obtain ⟨ad2, A2, m2, d2, rfl, gH, fT, gI⟩ := (H'.out.below Xh (cD.mono eA)).at_ hl
   obtain rfl : m1 = m2 := by rw [<- aZ.len, <- gI.len]
   have fU := HQ.out l (List.mem_of_getElem? hl)
   have hsm := Jjh A1 A2 m1 d1 d2 B B' l l wr aZ gI (nt hB cD.size) (nt eA cD.size) (by rw [<- aZ.len]; exact fU.1) fU.2 fU.2
   rw [decide_eq_true rfl] at hsm
   have HSM := lh hsm
   have HBW := lh cD
   clear hl o8 gH aZ gI fU hsm cD
   go_wp2_with fail
   refine HSM.out.mono ?_
   rintro e w1 ⟨rfl, j0⟩
   have HB1 := lh (HBW.out.trans (j0.mono HBW.out.size))
   clear j0 cM fT
   go_wp2
   exact ⟨⟨k + 1, by omega, by go_num, HB1.out⟩, by simp [intOf]; omega⟩
  obtain rfl : k = n := by omega
  have k1 : ¬ (k : Int) < (k : Int) := by omega
  have k2 : (k : Int) <= (k : Int) := by omega
  have HBW := lh cD
  clear cD
  go_wp2
  go_ret
  exact ⟨rfl, HBW.out⟩
theorem Jqh (A A' : Option Addr) (n c c' B B' : Nat) (f : List (List Rat)) (w : World) (h : Xa w B A n f) (h' : Xa w B' A' n f) (hB : B <= w.heap.size) (eA : B' <= w.heap.size) (hn : n <= 1000) (hq : ∀ l ∈ f, l.length <= 1000000 /\ ∀ x ∈ l, QS 549755813888 x) :
  Calls Tryz.prog 47 #[.agg #[.slice A n c], .agg #[.slice A' n c']] w (Ret (.bool true) w) := by
 have HE := lh (fun w' (hb : Below w.heap.size w w') => Jqd A A' n c c' B B' f w' (h.below Xh (hb.mono hB)) (h'.below Xh (hb.mono eA)) (nt hB hb.size) (nt eA hb.size) hn hq)
 clear h h' hB eA hq
 obtain ⟨b0, b1, hB, hZ⟩ := bx2 w 30 #[.slice A n c] 30 #[.slice A' n c']
 go_enter Tryz.func47, Tryz.ntmps47
 have x0 := b0.c1
 have x1 := b1.c1
 have HBW := lh hB
 clear hB
 go_wp2_with fail
 generalize ((w.alloc (.cells #[.slice A n c] 30)).alloc (.cells #[.slice A' n c'] 30)) = W at *
 refine (HE.out _ HBW.out).mono ?_
 rintro e w1 ⟨rfl, j0⟩
 have HB1 := lh (Ja HBW.out j0)
 clear x0 x1 j0
 go_wp2
 go_ret
 exact ⟨rfl, HB1.out⟩
theorem Reads.at1m {α : Type} {w : World} {B : Nat} {A : Option Addr} {n : Nat} {f : α -> Value} {l : List α} (h : Reads w B 1 A n (l.map f)) {k : Nat} (hk : k < n) : ∃ ad g o x, A = some ad /\ ad.add k = ⟨g, o, none⟩ /\ g < B /\ l[k]? = some x /\ At1 w g o (f x) := by
 obtain ⟨ad, x, h1, h2, h3, h4⟩ := h.atf hk
 have e0 := Jar h4
 have hb := Jt ad k
 cases hP : ad.add k with
 | mk g o sp =>
  rw [hP] at h4 e0 hb
  obtain rfl : sp = none := e0
  exact ⟨ad, g, o, x, h1, hP, by have : g = ad.block := hb; omega, h3, At1.mk' h4⟩
section
variable {f x : List (List Rat)}
end
def RP (P : Value -> Prop) (w : World) (v : Value) (b : List Rat) : Prop := OwnR w v b /\ P v
abbrev OwnRP (P : Value -> Prop) (w : World) (v : Value) (f : List (List Rat)) : Prop := OwnS 42 (RP P) w v f
theorem OwnRP.plain {P : Value -> Prop} {w : World} {v : Value} {f : List (List Rat)} (h : OwnRP P w v f) : Zs w v f := by
 obtain ⟨rl, h1, h2, h3⟩ := h
 exact ⟨rl, h1, h2, fun i r b hr hb => (h3 i r b hr hb).1⟩
theorem OwnRP.of {P : Value -> Prop} {w : World} {v : Value} {f : List (List Rat)} (h : Zs w v f) (hP : ∀ v : Value, (∀ k, v.ownBlock = some k -> k < w.heap.size) -> P v) : OwnRP P w v f := by
 obtain ⟨rl, h1, h2, h3⟩ := h
 exact ⟨rl, h1, h2, fun i r b hr hb => ⟨h3 i r b hr hb, hP _ (OwnR.lt (h3 i r b hr hb))⟩⟩
theorem Jqb {α : Type} {P : Program} {ops : Array Oper} {o : Oper} {a : Act} {K : Act -> World -> Prop} {Q : Exit -> Act -> World -> Prop} {E0 : Prop} {t e : TypeId} {z : Value} {bytes : Nat} {f : α -> Value}
  (E : Elt P t e z bytes) (gJ : o.guard = none) (s x : Operand)
  (ho : o.op = .call { callee := .builtin .append, args := #[s, x], argTypes := #[t, t] })
  (w : World) (v : Value) (l : List α) (B : Nat) (A : Option Addr) (n c : Nat) (l2 : List α) (hs : a.eval s = v) (cN : Own w e f v l) (hx : a.eval x = .slice A n c)
  (hr : Reads w B 1 A n (l2.map f)) (gK : ∀ m, (f m).oneCell' = true) (kZ : l.length + n <= maxLen) (hb : (l.length + n) * bytes <= 140737488355328)
  (h : ∀ v' w1, Own w1 e f v' (l ++ l2) -> Grew w w1 v v' -> K (a.put o.dst v') w1) : if Region.wanted o (yielded ops a.tmps) = true then Oper.wp P o a w K Q else E0 := by
 obtain ⟨i0, lA, lB, gL, jF⟩ := info_parts E.info
 refine Vp _ gJ s x t ho 0 e i0 z 1 bytes E.under lA lB gL jF E.one (by omega) v l.length (l.map f) hs cN B A n c (l2.map f) hx hr
  (by intro u hu; simp at hu; obtain ⟨m, _, rfl⟩ := hu; exact gK m) kZ hb (Nat.zero_le _) ?_
 intro v' w' eI cO lC
 refine h v' w' ?_ (Grew.of_grown cO lC)
 have hl := hr.lenf
 unfold Own
 rw [List.length_append, List.map_append, hl]
 exact eI
section
variable {β : Type} {T TT : TypeId} {I : World -> Value -> β -> Prop} {ops : Array Oper} {op : Oper} {a : Act} {K : Act -> World -> Prop} {Q : Exit -> Act -> World -> Prop} {Z : Prop}
theorem Jqe (KK : Kind T I) (E : Elt Tryz.prog TT T (.slice none 0 0) 24) (gJ : op.guard = none) (s x : Operand)
  (ho : op.op = .call { callee := .builtin .append, args := #[s, x], argTypes := #[TT, TT] })
  (wr : World) (v : Value) (bl : List β) (A : Option Addr) (n c : Nat) (b : β) (hs : a.eval s = v) (cN : OwnS T I wr v bl) (lD : I wr (.slice A n c) b) (hx : a.eval x = .slice (some ⟨wr.heap.size, 0, none⟩) 1 1) (hl : bl.length <= 1000000)
  (h : ∀ v' w1, OwnS T I w1 v' (bl ++ [b]) -> Grew wr w1 v v' -> K (a.put op.dst v') w1) : if Region.wanted op (yielded ops a.tmps) = true then Oper.wp Tryz.prog op a (wr.alloc (.cells #[.slice A n c] T)) K Q else Z := by
 obtain ⟨rl, h1, h2, h3⟩ := cN
 refine Jqb E gJ s x ho (wr.alloc (.cells #[.slice A n c] T)) v rl (wr.heap.size + 1) (some ⟨wr.heap.size, 0, none⟩) 1 1 [(⟨A, n, c⟩ : SW)] hs (Own.alloc h1 _) hx (Row.new wr T SW.v [⟨A, n, c⟩]).reads SW.one (by unfold maxLen; omega) (by omega) ?_
 intro v' w1 h4 h5
 have cO : Grew wr w1 v v' := by
  refine ⟨h5.os, h5.tape, h5.output, nt (by simp) h5.size, fun k hk bQ => (h5.block k (by simp; omega) bQ).trans (Below.heap_alloc wr _ k hk), fun k hk => ?_⟩
  rcases h5.own k hk with h6 | h6
  ·exact .inl h6
  exact .inr (by simp at h6; omega)
 exact h v' w1 (OwnS.snoc KK h1 h2 h3 lD h4 cO) cO
end
theorem Jgt {xl : List (List Rat)} {n wd k : Nat} (hn : xl.length = n) (hn2 : n <= 1000) (hwd : wd <= 1000) (h1 : ∀ l ∈ xl, l.length = wd) (hs : ∀ l ∈ xl, ∀ y ∈ l, QS k y) (hk : k <= 549755813888) (w : World) (A : Option Addr) (c : Nat) (h : Zs w (.slice A n c) xl) (hT : Tab w) :
  Calls Tryz.prog 16 #[.slice A n c] w fun e w' => ∃ A c, e = .returned (.slice A n c) /\ OwnQQ w' (.slice A n c) xl /\ Below w.heap.size w w' := by
 refine (Jaf A n c w.heap.size xl w (OwnS.readS (fun h => OwnR.reads_ h) h) zd hn2 (fun l hl => ⟨by rw [h1 l hl]; omega, fun y hy => (hs l hl y hy).mono hk⟩) hT).mono ?_
 rintro e w' ⟨v, rfl, ho, -, hb⟩
 obtain ⟨A, c, hv⟩ := OwnS.form ho
 rw [hn] at hv
 subst hv
 exact ⟨A, c, rfl, ho, hb⟩
theorem Jrl (n : Nat) (h : 1 <= n) (h2 : n < 18446744073709551616) : IntKind.u64.wrap (-(n : Int)) = ((18446744073709551616 - n : Nat) : Int) := by
 have e : IntKind.u64.wrap (-(n : Int)) = (-(n : Int)) % 18446744073709551616 := by
  simp [IntKind.wrap, IntKind.signed, IntKind.bits]
 rw [e]
 omega
theorem Jsm (n : Nat) (eB : 1 <= n) (hn2 : n <= 9223372036854775807) : ∃ M R : Nat, IntKind.u64.wrap (-(n : Int)) = (M : Int) /\ (M : Int).tmod (n : Int) = (R : Int) /\ (M : Int) % (n : Int) = (R : Int) /\ IntKind.u64.wrap (18446744073709551615 - (R : Int)) = ((Dice.last n : Nat) : Int) := by
 have h0 : (18446744073709551616 - n) % n = (18446744073709551615 % n + 1) % n := by
  rw [Nat.mod_add_mod, show 18446744073709551615 + 1 = (18446744073709551616 - n) + n from by omega, Nat.add_mod_right]
 have h1 : (18446744073709551616 - n) % n < n := Nat.mod_lt _ eB
 refine ⟨18446744073709551616 - n, (18446744073709551616 - n) % n, ?_, ?_, ?_, ?_⟩
 ·rw [Jrl n eB (by omega)]
 ·rw [Int.tmod_eq_emod_of_nonneg (by omega), <- Int.natCast_emod]
 ·rw [<- Int.natCast_emod]
 have e2 : (18446744073709551615 : Int) - (((18446744073709551616 - n) % n : Nat) : Int) = ((18446744073709551615 - (18446744073709551616 - n) % n : Nat) : Int) := by omega
 rw [e2, Jg, Nat.mod_eq_of_lt (by omega), h0]
 rfl
theorem Jrm (b s : Nat) (w : World) (hs : s < 18446744073709551616) (hc : w.cell? ⟨b, 0, none⟩ = some (.int .u64 (s : Int))) (hf : w.frozen? ⟨b, 0, none⟩ = false) :
  Calls Tryz.prog 143 #[.pointer (some ⟨b, 0, none⟩)] w fun e w' => e = .returned (.int .u64 ((Dice.next s : Nat) : Int)) /\ w.setCell ⟨b, 0, none⟩ (.int .u64 ((Dice.step s : Nat) : Int)) = w' := by
 have e1 := Dice.step_walk s
 have e2 := Dice.mixA_walk (Dice.step s) (Dice.step_lt s)
 have e3 := Dice.mixB_walk (Dice.mixA (Dice.step s)) (Dice.mixA_lt _)
 have e4 := Dice.mixC_walk (Dice.mixB (Dice.mixA (Dice.step s))) (Dice.mixB_lt _)
 go_enter Tryz.func143, Tryz.ntmps143
 go_wp2
 go_ret
 exact ⟨rfl, rfl⟩
theorem Jsk (b s n : Nat) (w : World) (hs : s < 18446744073709551616) (eB : 1 <= n) (hn2 : n <= 9223372036854775807) (hd : Blk w b 106 #[.int .u64 (s : Int)]) :
  Calls Tryz.prog 105 #[.pointer (some ⟨b, 0, none⟩), .int .i64 (n : Int)] w fun e w' => e = .returned (.int .i64 (((Dice.below n s).1 : Nat) : Int)) /\ w.setCell ⟨b, 0, none⟩ (.int .u64 (((Dice.below n s).2 : Nat) : Int)) = w' := by
 obtain ⟨M, R, e1, e2, e2', e3⟩ := Jsm n eB hn2
 obtain ⟨k0, fV, fW, jG⟩ := Dice.gap_exists s hs
 clear fW
 have cM : decide ((n : Int) < 1) = false := by simp; omega
 go_enter Tryz.func105, Tryz.ntmps105
 go_wp2_with fail
 go_loopg [7] k0 (fun k u wr => Jry w b n s k wr)
 case atStart => exact ⟨s, hs, jG, fV, (hd.setCell_self 0 _ rfl).symm, rfl⟩
 case round =>
  obtain ⟨r, hr, hg, hk, rfl, jH⟩ := hrel
  have HD := lh jH
  clear jH hs jG fV e1 e2 e2'
  have cP := hd.set_ 0 (.int .u64 (r : Int))
  have es := Jqr w b 0 (.int .u64 (r : Int)) (.int .u64 ((Dice.step r : Nat) : Int))
  have hx := lh (Dice.draw_step (Dice.last n) r hr)
  by_cases jI : Dice.next r <= Dice.last n
  ·have e4 := Jrr (Dice.next r) n eB hn2
   go_wp2_with fail
   refine (Jrm b r _ hr (cP.cell 0) (cP.frozen 0)).mono ?_
   rintro e w1 ⟨rfl, rfl⟩
   rw [es]
   go_wp2_with fail
   go_ret
   have eC := hx.out
   rw [if_pos jI, HD.out] at eC
   refine ⟨Jas ?_, ?_⟩
   ·rw [Dice.below_fst, eC]
    exact (Int.natCast_emod _ _).symm
   rw [Dice.below_snd, eC]
  go_wp2_with fail
  refine (Jrm b r _ hr (cP.cell 0) (cP.frozen 0)).mono ?_
  rintro e w1 ⟨rfl, rfl⟩
  rw [es]
  go_wp2_with fail
  have fW : 2 <= gk := by
   rcases Nat.lt_or_ge gk 2 with h | h
   ·obtain rfl : gk = 1 := by omega
    have := Dice.gap_zero r hg
    omega
   exact h
  obtain ⟨g', rfl⟩ : ∃ g', gk = g' + 1 := ⟨gk - 1, by omega⟩
  go_roundg g'
  case rel =>
   have eC := hx.out
   rw [if_neg jI] at eC
   exact ⟨Dice.step r, Dice.step_lt _, Dice.gap_step r g' hg, by omega, rfl, by rw [<- eC]; exact HD.out⟩
  case measure => omega
def Jr6 (l : List Rat) (u j : Nat) : Prop := ((u : Int) : Rat) * Jqm l < Jqm (l.take (j + 1)) * ((18446744073709551616 : Int) : Rat)
def Jrh (b s : Nat) (l : List Rat) (w : World) (e : Ending) (w' : World) : Prop :=
 (((∃ x ∈ l, x.num.sign < 0) \/ Jqm l = 0) /\ e = .returned (.tuple #[.int .i64 0, .bool false]) /\ Below w.heap.size w w') \/
 ((∀ x ∈ l, 0 <= x.num.sign) /\ Jqm l ≠ 0 /\ ∃ i ok, Jqy l (Dice.next s) i ok /\ e = .returned (.tuple #[.int .i64 (i : Int), .bool ok]) /\ Exc b w w' /\ Blk w' b 106 #[.int .u64 ((Dice.step s : Nat) : Int)])
theorem Jq1 (s : Nat) : ∀ i x : Nat, (#[.int .u64 (s : Int)] : Array Value)[i]? ≠ some (Jo x) := by
 intro i x e
 rcases i with _ | i
 ·simp at e
  cases e
 simp at e
theorem Jsj (b s : Nat) (w : World) (hs : s < 18446744073709551616) (hd : Blk w b 106 #[.int .u64 (s : Int)]) :
  Calls Tryz.prog 143 #[.pointer (some ⟨b, 0, none⟩)] w fun e w' => e = .returned (.int .u64 ((Dice.next s : Nat) : Int)) /\ Blk w' b 106 #[.int .u64 ((Dice.step s : Nat) : Int)] /\ Exc b w w' :=
 (Jrm b s w hs (hd.cell 0) (hd.frozen 0)).mono fun e w' ⟨h1, h2⟩ => ⟨h1, by rw [<- h2]; simpa using hd.set_ 0 (.int .u64 ((Dice.step s : Nat) : Int)), by rw [<- h2]; exact (Exc.refl b w).set_ 0 _⟩
theorem Exc.away {b g : Nat} {w w' : World} (h : Exc b w w') (hg : w.heap.size <= g) (i : Nat) (u : Value) : Exc b w (w'.setCell ⟨g, i, none⟩ u) :=
 ⟨h.os, h.tape, h.output, by rw [World.size_setCell]; exact h.size, fun k hk hb => (Below.heap_setCell w' _ _ k (by show k ≠ g; omega)).trans (h.block k hk hb)⟩
def Jri (b : Nat) (W : World) (q : Rat) (v : Value) (wc : World) : Prop :=
 ∃ g ng A l c A' l' c', v = .pointer (some ⟨g, 0, none⟩) /\ W.heap.size <= g /\ Blk wc g 56 #[.bool ng, .slice A l c, .slice A' l' c'] /\ IsQ wc wc.heap.size (.agg #[.bool ng, .slice A l c, .slice A' l' c']) q /\ Exc b W wc
theorem Jse {b : Nat} {W wn : World} {q : Rat} {l c l' c' : Nat} {ng : Bool} {A A' : Option Addr} (hc : Exc b W wn) (hQ : IsQ wn wn.heap.size (.agg #[.bool ng, .slice A l c, .slice A' l' c']) q) :
  Jri b W q (.pointer (some ⟨wn.heap.size, 0, none⟩)) (wn.alloc (.cells #[.bool ng, .slice A l c, .slice A' l' c'] 56)) :=
 ⟨_, _, _, _, _, _, _, _, rfl, hc.size, Blk.new _ _ _, (hQ.next zd (Jb _ _)).more (Jb _ _).size, hc.alloc _⟩
theorem Jsd {b : Nat} {W wn : World} {q : Rat} {g l c l' c' : Nat} {ng : Bool} {A A' : Option Addr} (hc : Exc b W wn) (hQ : IsQ wn wn.heap.size (.agg #[.bool ng, .slice A l c, .slice A' l' c']) q)
  (ca : Blk wn g 56 #[.bool false, .slice none 0 0, .slice none 0 0]) (hg : W.heap.size <= g) :
  Jri b W q (.pointer (some ⟨g, 0, none⟩)) (((wn.setCell ⟨g, 0, none⟩ (.bool ng)).setCell ⟨g, 1, none⟩ (.slice A l c)).setCell ⟨g, 2, none⟩ (.slice A' l' c')) := by
 refine ⟨_, _, _, _, _, _, _, _, rfl, hg, by simpa using ((ca.set_ 0 (.bool ng)).set_ 1 (.slice A l c)).set_ 2 (.slice A' l' c'), ?_, ((hc.away hg 0 _).away hg 1 _).away hg 2 _⟩
 rw [World.size_setCell, World.size_setCell, World.size_setCell]
 exact hQ.set3 ca ng A A' l c l' c'
section
variable {b : Nat} {W wn : World} {q : Rat} {l c l' c' : Nat} {ng : Bool} {A A' : Option Addr} {t : TypeId} {cs : Array Value}
theorem Jr4 (hc : Exc b W wn) (hQ : IsQ wn wn.heap.size (.agg #[.bool ng, .slice A l c, .slice A' l' c']) q) (dd : Blk wn b t cs) :
  Jri b W q (.pointer (some ⟨wn.heap.size, 0, none⟩)) (wn.alloc (.cells #[.bool ng, .slice A l c, .slice A' l' c'] 56)) /\ Blk (wn.alloc (.cells #[.bool ng, .slice A l c, .slice A' l' c'] 56)) b t cs := ⟨Jse hc hQ, dd.alloc _⟩
theorem Jq9 {g : Nat} (hc : Exc b W wn) (hQ : IsQ wn wn.heap.size (.agg #[.bool ng, .slice A l c, .slice A' l' c']) q)
  (ca : Blk wn g 56 #[.bool false, .slice none 0 0, .slice none 0 0]) (hg : W.heap.size <= g) (dd : Blk wn b t cs) (hb : b < W.heap.size) :
  Jri b W q (.pointer (some ⟨g, 0, none⟩)) (((wn.setCell ⟨g, 0, none⟩ (.bool ng)).setCell ⟨g, 1, none⟩ (.slice A l c)).setCell ⟨g, 2, none⟩ (.slice A' l' c')) /\ Blk (((wn.setCell ⟨g, 0, none⟩ (.bool ng)).setCell ⟨g, 1, none⟩ (.slice A l c)).setCell ⟨g, 2, none⟩ (.slice A' l' c')) b t cs := by
 have bQ : b ≠ g := by omega
 exact ⟨Jsd hc hQ ca hg, ((dd.far (p := ⟨g, 0, none⟩) bQ _).far (p := ⟨g, 1, none⟩) bQ _).far (p := ⟨g, 2, none⟩) bQ _⟩
theorem Jrv (hc : Exc b W wn) (hQ : IsQ wn wn.heap.size (.agg #[.bool ng, .slice A l c, .slice A' l' c']) q) (dd : Blk wn b t cs) (hb : b < W.heap.size) :
  Jri b W q (.pointer (some ⟨wn.heap.size, 0, none⟩)) ((((wn.alloc (.cells #[.bool false, .slice none 0 0, .slice none 0 0] 56)).setCell ⟨wn.heap.size, 0, none⟩ (.bool ng)).setCell ⟨wn.heap.size, 1, none⟩ (.slice A l c)).setCell ⟨wn.heap.size, 2, none⟩ (.slice A' l' c')) /\
   Blk ((((wn.alloc (.cells #[.bool false, .slice none 0 0, .slice none 0 0] 56)).setCell ⟨wn.heap.size, 0, none⟩ (.bool ng)).setCell ⟨wn.heap.size, 1, none⟩ (.slice A l c)).setCell ⟨wn.heap.size, 2, none⟩ (.slice A' l' c')) b t cs :=
 Jq9 (hc.alloc _) ((hQ.next zd (Jb _ _)).more (Jb _ _).size) (Blk.new _ _ _) hc.size (dd.alloc _) hb
end
theorem IsN.excC {w w' : World} {B b n : Nat} {v : Value} {t : TypeId} {cs : Array Value} (h : IsN w B v n) (hB : B <= w.heap.size) (hb : Blk w b t cs) (aL : ∀ i x : Nat, cs[i]? ≠ some (Jo x)) (he : Exc b w w') : IsN w' B v n := by
 obtain ⟨A, c, h1, h2, h3, h4, h5⟩ := h
 rcases Nat.eq_zero_or_pos (Jc n).length with h0 | h0
 ·exact ⟨A, c, h1, h2, h3, ⟨h4.1, fun hn => absurd hn (by omega)⟩, fun hn => absurd hn (by omega)⟩
 have bQ := fun ad hA => Jae h4 h0 hb aL ad hA
 refine ⟨A, c, h1, h2, h3, h4.exc he hB bQ, fun hp ad hA => ?_⟩
 obtain ⟨cs', fr, h6⟩ := h5 hp ad hA
 obtain ⟨ad', e1, e2, _⟩ := h4.2 hp
 rw [hA] at e1
 obtain rfl := Option.some.inj e1
 exact ⟨cs', fr, (he.block _ (by omega) (bQ ad hA)).trans h6⟩
theorem IsQ.excC {w w' : World} {B b : Nat} {V : Value} {q : Rat} {t : TypeId} {cs : Array Value} (h : IsQ w B V q) (hB : B <= w.heap.size) (hb : Blk w b t cs) (aL : ∀ i x : Nat, cs[i]? ≠ some (Jo x)) (he : Exc b w w') : IsQ w' B V q := by
 obtain ⟨v, v', h1, h2, h3⟩ := h
 exact ⟨v, v', h1, h2.excC hB hb aL he, h3.excC hB hb aL he⟩
theorem ReadsR.excD {w w' : World} {B b s n : Nat} {A : Option Addr} {ql : List Rat} {t : TypeId} (h : ReadsR w B A n ql) (hB : B <= w.heap.size) (hd : Blk w b t #[.int .u64 (s : Int)]) (he : Exc b w w') : ReadsR w' B A n ql := by
 obtain ⟨rl, h1, h2⟩ := h
 refine ⟨rl, ?_, h2.mono fun V q hq => hq.excC hB hd (Jq1 s) he⟩
 rcases Nat.eq_zero_or_pos n with h0 | h0
 ·exact ⟨h1.1, h1.2.1, fun hn => absurd hn (by omega)⟩
 refine ⟨h1.1, h1.2.exc he hB ?_⟩
 obtain ⟨ad, x, k1, k2, k3, k4⟩ := h1.at_ RC.len h0
 intro ad' e1 e2
 rw [k1] at e1
 obtain rfl := Option.some.inj e1
 have c0 := k4 0 _ rfl
 have e0 := Jar c0
 rw [Nat.add_zero] at c0 e0
 have hb := Jt ad (0 * 3)
 cases hP : ad.add (0 * 3) with
 | mk g o sp =>
  rw [hP] at c0 e0 hb
  obtain rfl : sp = none := e0
  have e4 : g = b := by have : g = ad.block := hb; omega
  subst e4
  have h6 := hd.cell o
  rw [c0] at h6
  cases o with
  | zero => simp at h6
  | succ o => simp at h6
theorem Jrq (g : Bool) (A A' : Option Addr) (l c l' c' : Nat) : ∀ i x : Nat, (#[.bool g, .slice A l c, .slice A' l' c'] : Array Value)[i]? ≠ some (Jo x) := by
 intro i x e
 rcases i with _ | _ | _ | i
 ·simp at e; exact Zl _ x e
 ·simp at e; exact Qv _ _ _ x e
 ·simp at e; exact Qv _ _ _ x e
 simp at e
theorem Exc.over {b g : Nat} {w z w' : World} (h : Exc b w z) (h' : Exc g z w') (hg : w.heap.size <= g) : Exc b w w' :=
 ⟨h'.os.trans h.os, h'.tape.trans h.tape, h'.output.trans h.output, nt h.size h'.size, fun k hk hb => (h'.block k (Nat.lt_of_lt_of_le hk h.size) (by omega)).trans (h.block k hk hb)⟩
def SumX (z : World) (b9 : Nat) (s : Rat) (wr : World) : Prop :=
 ∃ g A l c A' l' c', Blk wr b9 56 #[.bool g, .slice A l c, .slice A' l' c'] /\ IsQ wr wr.heap.size (.agg #[.bool g, .slice A l c, .slice A' l' c']) s /\ Exc b9 z wr
theorem SumX.store {z wr : World} {b9 : Nat} {s : Rat} {g x : Bool} {A A' X X' : Option Addr} {l c l' c' m d m' d' : Nat} (h3 : Blk wr b9 56 #[.bool g, .slice A l c, .slice A' l' c'])
  (hq : IsQ wr wr.heap.size (.agg #[.bool x, .slice X m d, .slice X' m' d']) s) (hx : Exc b9 z wr) :
  SumX z b9 s (((wr.setCell ⟨b9, 0, none⟩ (.bool x)).setCell ⟨b9, 1, none⟩ (.slice X m d)).setCell ⟨b9, 2, none⟩ (.slice X' m' d')) := by
 refine ⟨x, X, m, d, X', m', d', by simpa using ((h3.set_ 0 (.bool x)).set_ 1 (.slice X m d)).set_ 2 (.slice X' m' d'), ?_, ((hx.set_ 0 _).set_ 1 _).set_ 2 _⟩
 rw [World.size_setCell, World.size_setCell, World.size_setCell]
 exact hq.set3 h3 x X X' m d m' d'
theorem Jrf {w : World} {v v' : Value} {g : Bool} {n : Nat} (h : IsI w w.heap.size (.agg #[.bool g, v]) (n : Int)) (h' : IsN w w.heap.size v' 1) : IsQ w w.heap.size (.agg #[.bool g, v, v']) (((n : Nat) : Int) : Rat) := IsQ.mk (q := ((n : Int) : Rat)) h h'
theorem Jsx (b s : Nat) (A : Option Addr) (n c B m : Nat) (ql : List Rat) (w : World) (hs : s < 18446744073709551616) (hd : Blk w b 106 #[.int .u64 (s : Int)]) (h : ReadsR w B A n ql) (hB : B <= w.heap.size)
  (hn : n <= 1000) (hm : m <= 60000) (hl : ∀ x ∈ ql, QS m x) :
  Calls Tryz.prog 106 #[.pointer (some ⟨b, 0, none⟩), .slice A n c] w (Jrh b s ql w) := by
 have HS := lh (QS.sum ql hl)
 have HL := lh hl
 have HR := lh h
 have HD := lh hd
 have HLN := lh h.len
 have cQ := Jr7 A n c B m ql w h hB (by omega) (by omega) hl
 have gM : QS 61000000 (Jqm ql) := by
  have h1 := QS.sum ql hl n
  rw [List.take_of_length_le (by have := h.len; omega)] at h1
  refine h1.mono ?_
  have := Nat.mul_le_mul hn (show m + 1 <= 60001 by omega)
  omega
 obtain ⟨t, ht⟩ : ∃ t, Jqm ql = t := ⟨_, rfl⟩
 rw [ht] at cQ gM
 have HTOT := lh cQ
 have HTT := lh ht
 have HTQ := lh gM
 have lE := hd.lt
 clear hl h hd cQ ht gM
 go_enter Tryz.func106, Tryz.ntmps106
 go_wp2_with fail
 refine HTOT.out.mono ?_
 rintro e x1w ⟨V1, rfl, bR, j0⟩
 obtain ⟨g1, A1, l1, c1c, A1', l1', c1c', rfl⟩ := bR.shape
 have b6 := Blk.new x1w 56 #[.bool g1, .slice A1 l1 c1c, .slice A1' l1' c1c']
 have j6 := Jb x1w (.cells #[.bool g1, .slice A1 l1 c1c, .slice A1' l1' c1c'] 56)
 have p9 := (bR.next zd j6).more j6.size
 have lF := Ja j0 j6
 have gL := j0.size
 clear bR j0 j6 HTOT
 go_upto_block 0 with fail
 generalize x1w.alloc (.cells #[.bool g1, .slice A1 l1 c1c, .slice A1' l1' c1c'] 56) = x2w at *
 generalize x1w.heap.size = a6 at *
 have HR2 := lh p9
 clear p9
 go_wp2_with fail
 go_loopw [7] (fun p wr => ∃ k : Nat, k <= n /\ p = .int .i64 (k : Int) /\ Hid (∀ j, j < k -> ∀ x, ql[j]? = some x -> 0 <= x.num.sign) /\ Below x2w.heap.size x2w wr) (fun p _ => n - (intOf p).toNat)
 case atStart => exact ⟨0, by omega, rfl, lh (fun j hj => absurd hj (by omega)), Below.refl _ _⟩
 case round =>
  obtain ⟨k, hk, rfl, gN, hb⟩ := hrel
  rename World => wr
  have fX : Below w.heap.size w wr := Ja lF hb
  by_cases bW : k < n
  ·obtain ⟨ad, g, o, r, q, rfl, hP, aM, hx, x0, x1, x2, eJ⟩ := (HR.out.below (fX.mono hB)).cells bW
   have mV : (k : Int) < n := by omega
   have e8 := Jrs q _ _ wr (eJ.more (nt hB fX.size)) zd
   obtain ⟨sg, aE⟩ : ∃ sg, q.num.sign = sg := ⟨_, rfl⟩
   rw [aE] at e8
   obtain ⟨rg, rA, rl, rc, rA', rl', rc'⟩ := r
   unfold RC.v at e8
   simp only [] at x0 x1 x2 e8
   have HSN := lh aE
   have HSG := lh e8
   have HX := lh hx
   clear e8 aE hx eJ
   go_wp2_with fail
   refine HSG.out.mono ?_
   rintro e x3 ⟨rfl, q8⟩
   by_cases fY : sg < 0
   ·go_wp2
    go_returns
    exact .inl ⟨.inl ⟨q, List.mem_of_getElem? HX.out, by rw [HSN.out]; exact fY⟩, rfl, Ja fX q8⟩
   have HX0 := lh fY
   have gO : decide (sg < 0) = false := decide_eq_false fY
   clear fY x0 x1 x2 hP
   go_wp2
   refine ⟨⟨k + 1, by omega, by simp, lh (fun j hj y hy => ?_), Ja hb q8⟩, by simp [intOf]; omega⟩
   rcases Nat.lt_or_ge j k with h | h
   ·exact gN.out j h y hy
   obtain rfl : j = k := by omega
   rw [HX.out] at hy
   have hy := Option.some.inj hy
   rw [<- hy, HSN.out]
   have := HX0.out
   omega
  obtain rfl : k = n := by omega
  have aU : ∀ x ∈ ql, 0 <= x.num.sign := by
   intro x hx
   obtain ⟨j, hj, e⟩ := List.getElem_of_mem hx
   exact gN.out j (by have := HLN.out; omega) x (by rw [List.getElem?_eq_getElem hj, e])
  have HNN := lh aU
  have mW : ¬ (k : Int) < (k : Int) := by omega
  have b6 := b6.below hb b6.lt
  have cS := (HR2.out.next zd hb).more hb.size
  have e8 := Jrs t _ _ wr cS zd
  obtain ⟨sg, aE⟩ : ∃ sg, t.num.sign = sg := ⟨_, rfl⟩
  rw [aE] at e8
  have HSN := lh aE
  have HSG := lh e8
  have HQ6 := lh cS
  clear aU gN bW e8 aE cS hb HR2
  obtain ⟨eK, eL, eM⟩ := b6.c3
  go_wp2_with fail
  refine HSG.out.mono ?_
  rintro e x3 ⟨rfl, q8⟩
  have cE := Ja fX q8
  have b6 := b6.below q8 b6.lt
  have cS := (HQ6.out.next zd q8).more q8.size
  clear eK eL eM HSG HQ6
  by_cases aJ : sg = 0
  ·have lG : (sg == 0) = true := by simp [aJ]
   have HT0 := lh aJ
   clear aJ
   go_wp2
   go_returns
   refine .inl ⟨.inr ?_, rfl, cE⟩
   rw [HTT.out]
   exact Rat.num_eq_zero.1 (Int.sign_eq_zero_iff_zero.1 (HSN.out.trans HT0.out))
  have lG : (sg == 0) = false := by simpa using aJ
  have jJ : Jqm ql ≠ 0 := fun e => by
   rw [HTT.out] at e
   rw [e] at HSN
   exact aJ (HSN.out.symm.trans rfl)
  have HTN := lh jJ
  have HQ6 := lh cS
  have dd : Blk x3 b 106 #[.int .u64 (s : Int)] := HD.out.below cE HD.out.lt
  have ne6 : a6 ≠ b := by omega
  have p7 : b < x3.heap.size := dd.lt
  have neW : x3.heap.size ≠ b := by have := dd.lt; omega
  have gP := Dice.next_lt s
  obtain ⟨u, hu⟩ : ∃ u, Dice.next s = u := ⟨_, rfl⟩
  have q9 := fun w' lH => Jsj b s w' hs lH
  rw [hu] at q9 gP
  have HU := lh hu
  have HNX := lh q9
  have ubl : Je u <= 64 := Zw u 64 gP
  have gQ : QS 64 ((u : Int) : Rat) := ⟨by show Je ((u : Int)).natAbs <= 64; rw [Int.natAbs_natCast]; exact ubl, by show Je 1 <= 64; decide⟩
  have jK : signed false u = (u : Int) := rfl
  have eN : ∀ w' V, IsN w' w'.heap.size V u -> Calls Tryz.prog 70 #[.bool false, V] w' (Jal (u : Int) w') := fun w' V hv => by
   have := Ym false u _ V w' hv zd
   rw [jK] at this
   exact this
  have HMI := lh eN
  have eO : ∀ w' g v v' V', Exc b x3 w' -> IsI w' w'.heap.size (.agg #[.bool g, v]) (u : Int) -> IsN w' w'.heap.size v' 1 -> IsQ w' w'.heap.size V' t -> Calls Tryz.prog 30 #[.agg #[.bool g, v, v'], V'] w' (Jak (((u : Int) : Rat) * t) w') := fun w' g v v' V' _ h1 h2 h3 =>
   Jnc _ _ _ _ _ w' (Jrf h1 h2) h3 zd (gQ.mono (by omega)) (HTQ.out.mono (by omega))
  have HML := lh eO
  have HQX : Hid (∀ w', Exc b x3 w' -> IsQ w' w'.heap.size (.agg #[.bool g1, .slice A1 l1 c1c, .slice A1' l1' c1c']) t) := lh fun w' hx => cS.excB dd (Jq1 s) hx
  obtain ⟨bar, bX⟩ : ∃ bar : Rat, ((u : Int) : Rat) * t = bar := ⟨_, rfl⟩
  rw [bX] at HML
  have jL : QS 61000064 bar := by rw [<- bX]; exact (gQ.mul HTQ.out).mono (by omega)
  have HBAR := lh bX
  have HBQ := lh jL
  have eP : ∀ w', Exc b x3 w' -> Calls Tryz.prog 111 #[.int .u64 1] w' (Jbm 1 w') := fun w' _ => Jat 1 w' (by omega)
  have H1N := lh eP
  have jM : ∀ w', Exc b x3 w' -> Calls Tryz.prog 111 #[.int .u64 (u : Int)] w' (Jbm u w') := fun w' _ => Jat u w' gP
  have HUN := lh jM
  clear eP jM hu q9 eN eO jK aJ jJ cS bX jL gQ ubl
  go_upto_region 9 with fail
  have nec6 : a6 ≠ b := ne6
  go_cut [8] (fun v wc => Jri b x3 bar v wc /\ Blk wc b 106 #[.int .u64 ((Dice.step s : Nat) : Int)])
  case first =>
   obtain ⟨eK, eL, eM⟩ := b6.c3; have c6 := b6.drew; have y8 := c6.lt; have hc : Exc b x3 x3.drew := Exc.of (Ji x3); have dd := dd.drew; go_region_held3 (fun w' => w'.cell? ⟨a6, 0, none⟩ = some (.bool g1) /\ w'.cell? ⟨a6, 1, none⟩ = some (.slice A1 l1 c1c) /\ w'.cell? ⟨a6, 2, none⟩ = some (.slice A1' l1' c1c')) (go_keep) (first | (go_at_call 143; (first | with_reducible refine (HNX.out _ dd).mono ?_ | (have bS : x3.heap.size <= x3.heap.size := hc.size; have ca : Blk _ x3.heap.size _ _ := Blk.new x3.drew 56 #[.bool false, .slice none 0 0, .slice none 0 0]; have bA := Jv (show _ < x3.heap.size from y8) zd; have c6 := c6.alloc (.cells #[.bool false, .slice none 0 0, .slice none 0 0] 56); have dd := dd.alloc (.cells #[.bool false, .slice none 0 0, .slice none 0 0] 56); have hc := hc.trans (Exc.of (Jb _ (.cells #[.bool false, .slice none 0 0, .slice none 0 0] 56))); with_reducible refine (HNX.out _ dd).mono ?_) | (have bS : x3.heap.size <= x3.heap.size := hc.size; have ca : Blk (x3.alloc (.cells #[.bool false, .slice none 0 0, .slice none 0 0] 56)).drew x3.heap.size _ _ := Blk.new x3.drew 56 #[.bool false, .slice none 0 0, .slice none 0 0]; have bA := Jv (show _ < x3.heap.size from y8) zd; have c6 : Blk (x3.alloc (.cells #[.bool false, .slice none 0 0, .slice none 0 0] 56)).drew _ _ _ := c6.alloc (.cells #[.bool false, .slice none 0 0, .slice none 0 0] 56); have dd : Blk (x3.alloc (.cells #[.bool false, .slice none 0 0, .slice none 0 0] 56)).drew _ _ _ := dd.alloc (.cells #[.bool false, .slice none 0 0, .slice none 0 0] 56); have hc : Exc b x3 (x3.alloc (.cells #[.bool false, .slice none 0 0, .slice none 0 0] 56)).drew := hc.trans (Exc.of (Jb _ (.cells #[.bool false, .slice none 0 0, .slice none 0 0] 56))); with_reducible refine (HNX.out _ dd).mono ?_)); rintro e w1 ⟨rfl, dd, j0⟩; (try have ca := ca.exc j0 neW); have c6 := c6.exc j0 nec6; (try clear s9 t7 t8); obtain ⟨s9, t7, t8⟩ := c6.c3; (try clear y8); have y8 := c6.lt; have hc := hc.trans j0) | (go_at_call 111; (first | with_reducible refine (HUN.out _ hc).mono ?_ | (have bS : x3.heap.size <= w1.heap.size := hc.size; have ca : Blk _ w1.heap.size _ _ := Blk.new w1 56 #[.bool false, .slice none 0 0, .slice none 0 0]; have bA := Jv (show _ < w1.heap.size from y8) zd; have c6 := c6.alloc (.cells #[.bool false, .slice none 0 0, .slice none 0 0] 56); have dd := dd.alloc (.cells #[.bool false, .slice none 0 0, .slice none 0 0] 56); have hc := hc.trans (Exc.of (Jb _ (.cells #[.bool false, .slice none 0 0, .slice none 0 0] 56))); with_reducible refine (HUN.out _ hc).mono ?_)); rintro e w2 ⟨v2, rfl, p9, u4⟩; obtain ⟨A2, l2, c2c, gS⟩ := p9.form; subst gS; (try have ca := ca.below u4 ca.lt); have dd := dd.below u4 dd.lt; (try clear s9 t7 t8); obtain ⟨c6, s9, t7, t8⟩ := c6.zc3 u4; (try clear y8); have y8 := c6.lt; have hc := hc.trans (Exc.of u4)) | (go_at_call 70; (first | with_reducible refine (HMI.out _ _ p9).mono ?_ | (have bS : x3.heap.size <= w2.heap.size := hc.size; have ca : Blk _ w2.heap.size _ _ := Blk.new w2 56 #[.bool false, .slice none 0 0, .slice none 0 0]; have bA := Jv (show _ < w2.heap.size from y8) zd; have c6 := c6.alloc (.cells #[.bool false, .slice none 0 0, .slice none 0 0] 56); have p9 := (p9.next zd (Jb _ (.cells #[.bool false, .slice none 0 0, .slice none 0 0] 56))).more (Jb _ (.cells #[.bool false, .slice none 0 0, .slice none 0 0] 56)).size; have dd := dd.alloc (.cells #[.bool false, .slice none 0 0, .slice none 0 0] 56); have hc := hc.trans (Exc.of (Jb _ (.cells #[.bool false, .slice none 0 0, .slice none 0 0] 56))); with_reducible refine (HMI.out _ _ p9).mono ?_)); rintro e w3 ⟨v3, rfl, bB, q8⟩; obtain ⟨g3, A3, l3, c3c, bC⟩ := bB.shape; subst bC; (try have ca := ca.below q8 ca.lt); have dd := dd.below q8 dd.lt; (try clear s9 t7 t8); obtain ⟨c6, s9, t7, t8⟩ := c6.zc3 q8; (try clear y8); have y8 := c6.lt; have p9 := (p9.next zd q8).more q8.size; have hc := hc.trans (Exc.of q8)) | (go_at_call 111; (first | with_reducible refine (H1N.out _ hc).mono ?_ | (have bS : x3.heap.size <= w3.heap.size := hc.size; have ca : Blk _ w3.heap.size _ _ := Blk.new w3 56 #[.bool false, .slice none 0 0, .slice none 0 0]; have bA := Jv (show _ < w3.heap.size from y8) zd; have c6 := c6.alloc (.cells #[.bool false, .slice none 0 0, .slice none 0 0] 56); have p9 := (p9.next zd (Jb _ (.cells #[.bool false, .slice none 0 0, .slice none 0 0] 56))).more (Jb _ (.cells #[.bool false, .slice none 0 0, .slice none 0 0] 56)).size; have bB := (bB.next zd (Jb _ (.cells #[.bool false, .slice none 0 0, .slice none 0 0] 56))).more (Jb _ (.cells #[.bool false, .slice none 0 0, .slice none 0 0] 56)).size; have dd := dd.alloc (.cells #[.bool false, .slice none 0 0, .slice none 0 0] 56); have hc := hc.trans (Exc.of (Jb _ (.cells #[.bool false, .slice none 0 0, .slice none 0 0] 56))); with_reducible refine (H1N.out _ hc).mono ?_)); rintro e w4 ⟨v4, rfl, cT, aV⟩; obtain ⟨A4, l4, c4c, eQ⟩ := cT.form; subst eQ; (try have ca := ca.below aV ca.lt); have dd := dd.below aV dd.lt; (try clear s9 t7 t8); obtain ⟨c6, s9, t7, t8⟩ := c6.zc3 aV; (try clear y8); have y8 := c6.lt; have p9 := (p9.next zd aV).more aV.size; have bB := (bB.next zd aV).more aV.size; have hc := hc.trans (Exc.of aV)) | (go_at_call 30; (first | with_reducible refine (HML.out _ _ _ _ _ hc bB cT (HQX.out _ hc)).mono ?_ | (have bS : x3.heap.size <= w4.heap.size := hc.size; have ca : Blk _ w4.heap.size _ _ := Blk.new w4 56 #[.bool false, .slice none 0 0, .slice none 0 0]; have bA := Jv (show _ < w4.heap.size from y8) zd; have c6 := c6.alloc (.cells #[.bool false, .slice none 0 0, .slice none 0 0] 56); have p9 := (p9.next zd (Jb _ (.cells #[.bool false, .slice none 0 0, .slice none 0 0] 56))).more (Jb _ (.cells #[.bool false, .slice none 0 0, .slice none 0 0] 56)).size; have bB := (bB.next zd (Jb _ (.cells #[.bool false, .slice none 0 0, .slice none 0 0] 56))).more (Jb _ (.cells #[.bool false, .slice none 0 0, .slice none 0 0] 56)).size; have cT := (cT.next zd (Jb _ (.cells #[.bool false, .slice none 0 0, .slice none 0 0] 56))).more (Jb _ (.cells #[.bool false, .slice none 0 0, .slice none 0 0] 56)).size; have dd := dd.alloc (.cells #[.bool false, .slice none 0 0, .slice none 0 0] 56); have hc := hc.trans (Exc.of (Jb _ (.cells #[.bool false, .slice none 0 0, .slice none 0 0] 56))); with_reducible refine (HML.out _ _ _ _ _ hc bB cT (HQX.out _ hc)).mono ?_)); rintro e w5 ⟨v5, rfl, cU, aW⟩; obtain ⟨g5, A5, l5, c5c, A5', l5', c5c', eR⟩ := cU.shape; subst eR; (try have ca := ca.below aW ca.lt); have dd := dd.below aW dd.lt; (try clear s9 t7 t8); obtain ⟨c6, s9, t7, t8⟩ := c6.zc3 aW; (try clear y8); have y8 := c6.lt; have p9 := (p9.next zd aW).more aW.size; have bB := (bB.next zd aW).more aW.size; have cT := (cT.next zd aW).more aW.size; have hc := hc.trans (Exc.of aW); (try (have mX := ca.lt; obtain ⟨lI, lJ, lK, lL, lM, lN, lO, lP, lQ⟩ := ca.f3))))
   all_goals
    go_wp2
    go_meet
    first | with_reducible exact Jr4 hc cU dd | with_reducible exact Jq9 hc cU ca bS dd p7 | with_reducible exact Jrv hc cU dd p7
  case rest =>
   obtain ⟨⟨a8, n8, A8, l8, c8c, A8', l8', c8c', rfl, fZ, b8, cF, gT⟩, dN⟩ := hcut
   rename World => y1
   clear b6 HQX HML HNX HMI HUN H1N dd
   have gO := (Exc.of cE : Exc b w x3).trans gT
   have aN : ReadsR y1 B A k ql := (HR.out.below (cE.mono hB)).excD (nt hB cE.size) (HD.out.below cE HD.out.lt) gT
   have gA := cE.size
   have HQ8 := lh cF
   have HRD := lh aN
   have HX1 := lh gO
   have HDN := lh dN
   clear cF aN gO dN gT cE
   go_wp2_with fail
   refine (Jb9 0 y1 (by omega) (by omega)).mono ?_
   rintro e y2 ⟨V9, rfl, cG, x7⟩
   obtain ⟨g9, A9, l9, c9c, A9', l9', c9c', rfl⟩ := cG.shape
   have b8 := b8.below x7 b8.lt
   have mY := b8.lt
   have j6 := Jb y2 (.cells #[.bool g9, .slice A9 l9 c9c, .slice A9' l9' c9c'] 56)
   have b8 := b8.alloc (.cells #[.bool g9, .slice A9 l9 c9c, .slice A9' l9' c9c'] 56)
   have b9 := Blk.new y2 56 #[.bool g9, .slice A9 l9 c9c, .slice A9' l9' c9c']
   have cG := (cG.next zd j6).more j6.size
   have aF := Ja x7 j6
   have jF := x7.size
   have eP : ∀ w', Calls Tryz.prog 111 #[.int .u64 1] w' (Jbm 1 w') := fun w' => Jat 1 w' (by omega)
   obtain ⟨M, hM⟩ : ∃ M : Nat, 1 * 2 ^ 64 = M := ⟨_, rfl⟩
   have jN : ∀ w' V, IsN w' w'.heap.size V 1 -> Calls Tryz.prog 146 #[V, .int .i64 64] w' (Jbm M w') := fun w' V hv => by
    have := Vh 1 64 _ V w' hv zd (by decide) (by omega)
    rw [hM] at this
    exact this
   have hsm : signed false M = (M : Int) := rfl
   have eN : ∀ w' V, IsN w' w'.heap.size V M -> Calls Tryz.prog 70 #[.bool false, V] w' (Jal (M : Int) w') := fun w' V hv => by
    have := Ym false M _ V w' hv zd
    rw [hsm] at this
    exact this
   have H1N := lh eP
   have HSH := lh jN
   have HMI := lh eN
   have jO : Je M <= 65 := by rw [<- hM]; decide +kernel
   have jP : QS 65 ((M : Int) : Rat) := ⟨by show Je ((M : Int)).natAbs <= 65; rw [Int.natAbs_natCast]; exact jO, by show Je 1 <= 65; decide⟩
   have HMQ := lh jP
   have HM := lh (show ((18446744073709551616 : Int) : Rat) = ((M : Int) : Rat) by rw [<- hM]; rfl)
   have HQ9 := lh cG
   clear eP jN eN hsm hM jO jP cG j6 x7
   go_wp2_with fail
   generalize y2.alloc (.cells #[.bool g9, .slice A9 l9 c9c, .slice A9' l9' c9c'] 56) = y3 at *
   generalize hy2 : y2.heap.size = a9 at *
   clear hy2
   refine (H1N.out y3).mono ?_
   rintro e y4 ⟨v4, rfl, gU, aK⟩
   obtain ⟨A4, l4, c4c, rfl⟩ := gU.form
   have HN4 := lh (HSH.out y4 _ gU)
   clear gU
   go_wp2_with fail
   refine HN4.out.mono ?_
   rintro e y5 ⟨v5, rfl, gV, cV⟩
   obtain ⟨A5, l5, c5c, rfl⟩ := gV.form
   have HI5 := lh (HMI.out y5 _ gV)
   clear gV HN4
   go_wp2_with fail
   refine HI5.out.mono ?_
   rintro e y6 ⟨v6, rfl, gW, jQ⟩
   obtain ⟨g6, A6, l6, c6c, rfl⟩ := gW.shape
   clear HI5
   have HI6 := lh gW
   clear gW
   go_wp2_with fail
   refine (H1N.out y6).mono ?_
   rintro e y7 ⟨v7, rfl, gY, aG⟩
   obtain ⟨A7, l7, c7c, rfl⟩ := gY.form
   have cH := Jrf ((HI6.out.next zd aG).more aG.size) gY
   have aH := Ja (Ja (Ja aK cV) jQ) aG
   have b8 := b8.below aH b8.lt
   have b9 := b9.below aH b9.lt
   have mZ := b9.lt
   have lS := b8.lt
   have eS := Ja aF aH
   have nA := aH.size
   have j6 := Jb y7 (.cells #[.bool g6, .slice A6 l6 c6c, .slice A7 l7 c7c] 56)
   have b8 := b8.alloc (.cells #[.bool g6, .slice A6 l6 c6c, .slice A7 l7 c7c] 56)
   have b9 := b9.alloc (.cells #[.bool g6, .slice A6 l6 c6c, .slice A7 l7 c7c] 56)
   have b10 := Blk.new y7 56 #[.bool g6, .slice A6 l6 c6c, .slice A7 l7 c7c]
   have bD := (cH.next zd j6).more j6.size
   clear cH
   have cG := (HQ9.out.next zd (Ja aH j6)).more (Ja aH j6).size
   have aO := Ja eS j6
   have cF := (HQ8.out.next zd aO).more aO.size
   have gZ := HX1.out.trans (Exc.of aO)
   have dz := HDN.out.below aO HDN.out.lt
   have cW := HRD.out.below (aO.mono (nt hB HX1.out.size))
   clear gY aK cV jQ aG aH j6 eS aF HQ8 HQ9 HI6 HX1 HDN HRD H1N HSH HMI aO
   go_upto_block 2 with fail
   generalize y7.alloc (.cells #[.bool g6, .slice A6 l6 c6c, .slice A7 l7 c7c] 56) = z at *
   generalize hy7 : y7.heap.size = a10 at *
   clear hy7
   have lT : a8 ≠ a9 := by omega
   have hF : a10 ≠ a9 := by omega
   have jR : b ≠ a9 := by omega
   have lU : B <= a9 := by omega
   have jS : w.heap.size <= a9 := by omega
   have jT : B <= z.heap.size := nt hB gZ.size
   have HQ8 := lh cF
   have HQ10 := lh bD
   have HRZ := lh cW
   have HXZ := lh gZ
   have HDZ := lh dz
   have HI : Hid (SumX z a9 (Jqm (ql.take 0)) z) := lh ⟨g9, A9, l9, c9c, A9', l9', c9c', b9, cG, Exc.refl _ _⟩
   have HB9 := lh b9
   clear cF bD cW gZ dz cG b9 HR HD
   go_wp2_with fail
   go_loopw [11] (fun p wr => ∃ j : Nat, j <= k /\ p = .int .i64 (j : Int) /\ Hid (∀ i, i < j -> ¬ Jr6 ql u i) /\ SumX z a9 (Jqm (ql.take j)) wr) (fun p _ => k - (intOf p).toNat)
   case atStart => exact ⟨0, by omega, rfl, lh (fun i hi => absurd hi (by omega)), HI.out⟩
   case round =>
    obtain ⟨j, hj, rfl, aI, g, Aa, l, d9c, Aa', l', d9c', b9, hq, hx⟩ := hrel
    rename World => wr
    clear HI
    by_cases lV : j < k
    ·have j1 : (j : Int) < (k : Int) := by omega
     obtain ⟨ad, gg, o, r, q, rfl, hP, aM, hJ, x0, x1, x2, eJ⟩ := (HRZ.out.below (hx.below jT lU)).cells lV
     have eT : B <= wr.heap.size := nt jT hx.size
     have jU : QS 61000000 (Jqm (ql.take j)) := by
      refine (HS.out j).mono ?_
      have := Nat.mul_le_mul (show j <= 1000 by omega) (show m + 1 <= 60001 by omega)
      omega
     have eU : QS 61000000 (Jqm (ql.take (j + 1))) := by
      refine (HS.out (j + 1)).mono ?_
      have := Nat.mul_le_mul (show j + 1 <= 1000 by omega) (show m + 1 <= 60001 by omega)
      omega
     have jV : QS 68719476736 q := (HL.out q (List.mem_of_getElem? hJ)).mono (by omega)
     have eV := Jda _ _ _ _ _ wr.drew (hq.next zd (Ji wr)) ((eJ.next eT (Ji wr)).more eT) zd (jU.mono (by omega)) jV
     rw [<- Jqw ql j q hJ] at eV
     obtain ⟨rg, rA, rl, rc, rA', rl', rc'⟩ := r
     unfold RC.v at eV
     simp only [] at x0 x1 x2 eV
     have HAD := lh eV
     have HX := lh hx
     have HQS2 := lh eU
     clear eV jU eU jV hJ hq eJ hx
     obtain ⟨eW, eX, iA⟩ := b9.c3
     go_upto_region 15 with fail
     go_cut [54] from 43 to 61 (fun _ wc => SumX z a9 (Jqm (ql.take (j + 1))) wc)
     case first =>
      first | (go_region_with (go_at_call 94; (with_reducible refine HAD.out.mono ?_); rintro e w5 ⟨v5, rfl, cU, aW⟩; obtain ⟨g5, B5, m5, d5, B5', m5', d5', eR⟩ := cU.shape; subst eR; have jW := Ja (Ji wr) aW; have d9 := b9.below jW b9.lt; have HF := lh (SumX.store d9 cU (HX.out.trans (Exc.of jW))); obtain ⟨d9q0, d9q1, d9q2, d9f0, d9f1, d9f2, d9s0, d9s1, d9s2⟩ := d9.f3)) | fail
      all_goals
       go_wp2
       go_meet
       exact HF.out
     case rest =>
      obtain ⟨g', Ab, m', d9c', Ab', m'', d9c'', b9, hq, hx⟩ := hcut
      rename World => x5
      have b8 := b8.exc hx lT
      have b10 := b10.exc hx hF
      have cF := HQ8.out.excB HB9.out (Jrq _ _ _ _ _ _ _) hx
      have bD := HQ10.out.excB HB9.out (Jrq _ _ _ _ _ _ _) hx
      have jX := HXZ.out.over hx jS
      have dz := HDZ.out.exc hx jR
      have eO : ∀ w', Below x5.heap.size x5 w' -> Calls Tryz.prog 30 #[.agg #[.bool g', .slice Ab m' d9c', .slice Ab' m'' d9c''], .agg #[.bool g6, .slice A6 l6 c6c, .slice A7 l7 c7c]] w' (Jak (Jqm (ql.take (j + 1)) * ((M : Int) : Rat)) w') := fun w' hb =>
       Jnc _ _ _ _ _ w' ((hq.next zd hb).more hb.size) ((bD.next zd hb).more hb.size) zd (HQS2.out.mono (by omega)) (HMQ.out.mono (by omega))
      have jY : ∀ w' V, Below x5.heap.size x5 w' -> IsQ w' w'.heap.size V (Jqm (ql.take (j + 1)) * ((M : Int) : Rat)) -> Calls Tryz.prog 89 #[V, .agg #[.bool n8, .slice A8 l8 c8c, .slice A8' l8' c8c']] w' (Ret (.int .i64 (Vq (Jqm (ql.take (j + 1)) * ((M : Int) : Rat)) bar)) w') := fun w' V hb hv =>
       Jhs _ _ _ _ _ w' hv ((cF.next zd hb).more hb.size) zd ((HQS2.out.mul HMQ.out).mono (by omega)) (HBQ.out.mono (by omega))
      have jZ : (0 < Vq (Jqm (ql.take (j + 1)) * ((M : Int) : Rat)) bar) ↔ Jr6 ql u j := by
       rw [Jru]
       unfold Jr6
       rw [HTT.out, HBAR.out, HM.out]
      generalize Vq (Jqm (ql.take (j + 1)) * ((M : Int) : Rat)) bar = cv at *
      have HML := lh eO
      have HCP := lh jY
      have HAB := lh jZ
      have HSX := lh (And.intro hq hx)
      have HXW := lh (And.intro jX dz)
      clear eO jY jZ hq hx jX dz cF bD HAD HX
      go_upto_region 16 with fail
      go_cut [60] from 43 to 61 (fun v wc => v = .bool (decide (0 < cv)) /\ Below x5.heap.size x5 wc)
      case first =>
       obtain ⟨eW, eX, iA⟩ := b9.c3; have c9 := b9.drew; have cZ := c9.lt; obtain ⟨kA, kB, kC⟩ := b10.c3; have c10 := b10.drew; have bY := c10.lt; obtain ⟨lW, lZ, mA⟩ := b8.c3; have c8 := b8.drew; have gB := c8.lt; have hc := Ji x5; go_region_held3 (fun w' => w'.cell? ⟨a9, 0, none⟩ = some (.bool g') /\ w'.cell? ⟨a9, 1, none⟩ = some (.slice Ab m' d9c') /\ w'.cell? ⟨a9, 2, none⟩ = some (.slice Ab' m'' d9c'') /\ w'.cell? ⟨a10, 0, none⟩ = some (.bool g6) /\ w'.cell? ⟨a10, 1, none⟩ = some (.slice A6 l6 c6c) /\ w'.cell? ⟨a10, 2, none⟩ = some (.slice A7 l7 c7c) /\ w'.cell? ⟨a8, 0, none⟩ = some (.bool n8) /\ w'.cell? ⟨a8, 1, none⟩ = some (.slice A8 l8 c8c) /\ w'.cell? ⟨a8, 2, none⟩ = some (.slice A8' l8' c8c')) (go_keep) (first | (go_at_call 30; (with_reducible refine (HML.out _ hc).mono ?_); rintro e w1 ⟨v1, rfl, bR, j0⟩; obtain ⟨g1, A1, l1, c1c, A1', l1', c1c', iB⟩ := bR.shape; subst iB; (try clear aP bE dA); obtain ⟨c9, aP, bE, dA⟩ := c9.zc3 j0; (try clear cZ); have cZ := c9.lt; (try clear bF bG bH); obtain ⟨c10, bF, bG, bH⟩ := c10.zc3 j0; (try clear bY); have bY := c10.lt; (try clear dC dD dE); obtain ⟨c8, dC, dD, dE⟩ := c8.zc3 j0; (try clear gB); have gB := c8.lt; have hc := Ja hc j0) | (go_at_call 89; (with_reducible refine (HCP.out _ _ hc bR).mono ?_); rintro e w2 ⟨rfl, u4⟩; (try clear aP bE dA); obtain ⟨c9, aP, bE, dA⟩ := c9.zc3 u4; (try clear cZ); have cZ := c9.lt; (try clear bF bG bH); obtain ⟨c10, bF, bG, bH⟩ := c10.zc3 u4; (try clear bY); have bY := c10.lt; (try clear dC dD dE); obtain ⟨c8, dC, dD, dE⟩ := c8.zc3 u4; (try clear gB); have gB := c8.lt; have bR := (bR.next zd u4).more u4.size; have hc := Ja hc u4))
       all_goals
        go_wp2
        go_meet
        exact ⟨rfl, hc⟩
      case rest =>
       obtain ⟨rfl, dF⟩ := hcut
       rename World => x6
       have b9 := b9.below dF b9.lt
       have mB : Hid (SumX z a9 (Jqm (ql.take (j + 1))) x6) := lh ⟨_, _, _, _, _, _, _, b9, (HSX.out.1.next zd dF).more dF.size, HSX.out.2.trans (Exc.of dF)⟩
       have HX6 := lh (And.intro (HXW.out.1.trans (Exc.of dF)) (HXW.out.2.below dF HXW.out.2.lt))
       clear dF b9 HSX HXW HML HCP
       obtain ⟨bo, iC⟩ : ∃ bo, decide (0 < cv) = bo := ⟨_, rfl⟩
       rw [iC]
       have HBO := lh iC
       clear iC
       cases bo with
       | true =>
        have eD : 0 < cv := of_decide_eq_true HBO.out
        have ha := HAB.out.1 eD
        have bI : Jqy ql (Dice.next s) j true := by
         rw [HU.out]
         exact .inl ⟨rfl, by have := HLN.out; omega, ha, fun i hi => aI.out i hi⟩
        have HF := lh bI
        clear eD ha bI
        go_wp2
        go_returns
        exact .inr ⟨HNN.out, HTN.out, j, true, HF.out, rfl, HX6.out.1, HX6.out.2⟩
       | false =>
        have eD : ¬ 0 < cv := of_decide_eq_false HBO.out
        have bJ : Hid (∀ i, i < j + 1 -> ¬ Jr6 ql u i) := lh fun i hi => by
         rcases Nat.lt_or_ge i j with h | h
         ·exact aI.out i h
         obtain rfl : i = j := by omega
         exact fun ha => eD (HAB.out.2 ha)
        have HGT := lh eD
        clear eD
        go_wp2
        all_goals exact ⟨⟨j + 1, by omega, by go_num, bJ, mB.out⟩, by simp [intOf]; omega⟩
    obtain rfl : j = k := by omega
    have j1 : ¬ (j : Int) < (j : Int) := by omega
    have bI : Jqy ql (Dice.next s) 0 false := by
     rw [HU.out]
     exact .inr ⟨rfl, rfl, fun i hi => aI.out i (by have := HLN.out; omega)⟩
    have HF := lh (And.intro bI (And.intro (HXZ.out.over hx jS) (HDZ.out.exc hx jR)))
    clear bI hq hx
    go_wp2
    go_returns
    exact .inr ⟨HNN.out, HTN.out, 0, false, HF.out.1, rfl, HF.out.2.1, HF.out.2.2⟩
section
variable {m : List (List Rat)} {c r : List Rat}
theorem Jq2 : ∀ i, i <= m.length -> Zi (m ++ [c]) r i = Zi m r i
 | 0, _ => rfl
 | i + 1, h => by
  have h1 : Zi m r i < m.length := Jfh m r (by omega) (by omega)
  unfold Zi
  rw [Jq2 i (by omega)]
  rw [List.getD_eq_getElem?_getD, List.getD_eq_getElem?_getD, List.getElem?_append_left (by omega), List.getElem?_append_left h1, <- List.getD_eq_getElem?_getD, <- List.getD_eq_getElem?_getD]
theorem Jrz (h : 1 <= m.length) : Xs (m ++ [c]) r = if Xk c r < Xs m r then Xk c r else Xs m r := by
 have hl : (m ++ [c]).length = m.length + 1 := by simp
 have h1 : Zi m r m.length < m.length := Jfh m r zd h
 have e1 : (m ++ [c]).getD m.length [] = c := by rw [List.getD_eq_getElem?_getD, List.getElem?_append_right zd, Nat.sub_self]; rfl
 have e2 : (m ++ [c]).getD (Zi m r m.length) [] = m.getD (Zi m r m.length) [] := by rw [List.getD_eq_getElem?_getD, List.getElem?_append_left h1, <- List.getD_eq_getElem?_getD]
 have h2 : Qk (m ++ [c]) r = if Xk c r < Xs m r then m.length else Qk m r := by
  unfold Qk
  rw [hl]
  show (if Xk ((m ++ [c]).getD m.length []) r < Xk ((m ++ [c]).getD (Zi (m ++ [c]) r m.length) []) r then m.length else Zi (m ++ [c]) r m.length) = _
  rw [Jq2 _ zd, e1, e2]
  rfl
 show Xk ((m ++ [c]).getD (Qk (m ++ [c]) r) []) r = _
 rw [h2]
 by_cases h3 : Xk c r < Xs m r
 ·rw [if_pos h3, if_pos h3, e1]
 rw [if_neg h3, if_neg h3]
 unfold Qk
 rw [e2]
 rfl
theorem Jr9 : Xs [c] r = Xk c r := by
 have : Qk [c] r = 0 := by
  show (if _ then 0 else 0) = 0
  split <;> rfl
 unfold Xs
 rw [this]
 rfl
end
def Jrn (l : List Rat) (u i : Nat) : Bool := decide (((u : Int) : Rat) * Jqm l < Jqm (l.take (i + 1)) * ((18446744073709551616 : Int) : Rat))
def Jqp (l : List Rat) (s : Nat) : Nat × Bool × Nat :=
 if (∃ x ∈ l, x.num.sign < 0) \/ Jqm l = 0 then (0, false, s)
 else match (List.range l.length).find? (Jrn l (Dice.next s)) with
  | some i => (i, true, Dice.step s)
  | none => (0, false, Dice.step s)
theorem Jrd {l : List Rat} {s : Nat} (h : (∃ x ∈ l, x.num.sign < 0) \/ Jqm l = 0) : Jqp l s = (0, false, s) := if_pos h
theorem Jq7 {p : Nat -> Bool} {n i : Nat} (hi : i < n) (hp : p i = true) (hn : ∀ j, j < i -> p j = false) : (List.range n).find? p = some i := by
 rw [List.find?_range_eq_some]
 exact ⟨hp, by simpa using hi, fun j hj => by simp [hn j hj]⟩
theorem Jre {l : List Rat} {s i : Nat} {ok : Bool} (h1 : ∀ x ∈ l, 0 <= x.num.sign) (h2 : Jqm l ≠ 0) (h : Jqy l (Dice.next s) i ok) : Jqp l s = (i, ok, Dice.step s) := by
 unfold Jqp
 rw [if_neg (by
  rintro (⟨x, hx, h3⟩ | h3)
  ·have := h1 x hx; omega
  exact h2 h3)]
 rcases h with ⟨rfl, hi, h3, h4⟩ | ⟨rfl, rfl, h3⟩
 ·rw [Jq7 (p := Jrn l (Dice.next s)) hi (decide_eq_true h3) (fun j hj => decide_eq_false (h4 j hj))]
 have : (List.range l.length).find? (Jrn l (Dice.next s)) = none := by
  rw [List.find?_eq_none]
  intro j hj
  have := h3 j (List.mem_range.1 hj)
  unfold Jrn
  rw [decide_eq_false this]
  decide
 rw [this]
theorem Jsl {l : List Rat} {s : Nat} (hl : 1 <= l.length) : (Jqp l s).1 < l.length := by
 unfold Jqp
 split
 ·exact hl
 split
 ·rename_i i h
  exact List.mem_range.1 (List.mem_of_find?_eq_some h)
 exact hl
def Jrg (t : List Nat) : Nat := ((List.range (t.length + 1)).find? fun i => decide (i ∉ t)).getD 0
theorem Jq3 {t : List Nat} {j : Nat} (h : ∀ i, i < j -> i ∈ t) : j <= t.length := by
 have := List.Nodup.length_le_of_subset (l₁ := List.range j) (l₂ := t) List.nodup_range (fun i hi => h i (List.mem_range.1 hi))
 rwa [List.length_range] at this
theorem Jro {t : List Nat} {j : Nat} (h : ∀ i, i < j -> i ∈ t) (hj : j ∉ t) : Jrg t = j := by
 unfold Jrg
 rw [Jq7 (p := fun i => decide (i ∉ t)) (n := t.length + 1) (i := j) (by have := Jq3 h; omega) (decide_eq_true hj) (fun i hi => decide_eq_false (fun hn : i ∉ t => hn (h i hi)))]
 rfl
def Jqn (x : List (List Rat)) (t : List Nat) : List Rat := x.map fun r => Xs (t.map fun i => x.getD i []) r
def Jqs (x : List (List Rat)) (t : List Nat) (s : Nat) : Nat := if (Jqp (Jqn x t) s).2.1 = true then (Jqp (Jqn x t) s).1 else Jrg t
noncomputable def Jql (x : List (List Rat)) (s : Nat) : Nat -> List Nat × Nat
 | 0 => ([(Dice.below x.length s).1], (Dice.below x.length s).2)
 | i + 1 => ((Jql x s i).1 ++ [Jqs x (Jql x s i).1 (Jql x s i).2], (Jqp (Jqn x (Jql x s i).1) (Jql x s i).2).2.2)
noncomputable def Jqo (x : List (List Rat)) (k s : Nat) : List (List Rat) := (Jql x s (k - 1)).1.map fun i => x.getD i []
theorem Jqq (x : List (List Rat)) (s : Nat) : ∀ i, (Jql x s i).1.length = i + 1
 | 0 => rfl
 | i + 1 => by unfold Jql; rw [List.length_append, Jqq x s i]; rfl
theorem Jsz {t : List Nat} : ∃ j, j <= t.length /\ j ∉ t /\ ∀ i, i < j -> i ∈ t := by
 have : ∀ n, (∃ j, j < n /\ j ∉ t /\ ∀ i, i < j -> i ∈ t) \/ ∀ i, i < n -> i ∈ t := by
  intro n
  induction n with
  | zero => exact .inr fun i hi => absurd hi (by omega)
  | succ n ih =>
   rcases ih with ⟨j, h1, h2, h3⟩ | h
   ·exact .inl ⟨j, by omega, h2, h3⟩
   by_cases hn : n ∈ t
   ·exact .inr fun i hi => by
     by_cases e : i = n
     ·rw [e]; exact hn
     exact h i (by omega)
   exact .inl ⟨n, by omega, hn, h⟩
 rcases this (t.length + 1) with ⟨j, h1, h2, h3⟩ | h
 ·exact ⟨j, by omega, h2, h3⟩
 have := Jq3 h
 omega
theorem Jsp (t : List Nat) : Jrg t <= t.length := by
 obtain ⟨j, h1, h2, h3⟩ := Jsz (t := t)
 rw [Jro h3 h2]
 exact h1
theorem Jrk (x : List (List Rat)) (t : List Nat) : (Jqn x t).length = x.length := by simp [Jqn]
theorem Jq4 {x : List (List Rat)} {t : List Nat} {s : Nat} (h : t.length < x.length) : Jqs x t s < x.length := by
 unfold Jqs
 split
 ·have := Jsl (l := Jqn x t) (s := s) (by rw [Jrk]; omega)
  rwa [Jrk] at this
 have := Jsp t
 omega
theorem Jqx {x : List (List Rat)} {s : Nat} : ∀ i, i < x.length -> ∀ j ∈ (Jql x s i).1, j < x.length
 | 0, h, j, hj => by
  rw [List.mem_singleton.1 hj]
  exact Dice.below_lt x.length s (by omega)
 | i + 1, h, j, hj => by
  unfold Jql at hj
  rcases List.mem_append.1 hj with hj | hj
  ·exact Jqx i (by omega) j hj
  rw [List.mem_singleton.1 hj]
  exact Jq4 (by rw [Jqq]; exact h)
theorem Jrt {l : List Rat} {s : Nat} (hs : s < 18446744073709551616) : (Jqp l s).2.2 < 18446744073709551616 := by
 unfold Jqp
 split
 ·exact hs
 split <;> exact Dice.step_lt s
theorem Jqv {x : List (List Rat)} {s : Nat} (hs : s < 18446744073709551616) (hx : 1 <= x.length) : ∀ i, (Jql x s i).2 < 18446744073709551616
 | 0 => Dice.below_state x.length s hs
 | i + 1 => Jrt (Jqv hs hx i)
theorem Jsh {x : List (List Rat)} {t : List Nat} {c : Nat} (ht : 1 <= t.length) : Jqn x (t ++ [c]) = x.map fun r => if Xk (x.getD c []) r < Xs (t.map fun i => x.getD i []) r then Xk (x.getD c []) r else Xs (t.map fun i => x.getD i []) r := by
 unfold Jqn
 refine List.map_congr_left fun r _ => ?_
 rw [List.map_append]
 exact Jrz (by rw [List.length_map]; exact ht)
def Jsy : Value -> Nat
 | .slice _ n _ => n
 | _ => 0
theorem Js1 {x : List (List Rat)} {t : List Nat} {m wd : Nat} (hm : 1 <= m) (hm2 : m <= 500) (hwd : wd <= 20) (hlx : ∀ l ∈ x, l.length = wd) (hsx : ∀ l ∈ x, ∀ y ∈ l, QS m y) (ht : 1 <= t.length) (o8 : ∀ j ∈ t, j < x.length) : ∀ y ∈ Jqn x t, QS 60000 y := fun y hy => by
 obtain ⟨r, hr, rfl⟩ := List.mem_map.1 hy
 have aQ : ∀ j ∈ t, x.getD j [] ∈ x := fun j hj => by
  rw [List.getD_eq_getElem?_getD, List.getElem?_eq_getElem (o8 j hj)]
  exact List.getElem_mem _
 refine (Jdb (m := m) (wd := wd) hm ?_ (hsx r hr) ?_ (by rw [List.length_map]; omega)).mono ?_
 ·intro l hl
  obtain ⟨j, hj, rfl⟩ := List.mem_map.1 hl
  exact hsx _ (aQ j hj)
 ·intro l hl
  obtain ⟨j, hj, rfl⟩ := List.mem_map.1 hl
  exact hlx _ (aQ j hj)
 have := Nat.mul_le_mul (show wd <= 20 by omega) (show 4 * m + 3 <= 2003 by omega)
 omega
theorem Jsv (x : List (List Rat)) (c : Nat) : Jqn x [c] = x.map fun r => Xk (x.getD c []) r := by
 unfold Jqn
 exact List.map_congr_left fun r _ => Jr9
theorem Jsw (A : Option Addr) (n c B : Nat) (t : List Nat) (g : Nat) (w : World) (h : Reads w B 1 A n (t.map iv)) (hB : B <= w.heap.size) (hn : n <= 1000) :
  Calls Tryz.prog 107 #[.slice A n c, .int .i64 (g : Int)] w fun e w' => e = .returned (.bool (decide (g ∈ t))) /\ w = w' := by
 have HLN := lh (show t.length = n by have := h.1; simpa using this)
 have H := lh h
 clear h
 go_enter Tryz.func107, Tryz.ntmps107
 go_wp2_with fail
 go_loopw [5] (fun p wr => ∃ k : Nat, k <= n /\ p = .int .i64 (k : Int) /\ w = wr /\ Hid (∀ i, i < k -> t[i]? ≠ some g)) (fun p _ => n - (intOf p).toNat)
 case atStart => exact ⟨0, by omega, rfl, rfl, lh (fun i hi => absurd hi (by omega))⟩
 case round =>
  obtain ⟨k, hk, rfl, rfl, aI⟩ := hrel
  by_cases bW : k < n
  ·have k1 : (k : Int) < (n : Int) := by omega
   obtain ⟨ad, go, oo, i, rfl, kD, kE, aR, b1⟩ := Reads.at1m H.out bW
   unfold iv at b1
   obtain ⟨x0, -⟩ := b1.c2
   by_cases eY : i = g
   ·subst eY
    have q1 : ((i : Int) == (i : Int)) = true := by simp
    have HE : Hid (decide (i ∈ t) = true) := lh (decide_eq_true (List.mem_of_getElem? aR))
    clear aR aI b1
    go_wp2
    go_ret
    exact ⟨by rw [HE.out]; rfl, rfl⟩
   have q1 : ((i : Int) == (g : Int)) = false := by simp; omega
   have q2 : ¬ (i : Int) = (g : Int) := by omega
   have bJ : Hid (∀ j, j < k + 1 -> t[j]? ≠ some g) := lh fun j hj => by
    by_cases e : j = k
    ·rw [e, aR]; exact fun h => eY (Option.some.inj h)
    exact aI.out j (by omega)
   clear aR aI b1
   go_wp2
   exact ⟨⟨k + 1, by omega, by go_num, by first | rfl | trivial, bJ⟩, by simp [intOf]; omega⟩
  obtain rfl : k = n := by omega
  have k1 : ¬ (k : Int) < (k : Int) := by omega
  have HE : Hid (decide (g ∈ t) = false) := lh (decide_eq_false fun hm => by
   obtain ⟨j, hj, e⟩ := List.mem_iff_getElem.1 hm
   exact aI.out j (by have := HLN.out; omega) (by rw [List.getElem?_eq_getElem hj, e]))
  clear aI
  go_wp2
  go_ret
  exact ⟨by rw [HE.out]; rfl, rfl⟩
structure SDD (w0 : World) (B b wd : Nat) (x : List (List Rat)) (s : Nat) (t : List Nat) (vt vm : Value) (wr : World) : Prop where
 bel : Below B w0 wr
 dice : Blk wr b 106 #[.int .u64 (s : Int)]
 taken : Own wr 3 iv vt t
 rows : ∃ rl, Own wr 42 SW.v vm rl /\ rl.length = t.length /\ ∀ (i : Nat) (r : SW) (j : Nat), rl[i]? = some r -> t[i]? = some j -> ∃ l, x[j]? = some l /\ r.n = wd /\ ReadsR w0 B r.A wd l
 ft : ∀ k, vt.ownBlock = some k -> B <= k
 fm : ∀ k, vm.ownBlock = some k -> B <= k
 hb : B <= b
section
variable {w0 wr wr' : World} {B b wd s s' : Nat} {x : List (List Rat)} {t : List Nat} {vt vm : Value}
theorem SDD.next (h : SDD w0 B b wd x s t vt vm wr) (hb : Below wr.heap.size wr wr') (hB : B <= w0.heap.size) : SDD w0 B b wd x s t vt vm wr' := by
 obtain ⟨rl, h1, h2, h3⟩ := h.rows
 exact ⟨h.bel.trans (hb.mono (nt hB h.bel.size)), h.dice.below hb h.dice.lt, h.taken.below hb h.taken.lt, ⟨rl, h1.below hb h1.lt, h2, h3⟩, h.ft, h.fm, h.hb⟩
theorem Own.ne_dice {α : Type} {e T : TypeId} {f : α -> Value} {v : Value} {l : List α} {w : World} {g : Nat} {cs : Array Value} (h : Own w e f v l) (hd : Blk w g T cs) (hT : T ≠ e) : v.ownBlock ≠ some g := fun he => by
 obtain ⟨cs', fr', k3⟩ := Own.blk h he
 have k4 := hd
 rw [Blk, k3] at k4
 injection k4 with k4
 injection k4 with _ k4 _
 exact hT k4.symm
theorem SDD.roll (h : SDD w0 B b wd x s t vt vm wr) (he : Exc b wr wr') (hd : Blk wr' b 106 #[.int .u64 (s' : Int)]) (hB : B <= w0.heap.size) : SDD w0 B b wd x s' t vt vm wr' := by
 obtain ⟨rl, h1, h2, h3⟩ := h.rows
 have nB := h.hb
 refine ⟨h.bel.trans ⟨he.os, he.tape, he.output, he.size, fun k hk => he.block k (Nat.lt_of_lt_of_le hk (nt hB h.bel.size)) (by omega)⟩, hd, h.taken.exc he (Own.ne_dice h.taken h.dice (by decide)), ⟨rl, h1.exc he (Own.ne_dice h1 h.dice (by decide)), h2, h3⟩, h.ft, h.fm, h.hb⟩
theorem SDD.centers (h : SDD w0 B b wd x s t vt vm wr) (hB : B <= w0.heap.size) : ∃ A c, vm = .slice A t.length c /\ Zx wr wr.heap.size A t.length (t.map fun i => x.getD i []) := by
 obtain ⟨rl, h1, h2, h3⟩ := h.rows
 obtain ⟨A, c, hv, -, -⟩ := Own.form h1
 rw [h2] at hv
 subst hv
 have hr := Own.reads h1
 rw [h2] at hr
 refine ⟨A, c, rfl, rl, hr, by rw [h2, List.length_map], fun i r l hi hl => ?_⟩
 rw [List.getElem?_map] at hl
 cases ht : t[i]? with
 | none => rw [ht] at hl; cases hl
 | some j =>
  rw [ht] at hl
  obtain ⟨l', hx, hn, aN⟩ := h3 i r j hi ht
  have e : x.getD j [] = l' := by rw [List.getD_eq_getElem?_getD, hx]; rfl
  obtain rfl : l' = l := by rw [<- e]; exact Option.some.inj hl
  rw [hn]
  exact (aN.below h.bel).more (nt hB h.bel.size)
end
theorem Jsi {b s : Nat} {l : List Rat} {w w' : World} {e : Ending} (h : Jrh b s l w e w') (hd : Blk w b 106 #[.int .u64 (s : Int)]) : e = .returned (.tuple #[.int .i64 ((Jqp l s).1 : Int), .bool (Jqp l s).2.1]) /\ Exc b w w' /\ Blk w' b 106 #[.int .u64 ((Jqp l s).2.2 : Int)] := by
 rcases h with ⟨h1, rfl, h2⟩ | ⟨h1, h2, i, ok, h3, rfl, h4, h5⟩
 ·rw [Jrd h1]
  exact ⟨rfl, Exc.of h2, hd.below h2 hd.lt⟩
 rw [Jre h1 h2 h3]
 exact ⟨rfl, h4, h5⟩
theorem Jr8 (A : Option Addr) (n c wd B b m k s : Nat) (x : List (List Rat)) (w : World) (h : Zx w B A n x) (hd : Blk w b 106 #[.int .u64 (s : Int)]) (hB : B <= w.heap.size) (hb : B <= b) (hs : s < 18446744073709551616) (hk : 1 <= k) (bW : k <= n) (hn : n <= 300) (hwd : wd <= 20) (hlx : ∀ l ∈ x, l.length = wd) (hm : 1 <= m) (hm2 : m <= 500) (hsx : ∀ l ∈ x, ∀ y ∈ l, QS m y) :
  Calls Tryz.prog 56 #[.slice A n c, .int .i64 (k : Int), .pointer (some ⟨b, 0, none⟩)] w fun e w' => ∃ A c, e = .returned (.slice A k c) /\ Zx w' w'.heap.size A k (Jqo x k s) /\ Below B w w' := by
 have bK := h.len
 have H := lh h
 have HX := lh hlx
 have HS := lh hsx
 have HXL := lh bK
 have HBE := lh (Jsk b s n w hs (by omega) (by omega) hd)
 have HST := lh (Jqv (x := x) hs (by omega))
 have HLT := lh (fun i (hi : i < n) => Jqx (x := x) (s := s) i (by omega))
 have HLN := lh (Jqq x s)
 have iD : (Dice.below n s).1 < n := Dice.below_lt n s (by omega)
 obtain ⟨fi, bZ⟩ : ∃ fi, (Dice.below n s).1 = fi := ⟨_, rfl⟩
 obtain ⟨s1, aX⟩ : ∃ s1, (Dice.below n s).2 = s1 := ⟨_, rfl⟩
 rw [bZ, aX] at HBE
 rw [bZ] at iD
 have HF0 : Hid (Jql x s 0 = ([fi], s1)) := lh (by show ([(Dice.below x.length s).1], (Dice.below x.length s).2) = _; rw [bK, bZ, aX])
 obtain ⟨l0, gC⟩ : ∃ l, x[fi]? = some l := ⟨_, List.getElem?_eq_getElem (by omega)⟩
 obtain ⟨ad0, A1, m1, c1, rfl, o8, cM, aZ⟩ := h.at_ gC
 have mC : m1 = wd := by rw [<- aZ.len]; exact hlx l0 (List.mem_of_getElem? gC)
 subst mC
 obtain ⟨gx, ox, iE, eZ⟩ := Xy cM
 rw [iE] at cM
 have k1 : (fi : Int) < (n : Int) := by omega
 have aM : gx < B := by rw [eZ]; exact o8
 have iF := lh (And.intro gC aZ)
 have cI := lh (hd.set_ 0 (.int .u64 (s1 : Int)))
 have HBB := lh hB
 clear h hlx hsx bK hd bZ aX gC aZ o8 eZ
 go_enter Tryz.func56, Tryz.ntmps56
 go_wp2_with fail
 refine HBE.out.mono ?_
 rintro e w1 ⟨rfl, rfl⟩
 have x8 : Exc b w (w.setCell ⟨b, 0, none⟩ (.int .u64 (s1 : Int))) := (Exc.refl _ _).set_ _ _
 have dG : Below B w (w.setCell ⟨b, 0, none⟩ (.int .u64 (s1 : Int))) := (Below.refl _ _).setCell hb _
 have dH := dG.cell (p := ⟨gx, ox, none⟩) aM
 rw [cM] at dH
 have eE : Blk (w.setCell ⟨b, 0, none⟩ (.int .u64 (s1 : Int))) b 106 #[.int .u64 (s1 : Int)] := by simpa using cI.out
 have HW1 := lh (And.intro dG eE)
 have dI : (w.setCell ⟨b, 0, none⟩ (.int .u64 (s1 : Int))).heap.size = w.heap.size := by simp
 clear cM cI x8 dG eE HBE
 generalize w.setCell ⟨b, 0, none⟩ (.int .u64 (s1 : Int)) = w1 at *
 have aJ : Own (w1.alloc (.cells #[.int .i64 (fi : Int)] 3)) 3 iv (.slice (some ⟨w1.heap.size, 0, none⟩) 1 1) [fi] := Own.lit w1 3 iv [fi] (by unfold maxLen; simp)
 have kF : Own ((w1.alloc (.cells #[.int .i64 (fi : Int)] 3)).alloc (.cells #[.slice A1 m1 c1] 42)) 42 SW.v (.slice (some ⟨w1.heap.size + 1, 0, none⟩) 1 1) [(⟨A1, m1, c1⟩ : SW)] := by
  have := Own.lit (w1.alloc (.cells #[.int .i64 (fi : Int)] 3)) 42 SW.v [(⟨A1, m1, c1⟩ : SW)] (by unfold maxLen; simp)
  rw [World.size_alloc] at this
  exact this
 have p7 := Jj w1 (.cells #[.int .i64 (fi : Int)] 3) (.cells #[.slice A1 m1 c1] 42)
 have HI : Hid (SDD w B b m1 x (Jql x s 0).2 (Jql x s 0).1 (.slice (some ⟨w1.heap.size, 0, none⟩) 1 1) (.slice (some ⟨w1.heap.size + 1, 0, none⟩) 1 1) ((w1.alloc (.cells #[.int .i64 (fi : Int)] 3)).alloc (.cells #[.slice A1 m1 c1] 42))) := lh (by
  rw [HF0.out]
  refine ⟨HW1.out.1.trans (p7.mono (by omega)), HW1.out.2.below p7 HW1.out.2.lt, Own.alloc aJ _, ⟨_, kF, rfl, fun i r j hr hj => ?_⟩, fun k hk => ?_, fun k hk => ?_, hb⟩
  ·cases i with
   | zero =>
    obtain rfl := Option.some.inj hr
    obtain rfl := Option.some.inj hj
    exact ⟨l0, iF.out.1, rfl, iF.out.2⟩
   | succ i => cases hr
  ·have e : w1.heap.size = k := by simpa [Value.ownBlock] using hk
   omega
  have e : w1.heap.size + 1 = k := by simpa [Value.ownBlock] using hk
  omega)
 have fT := (Jb w1 (.cells #[.int .i64 (fi : Int)] 3)).cell (p := ⟨gx, ox, none⟩) (show gx < w1.heap.size by have := HBB.out; omega)
 rw [dH] at fT
 clear aJ kF p7 HW1 HF0 dI
 go_wp2_with fail
 go_loopw [8, 9] (fun vt vm wr => ∃ (i : Nat) (A8 : Option Addr) (c8 : Nat) (A9 : Option Addr) (c9 : Nat), i + 1 <= k /\ vt = .slice A8 (i + 1) c8 /\ vm = .slice A9 (i + 1) c9 /\ SDD w B b m1 x (Jql x s i).2 (Jql x s i).1 (.slice A8 (i + 1) c8) (.slice A9 (i + 1) c9) wr) (fun _ vm _ => k - Jsy vm)
 case atStart => exact ⟨0, _, _, _, _, hk, rfl, rfl, HI.out⟩
 case round =>
  obtain ⟨i, A8, c8, A9, c9, hi, rfl, rfl, bT⟩ := hrel
  rename World => wr
  clear HI dH iF fT
  obtain ⟨i1, bL⟩ : ∃ i1, i + 1 = i1 := ⟨_, rfl⟩
  have y9 := HLN.out i
  have o8 := HLT.out i (by omega)
  have aA := HST.out i
  have q9 : Jql x s i1 = ((Jql x s i).1 ++ [Jqs x (Jql x s i).1 (Jql x s i).2], (Jqp (Jqn x (Jql x s i).1) (Jql x s i).2).2.2) := by rw [<- bL]; rfl
  rw [bL] at bT y9 hi ⊢
  by_cases iG : i1 < k
  ·have e1 : (i1 : Int) < (k : Int) := by omega
   obtain ⟨t, ht⟩ : ∃ t, (Jql x s i).1 = t := ⟨_, rfl⟩
   obtain ⟨s', dJ⟩ : ∃ s', (Jql x s i).2 = s' := ⟨_, rfl⟩
   rw [ht, dJ] at bT q9
   rw [ht] at y9 o8
   rw [dJ] at aA
   have cA : Jqs x t s' < n := by rw [<- HXL.out]; exact Jq4 (by have := HXL.out; omega)
   have eF : ∀ y ∈ Jqn x t, QS 60000 y := fun y hy => by
    obtain ⟨r, hr, rfl⟩ := List.mem_map.1 hy
    refine (Jdb (m := m) (wd := m1) hm ?_ (HS.out r hr) ?_ (by rw [List.length_map]; omega)).mono ?_
    ·intro l hl
     obtain ⟨j, hj, rfl⟩ := List.mem_map.1 hl
     exact HS.out _ (by rw [List.getD_eq_getElem?_getD, List.getElem?_eq_getElem (by have := o8 j hj; omega)]; exact List.getElem_mem _)
    ·intro l hl
     obtain ⟨j, hj, rfl⟩ := List.mem_map.1 hl
     exact HX.out _ (by rw [List.getD_eq_getElem?_getD, List.getElem?_eq_getElem (by have := o8 j hj; omega)]; exact List.getElem_mem _)
    have := Nat.mul_le_mul (show m1 <= 20 by omega) (show 4 * m + 3 <= 2003 by omega)
    omega
   have HSD := lh bT
   have HNX := lh (And.intro q9 (And.intro cA bL))
   have HT := lh (And.intro y9 (And.intro o8 aA))
   have HWQ := lh eF
   clear bT q9 cA y9 o8 aA eF ht dJ bL
   have iH : 1 <= i1 := by have := HNX.out.2.2; omega
   obtain ⟨A', c', hv, aN⟩ := HSD.out.centers HBB.out
   rw [HT.out.1] at hv aN
   injection hv with e2 e3 e4
   rw [<- e2] at aN
   have aL : ∀ l ∈ t.map (fun i => x.getD i []), l ∈ x := fun l hl => by
    obtain ⟨j, hj, rfl⟩ := List.mem_map.1 hl
    rw [List.getD_eq_getElem?_getD, List.getElem?_eq_getElem (by have := HT.out.2.1 j hj; have := HXL.out; omega)]
    exact List.getElem_mem _
   have HNR := lh (fun w' (hb : Below wr.heap.size wr w') (Aj : Option Addr) (cj : Nat) (l : List Rat) (hl : l ∈ x) (hr : ReadsR w B Aj m1 l) => Jcv A9 Aj i1 c9 m1 cj wr.heap.size m (t.map fun i => x.getD i []) l w' (aN.below Xf hb) (((hr.below HSD.out.bel).more (nt HBB.out HSD.out.bel.size)).below hb) hb.size (by omega) (by omega) (by omega) (fun l hl => HX.out l (aL l hl)) hm (by omega) (fun l hl => HS.out l (aL l hl)) (HS.out l hl))
   have HWL := lh (show (Jqn x t).length = n by rw [Jrk]; exact HXL.out)
   clear aN e2 e3 e4 aL
   go_upto_block 2 with fail
   go_cut [10] (fun v wc => ∃ A10 c10, v = .slice A10 n c10 /\ OwnR wc (.slice A10 n c10) (Jqn x t) /\ Below wr.heap.size wr wc)
   case first =>
    go_wp2_with fail
    go_loopw [10, 11] (fun v p wi => ∃ j : Nat, j <= n /\ p = .int .i64 (j : Int) /\ OwnR wi v ((Jqn x t).take j) /\ (∀ b, v.ownBlock = some b -> wr.heap.size <= b) /\ Below wr.heap.size wr wi) (fun _ p _ => n - (intOf p).toNat)
    case atStart => exact ⟨0, by omega, rfl, OwnR.nil _, (fun b h => by cases h), Below.refl _ _⟩
    case round =>
     obtain ⟨j, hj, rfl, ho, iI, eG⟩ := hrel
     rename World => wi
     by_cases gD : j < n
     ·have k2 : (j : Int) < (n : Int) := by omega
      obtain ⟨l, hl⟩ : ∃ l, x[j]? = some l := ⟨_, List.getElem?_eq_getElem (by have := HXL.out; omega)⟩
      obtain ⟨ad, Aj, mj, cj, hA, j7, x9, p8⟩ := H.out.at_ hl
      obtain rfl := Option.some.inj hA
      obtain rfl : mj = m1 := by rw [<- p8.len]; exact HX.out l (List.mem_of_getElem? hl)
      have dK := Xq ((HSD.out.bel.trans (eG.mono (nt HBB.out HSD.out.bel.size)))) x9 j7
      have fA := HNR.out wi eG Aj cj l (List.mem_of_getElem? hl) p8
      have dL : (Jqn x t).take (j + 1) = (Jqn x t).take j ++ [Xs (t.map fun i => x.getD i []) l] := by
       rw [List.take_add_one]
       unfold Jqn
       rw [List.getElem?_map, hl]
       rfl
      generalize Qk (t.map fun i => x.getD i []) l = ni at *
      generalize Xs (t.map fun i => x.getD i []) l = q at *
      have HN := lh fA
      have HSN := lh dL
      have HO := lh ho
      have HFR := lh iI
      have HBI := lh eG
      have HLK := lh (show ((Jqn x t).take j).length <= 1000000 by rw [List.length_take]; omega)
      clear fA dL ho iI eG hl x9 p8 j7 hA
      go_upto_region 9 with fail
      go_cut [13] (fun u wc => Jf4 wi q u wc)
      case first =>
       go_wp2_with fail
       refine HN.out.mono ?_
       rintro e w2 ⟨V, rfl, hR, x7⟩
       obtain ⟨g9, A7, l7, c7, A7', l7', c7', rfl⟩ := hR.shape
       go_wp2
       go_meet
       exact Jcs x7 hR
      case rest =>
       obtain ⟨g7, ng, A7, l7, d7, A7', l7', d7', rfl, iJ, b7, kG, aG⟩ := hcut
       rename World => wa
       have HQ7 := lh kG
       have HOA := lh (HO.out.next aG)
       have HBA := lh (HBI.out.trans (aG.mono HBI.out.size))
       obtain ⟨y0, y1, y2⟩ := b7.c3
       clear b7 kG aG dK HN HO HBI
       go_wp2_with (at_builtin; refine Joo rfl (.tmp 46) (.tmp 48) rfl wa _ ((Jqn x t).take j) q ng A7 l7 d7 A7' l7' d7' rfl HOA.out HQ7.out rfl HLK.out ?_; intro v' w2 gE cO)
       have fB := HBA.out.trans (cO.below HBA.out.size HFR.out)
       have iK := cO.fresh HBA.out.size HFR.out
       rw [<- HSN.out] at gE
       exact ⟨⟨j + 1, by omega, by go_num, gE, iK, fB⟩, by simp [intOf]; omega⟩
     obtain rfl : j = n := by omega
     have k2 : ¬ (j : Int) < (j : Int) := by omega
     rw [List.take_of_length_le (by rw [HWL.out]; omega)] at ho
     obtain ⟨Az, cz, kH, -, -⟩ := OwnR.form ho
     rw [HWL.out] at kH
     subst kH
     have HO := lh ho
     have HBI := lh eG
     clear ho iI eG
     go_wp2
     go_meet
     exact ⟨Az, cz, rfl, HO.out, HBI.out⟩
   case rest =>
    obtain ⟨A10, c10, rfl, fC, fD⟩ := hcut
    rename World => wb
    have aX := HSD.out.next fD HBB.out
    have dM := OwnR.reads fC
    rw [HWL.out] at dM
    have HPK := lh ((Jsx b s' A10 n c10 wb.heap.size 60000 (Jqn x t) wb HT.out.2.2 aX.dice dM zd (by omega) (by omega) HWQ.out).mono (fun e w' h => Jsi h aX.dice))
    have HS1 := lh aX
    clear aX dM fC fD HSD HNR
    go_wp2_with fail
    refine HPK.out.mono ?_
    rintro e w2 ⟨rfl, x8, cI⟩
    have HS2 := lh (HS1.out.roll x8 cI HBB.out)
    obtain ⟨pi, dO⟩ : ∃ p, (Jqp (Jqn x t) s').1 = p := ⟨_, rfl⟩
    obtain ⟨po, dP⟩ : ∃ p, (Jqp (Jqn x t) s').2.1 = p := ⟨_, rfl⟩
    have bM : Jqs x t s' = if po = true then pi else Jrg t := by unfold Jqs; rw [dO, dP]
    rw [dO, dP]
    clear x8 cI HPK HS1 dO dP
    go_upto_if 57 with fail
    go_cut [14] (fun u wc => u = .int .i64 (Jqs x t s' : Int) /\ w2 = wc)
    case first =>
     cases po with
     | true =>
      have HE := lh (bM.trans (if_pos rfl))
      clear bM
      go_wp2
      go_meet
      exact ⟨by rw [HE.out], rfl⟩
     | false =>
      have HE := lh (bM.trans (if_neg (by simp)))
      clear bM
      obtain ⟨A8', c8', mD, -, -⟩ := HS2.out.taken.form
      have bN := HS2.out.taken.reads
      rw [HT.out.1] at bN
      have HHS := lh (fun (g : Nat) => Jsw A8 i1 c8 w2.heap.size t g w2 bN zd (by omega))
      clear mD bN
      go_wp2_with fail
      go_loopw [14] (fun u wr => ∃ j : Nat, u = .int .i64 (j : Int) /\ w2 = wr /\ j <= i1 /\ Hid (∀ i, i < j -> i ∈ t)) (fun u _ => i1 + 1 - (intOf u).toNat)
      case atStart => exact ⟨0, rfl, rfl, by omega, lh (fun i hi => absurd hi (by omega))⟩
      case round =>
       obtain ⟨j, rfl, rfl, hj, j6⟩ := hrel
       have aB := HHS.out j
       by_cases aS : j ∈ t
       ·rw [decide_eq_true aS] at aB
        have bO : Hid (∀ i, i < j + 1 -> i ∈ t) := lh fun i hi => by
         by_cases e : i = j
         ·rw [e]; exact aS
         exact j6.out i (by omega)
        have iL : j + 1 <= i1 := by
         have := Jq3 bO.out
         rw [HT.out.1] at this
         exact this
        have HCA := lh aB
        clear aB j6 aS
        go_wp2_with fail
        refine HCA.out.mono ?_
        rintro e w3 ⟨rfl, rfl⟩
        go_wp2
        go_roundw
        case rel =>
         (repeat apply Exists.intro)
         exact ⟨⟨j + 1, by go_num, by first | rfl | trivial, iL, bO⟩, rfl⟩
        case measure => simp [intOf]; omega
       rw [decide_eq_false aS] at aB
       have HF := lh (HE.out.trans (Jro j6.out aS))
       have HCA := lh aB
       clear aB j6 aS
       go_wp2_with fail
       refine HCA.out.mono ?_
       rintro e w3 ⟨rfl, rfl⟩
       go_wp2
       go_meet
       exact ⟨by rw [HF.out], rfl⟩
    case rest =>
     obtain ⟨rfl, rfl⟩ := hcut
     clear bM
     obtain ⟨nx, q9⟩ : ∃ nx, Jqs x t s' = nx := ⟨_, rfl⟩
     have aU := HNX.out.1
     have cA := HNX.out.2.1
     rw [q9] at aU cA ⊢
     clear q9
     obtain ⟨l, hl⟩ : ∃ l, x[nx]? = some l := ⟨_, List.getElem?_eq_getElem (by have := HXL.out; omega)⟩
     obtain ⟨ad, Aj, mj, cj, hA, j7, x9, p8⟩ := H.out.at_ hl
     obtain rfl := Option.some.inj hA
     obtain rfl : mj = m1 := by rw [<- p8.len]; exact HX.out l (List.mem_of_getElem? hl)
     obtain ⟨rl, kI, dQ, fE⟩ := HS2.out.rows
     have e5 : (nx : Int) < (n : Int) := by omega
     have HNN := lh aU
     have HRW := lh (And.intro hl p8)
     have HM := lh (And.intro kI (And.intro dQ fE))
     have cJ : rl.length = i1 := by rw [dQ]; exact HT.out.1
     have HRL := lh cJ
     have HTL := lh (show t.length = i1 from HT.out.1)
     have HC := lh (And.intro x9 j7)
     clear aU kI dQ fE cJ hl p8 x9 j7 hA
     go_wp2_with (at_builtin; first | (refine Jmt (f := iv) Tryz.eltIntR rfl (.tmp 63) (.tmp 65) rfl w2 _ t nx (.int .i64 (nx : Int)) rfl rfl HS2.out.taken (by simp [Act.eval]) rfl (by have := HTL.out; unfold maxLen; omega) (by have := HTL.out; omega) ?_; intro v3 w3 aY cK; have aF := HS2.out.bel.trans (cK.below (nt HBB.out HS2.out.bel.size) HS2.out.ft); have nC := Xq aF HC.out.1 HC.out.2; have fE := HM.out.1.kept cK (fun k hv hr => by obtain ⟨cs', fr', z3⟩ := Own.blk HM.out.1 hv; obtain ⟨cs'', fr'', z4⟩ := Own.blk HS2.out.taken hr; rw [z3] at z4; injection z4 with z4; injection z4 with _ z4 _; exact absurd z4 (by decide)); have kJ := cK.fresh (nt HBB.out HS2.out.bel.size) HS2.out.ft; have cP : Blk w3 b 106 #[.int .u64 ((Jqp (Jqn x t) s').2.2 : Int)] := (cK.block b HS2.out.dice.lt (fun e => Own.ne_dice HS2.out.taken HS2.out.dice (by decide) e.symm)).trans HS2.out.dice; have HO3 := lh aY; have HB3 := lh aF; have HM3 := lh fE; have HFT := lh kJ; have HD3 := lh cP; clear aY cK aF fE kJ cP) | (refine Jmt (f := SW.v) Tryz.eltM rfl (.tmp 67) (.tmp 72) rfl w3 _ rl ⟨Aj, mj, cj⟩ (.slice Aj mj cj) rfl rfl HM3.out (by simp [Act.eval]) rfl (by have := HRL.out; unfold maxLen; omega) (by have := HRL.out; omega) ?_; intro v4 w4 cB fF; have aK := HB3.out.trans (fF.below (nt HBB.out HB3.out.size) HS2.out.fm); have kK := fF.fresh (nt HBB.out HB3.out.size) HS2.out.fm; have aY := HO3.out.kept fF (fun k hv hr => by obtain ⟨cs', fr', z3⟩ := Own.blk HO3.out hv; obtain ⟨cs'', fr'', z4⟩ := Own.blk HM3.out hr; rw [z3] at z4; injection z4 with z4; injection z4 with _ z4 _; exact absurd z4 (by decide)); have kL : Blk w4 b 106 #[.int .u64 ((Jqp (Jqn x t) s').2.2 : Int)] := (fF.block b HD3.out.lt (fun e => Own.ne_dice HM3.out HD3.out (by decide) e.symm)).trans HD3.out; have HO4 := lh cB; have HB4 := lh aK; have HO3' := lh aY; have HFM := lh kK; have HD4 := lh kL; clear aY fF aK cB kK kL))
     obtain ⟨B1, d1, bC, -, -⟩ := HO3'.out.form
     obtain ⟨B2, d2, eQ, -, -⟩ := HO4.out.form
     rw [List.length_append, HTL.out] at bC
     rw [List.length_append, HRL.out] at eQ
     have dR : v3 = .slice B1 (i1 + 1) d1 := bC
     have iM : v4 = .slice B2 (i1 + 1) d2 := eQ
     clear bC eQ
     subst dR iM
     refine ⟨⟨i1, B1, d1, B2, d2, by omega, rfl, rfl, ?_⟩, ?_⟩
     ·rw [HNN.out]
      refine ⟨HB4.out, HD4.out, HO3'.out, ⟨_, HO4.out, by rw [List.length_append, List.length_append, HRL.out, HTL.out]; rfl, fun i r j hr hj => ?_⟩, HFT.out, HFM.out, hb⟩
      by_cases hi : i < i1
      ·rw [List.getElem?_append_left (by rw [HRL.out]; exact hi)] at hr
       rw [List.getElem?_append_left (by rw [HTL.out]; exact hi)] at hj
       exact HM.out.2.2 i r j hr hj
      have mE : i = i1 := by
       have := (List.getElem?_eq_some_iff.1 hr).1
       rw [List.length_append, HRL.out] at this
       simp at this
       omega
      subst mE
      rw [List.getElem?_append_right (by rw [HRL.out]; exact Nat.le_refl _), HRL.out, Nat.sub_self] at hr
      rw [List.getElem?_append_right (by rw [HTL.out]; exact Nat.le_refl _), HTL.out, Nat.sub_self] at hj
      obtain rfl := Option.some.inj hr
      obtain rfl := Option.some.inj hj
      exact ⟨l, HRW.out.1, rfl, HRW.out.2⟩
     simp [Jsy]
     omega
  obtain rfl : i1 = k := by omega
  have e1 : ¬ (i1 : Int) < (i1 : Int) := by omega
  obtain ⟨A', c', hv, aN⟩ := bT.centers HBB.out
  rw [y9] at hv aN
  injection hv with e2 e3 e4
  subst e2
  have HZ : Hid (Zx wr wr.heap.size A9 i1 (Jqo x i1 s) /\ Below B w wr) := lh ⟨by unfold Jqo; rw [show i1 - 1 = i by omega]; exact aN, bT.bel⟩
  clear bT y9 o8 aA q9 aN e3 e4 bL
  go_wp2
  go_ret
  exact ⟨A9, ⟨c9, rfl⟩, HZ.out.1, HZ.out.2⟩
theorem Jr0 (A : Option Addr) (n c B : Nat) (t : List Nat) (g : Nat) (w : World) (h : Reads w B 1 A n (t.map iv)) (hB : B <= w.heap.size) (hn : n <= 1000) :
  Calls Tryz.prog 142 #[.slice A n c, .int .i64 (g : Int)] w fun e w' => ∃ z : Int, e = .returned (.int .i64 z) /\ (0 <= z ↔ g ∈ t) /\ w = w' := by
 have HLN := lh (show t.length = n by have := h.1; simpa using this)
 have H := lh h
 clear h
 go_enter Tryz.func142, Tryz.ntmps142
 go_wp2_with fail
 go_loopw [8] (fun p wr => ∃ k : Nat, k <= n /\ p = .int .i64 (k : Int) /\ w = wr /\ Hid (∀ i, i < k -> t[i]? ≠ some g)) (fun p _ => n - (intOf p).toNat)
 case atStart => exact ⟨0, by omega, rfl, rfl, lh (fun i hi => absurd hi (by omega))⟩
 case round =>
  obtain ⟨k, hk, rfl, rfl, aI⟩ := hrel
  by_cases bW : k < n
  ·have k1 : (k : Int) < (n : Int) := by omega
   have k2 : ¬ (n : Int) <= (k : Int) := by omega
   obtain ⟨ad, go, oo, i, rfl, kD, kE, aR, b1⟩ := Reads.at1m H.out bW
   unfold iv at b1
   obtain ⟨x0, -⟩ := b1.c2
   by_cases eY : g = i
   ·subst eY
    have q1 : ((g : Int) == (g : Int)) = true := by simp
    have HE : Hid (0 <= (k : Int) ↔ g ∈ t) := lh ⟨fun _ => List.mem_of_getElem? aR, fun _ => by omega⟩
    clear aR aI b1
    go_wp2
    go_ret
    exact ⟨_, rfl, HE.out, rfl⟩
   have q1 : ((g : Int) == (i : Int)) = false := by simp; omega
   have q2 : ¬ (g : Int) = (i : Int) := by omega
   have bJ : Hid (∀ j, j < k + 1 -> t[j]? ≠ some g) := lh fun j hj => by
    by_cases e : j = k
    ·rw [e, aR]; exact fun h => eY (Option.some.inj h).symm
    exact aI.out j (by omega)
   clear aR aI b1
   go_wp2
   exact ⟨⟨k + 1, by omega, by go_num, by first | rfl | trivial, bJ⟩, by simp [intOf]; omega⟩
  obtain rfl : k = n := by omega
  have k1 : ¬ (k : Int) < (k : Int) := by omega
  have k2 : (k : Int) <= (k : Int) := by omega
  have HE : Hid (0 <= (-1 : Int) ↔ g ∈ t) := lh ⟨fun h => absurd h (by omega), fun hm => by
   obtain ⟨j, hj, e⟩ := List.mem_iff_getElem.1 hm
   exact absurd (by rw [List.getElem?_eq_getElem hj, e]) (aI.out j (by have := HLN.out; omega))⟩
  clear aI
  go_wp2
  go_ret
  exact ⟨_, rfl, HE.out, rfl⟩
theorem Jrc (A : Option Addr) (n c B : Nat) (t : List Nat) (g : Nat) (w : World) (h : Reads w B 1 A n (t.map iv)) (hB : B <= w.heap.size) (hn : n <= 1000) :
  Calls Tryz.prog 102 #[.slice A n c, .int .i64 (g : Int)] w fun e w' => e = .returned (.bool (decide (g ∈ t))) /\ w = w' := by
 have HI := lh (Jr0 A n c B t g w h hB hn)
 clear h hB
 go_enter Tryz.func102, Tryz.ntmps102
 go_wp2_with fail
 refine HI.out.mono ?_
 rintro e w1 ⟨z, rfl, hz, rfl⟩
 have HZ := lh hz
 clear hz
 go_wp2
 go_ret
 exact ⟨by rw [show decide (g ∈ t) = decide (0 <= z) from decide_eq_decide.2 HZ.out.symm]; rfl, rfl⟩
theorem Jr2 {b s : Nat} {l : List Rat} {w w' : World} {e : Ending} (h : Jra b s l w e w') (hd : Blk w b 156 #[.int .u64 (s : Int)]) : e = .returned (.tuple #[.int .i64 ((Jqp l s).1 : Int), .bool (Jqp l s).2.1]) /\ Exc b w w' /\ Blk w' b 156 #[.int .u64 ((Jqp l s).2.2 : Int)] := by
 rcases h with ⟨h1, rfl, h2⟩ | ⟨h1, h2, i, ok, h3, rfl, h4, h5⟩
 ·rw [Jrd h1]
  exact ⟨rfl, Exc.of h2, hd.below h2 hd.lt⟩
 rw [Jre h1 h2 h3]
 exact ⟨rfl, ⟨h4.os, h4.tape, h4.output, h4.size, h4.block⟩, h5⟩
structure SG (w0 : World) (B b gl n : Nat) (s : Nat) (t : List Nat) (ws : List Rat) (vt : Value) (wr : World) : Prop where
 bel : Below B w0 wr
 res : Blk wr w0.heap.size 30 #[.slice none 0 0]
 dice : Blk wr b 156 #[.int .u64 (s : Int)]
 taken : Own wr 3 iv vt t
 wts : OwnQ wr (.slice (some ⟨gl, 0, none⟩) n n) ws
 ft : ∀ k, vt.ownBlock = some k -> B <= k
 hb : B <= b
 hgl : B <= gl
section
variable {w0 wr wr' : World} {B b gl n s s' : Nat} {t t' : List Nat} {ws : List Rat} {vt vt' : Value}
theorem Jsu {w : World} {g g' : Nat} {T T' : TypeId} {cs cs' : Array Value} (h : Blk w g T cs) (h' : Blk w g' T' cs') (hT : T ≠ T') : g ≠ g' := fun e => by
 subst e
 have k4 := h
 rw [Blk, h'] at k4
 injection k4 with k4
 injection k4 with _ k4 _
 exact hT k4.symm
theorem SG.next (h : SG w0 B b gl n s t ws vt wr) (hb : Below wr.heap.size wr wr') (hB : B <= w0.heap.size) : SG w0 B b gl n s t ws vt wr' :=
 ⟨h.bel.trans (hb.mono (nt hB h.bel.size)), h.res.below hb h.res.lt, h.dice.below hb h.dice.lt, h.taken.below hb h.taken.lt, OwnW.next h.wts hb, h.ft, h.hb, h.hgl⟩
theorem Jqt {g : Nat} (hw : Below B w0 wr) (he : Exc g wr wr') (hg : B <= g) (hB : B <= w0.heap.size) : Below B w0 wr' := hw.trans ⟨he.os, he.tape, he.output, he.size, fun k hk => he.block k (Nat.lt_of_lt_of_le hk (nt hB hw.size)) (by omega)⟩
theorem SG.roll (h : SG w0 B b gl n s t ws vt wr) (he : Exc b wr wr') (hd : Blk wr' b 156 #[.int .u64 (s' : Int)]) (hB : B <= w0.heap.size) : SG w0 B b gl n s' t ws vt wr' :=
 ⟨Jqt h.bel he h.hb hB, h.res.exc he (Jsu h.res h.dice (by decide)), hd, h.taken.exc he (fun e => by
  obtain ⟨cs', fr', k3⟩ := Own.blk h.taken e
  have k4 := h.dice
  rw [Blk, k3] at k4
  injection k4 with k4
  injection k4 with _ k4 _
  exact absurd k4 (by decide)), OwnQ.excm h.wts he (Own.ne_blk h.wts h.dice (by decide)), h.ft, h.hb, h.hgl⟩
theorem Grew.blkm {w w' : World} {v v' : Value} {g : Nat} {T : TypeId} {cs : Array Value} (h : Blk w g T cs) (hg : Grew w w' v v') (bQ : v.ownBlock ≠ some g) : Blk w' g T cs := (hg.block g h.lt (fun e => bQ e.symm)).trans h
theorem SG.push (h : SG w0 B b gl n s t ws vt wr) (hg : Grew wr wr' vt vt') (ho : Own wr' 3 iv vt' t') (hB : B <= w0.heap.size) : SG w0 B b gl n s t' ws vt' wr' := by
 have n1 : ∀ {g : Nat} {T : TypeId} {cs : Array Value}, Blk wr g T cs -> T ≠ 3 -> vt.ownBlock ≠ some g := fun hb hT e => by
  obtain ⟨cs', fr', k3⟩ := Own.blk h.taken e
  rw [Blk, k3] at hb
  injection hb with hb
  injection hb with _ hb _
  exact hT hb.symm
 have dI := nt hB h.bel.size
 refine ⟨h.bel.trans (hg.below dI h.ft), Grew.blkm h.res hg (n1 h.res (by decide)), Grew.blkm h.dice hg (n1 h.dice (by decide)), ho, ?_, hg.fresh dI h.ft, h.hb, h.hgl⟩
 refine ⟨h.wts.1, ?_⟩
 rcases h.wts.2 with h3 | ⟨g, cap, cur, h3, h4, h5, h6⟩
 ·exact .inl h3
 refine .inr ⟨g, cap, cur, h3, h4, (hg.block g (OwnW.lt h.wts g (by rw [h3]; rfl)) (fun e => ?_)).trans h5, h6⟩
 obtain ⟨cs', fr', k3⟩ := Own.blk h.taken e.symm
 rw [k3] at h5
 injection h5 with h5
 injection h5 with _ h5 _
 exact absurd h5 (by decide)
theorem SG.store (h : SG w0 B b gl n s t ws vt wr) (i : Nat) (q : Rat) (hB : B <= w0.heap.size) :
  SG w0 B b gl n s t (ws.set i q) vt (((((wr.setCell ⟨gl, i * 5, none⟩ (.bool (decide (q.num < 0)))).setCell ⟨gl, i * 5 + 1, none⟩ (.int .u64 (lo q.num.natAbs : Int))).setCell ⟨gl, i * 5 + 2, none⟩ (.string (mo q.num.natAbs))).setCell ⟨gl, i * 5 + 3, none⟩ (.int .u64 (lo (qden q) : Int))).setCell ⟨gl, i * 5 + 4, none⟩ (.string (mo (qden q)))) := by
 have he : Exc gl wr (((((wr.setCell ⟨gl, i * 5, none⟩ (.bool (decide (q.num < 0)))).setCell ⟨gl, i * 5 + 1, none⟩ (.int .u64 (lo q.num.natAbs : Int))).setCell ⟨gl, i * 5 + 2, none⟩ (.string (mo q.num.natAbs))).setCell ⟨gl, i * 5 + 3, none⟩ (.int .u64 (lo (qden q) : Int))).setCell ⟨gl, i * 5 + 4, none⟩ (.string (mo (qden q)))) := (((((Exc.refl _ _).set_ _ _).set_ _ _).set_ _ _).set_ _ _).set_ _ _
 have n1 : ∀ {g : Nat} {T : TypeId} {cs : Array Value}, Blk wr g T cs -> T ≠ 65 -> g ≠ gl := fun hb hT e => by
  subst e
  exact Own.ne_blk h.wts hb hT rfl
 refine ⟨Jqt h.bel he h.hgl hB, h.res.exc he (n1 h.res (by decide)), h.dice.exc he (n1 h.dice (by decide)), h.taken.exc he (fun e => ?_), OwnQ.store h.wts i q, h.ft, h.hb, h.hgl⟩
 obtain ⟨cs', fr', k3⟩ := Own.blk h.taken e
 obtain ⟨cs'', fr'', k4⟩ := OwnW.blk h.wts (g := gl) rfl
 rw [k3] at k4
 injection k4 with k4
 injection k4 with _ k4 _
 exact absurd k4 (by decide)
end
structure SE (w0 : World) (B gm : Nat) (t : List Nat) (cs : List (List Rat)) (vt vm : Value) (wr : World) : Prop where
 bel : Below B w0 wr
 res : Blk wr w0.heap.size 30 #[.slice none 0 0]
 taken : Own wr 3 iv vt t
 box : Blk wr gm 30 #[vm]
 rows : OwnQQ wr vm cs
 fm : ∀ k, vm.ownBlock = some k -> B <= k
 hgm : B <= gm
section
variable {w0 wr wr' : World} {B gm : Nat} {t : List Nat} {cs cs' : List (List Rat)} {vt vm vm' : Value}
theorem SE.next (h : SE w0 B gm t cs vt vm wr) (hb : Below wr.heap.size wr wr') (hB : B <= w0.heap.size) : SE w0 B gm t cs vt vm wr' :=
 ⟨h.bel.trans (hb.mono (nt hB h.bel.size)), h.res.below hb h.res.lt, h.taken.below hb h.taken.lt, h.box.below hb h.box.lt, OwnS.next Tryz.kindQQ h.rows hb, h.fm, h.hgm⟩
theorem SE.grow (h : SE w0 B gm t cs vt vm wr) (hg : Grew wr wr' vm vm') (ho : OwnQQ wr' vm' cs') (hB : B <= w0.heap.size) : Blk wr' gm 30 #[vm] /\ (Below B w0 wr' /\ Blk wr' w0.heap.size 30 #[.slice none 0 0] /\ Own wr' 3 iv vt t /\ OwnQQ wr' vm' cs' /\ (∀ k, vm'.ownBlock = some k -> B <= k)) := by
 have dI := nt hB h.bel.size
 obtain ⟨rl, h1, -, -⟩ := h.rows
 have n1 : ∀ {g : Nat} {T : TypeId} {cs : Array Value}, Blk wr g T cs -> T ≠ 31 -> vm.ownBlock ≠ some g := fun hb hT e => by
  obtain ⟨cs', fr', k3⟩ := Own.blk h1 e
  rw [Blk, k3] at hb
  injection hb with hb
  injection hb with _ hb _
  exact hT hb.symm
 refine ⟨Grew.blkm h.box hg (n1 h.box (by decide)), h.bel.trans (hg.below dI h.fm), Grew.blkm h.res hg (n1 h.res (by decide)), h.taken.kept hg (fun k hv hr => ?_), ho, hg.fresh dI h.fm⟩
 obtain ⟨cs', fr', k3⟩ := Own.blk h.taken hv
 obtain ⟨cs'', fr'', k4⟩ := Own.blk h1 hr
 rw [k3] at k4
 injection k4 with k4
 injection k4 with _ k4 _
 exact absurd k4 (by decide)
end
theorem OwnS.formNz {β : Type} {T : TypeId} {I : World -> Value -> β -> Prop} {w : World} {v : Value} {bl : List β} {n : Nat} (h : OwnS T I w v bl) (hn : bl.length = n) : ∃ A c, v = .slice A n c := by
 obtain ⟨A, c, e⟩ := OwnS.form h
 exact ⟨A, c, by rw [e, hn]⟩
theorem Jqu {x : List (List Rat)} {i : Nat} {l : List Rat} (h : x[i]? = some l) : x.getD i [] = l := by rw [List.getD_eq_getElem?_getD, h]; rfl
theorem Jrb (A : Option Addr) (n c wd B b m k s : Nat) (x : List (List Rat)) (w : World) (h : Xa w B A n x) (hd : Blk w b 156 #[.int .u64 (s : Int)]) (hB : B <= w.heap.size) (hb : B <= b) (hs : s < 18446744073709551616) (hk : 1 <= k) (mF : k <= 12) (bW : k <= n) (hn : n <= 300) (hwd1 : 1 <= wd) (hwd : wd <= 20) (hlx : ∀ l ∈ x, l.length = wd) (hm : 1 <= m) (hm2 : m <= 500) (hsx : ∀ l ∈ x, ∀ y ∈ l, QS m y) (hT : ∀ w', Below B w w' -> Tab w') (dS : Ui x = true) :
  Calls Tryz.prog 54 #[.slice A n c, .int .i64 (k : Int), .pointer (some ⟨b, 0, none⟩)] w fun e w' => ∃ v, e = .returned (.tuple #[.agg #[v], .int .i64 0]) /\ OwnQQ w' v (Jqo x k s) /\ Below B w w' := by
 have bK := h.len
 have HEV := lh (fun w' (hb : Below w.heap.size w w') => Jfk A n c B x w' (h.below Xh (hb.mono hB)) (nt hB hb.size) (by omega))
 rw [dS] at HEV
 have H := lh h
 have HX := lh hlx
 have HS := lh hsx
 have HXL := lh bK
 have HT := lh hT
 have HBE := lh (fun w' (hd : Blk w' b 156 #[.int .u64 (s : Int)]) => Jr3 b s n w' hs (by omega) (by omega) hd)
 have HST := lh (Jqv (x := x) hs (by omega))
 have HLT := lh (fun i (hi : i < n) => Jqx (x := x) (s := s) i (by omega))
 have HLN := lh (Jqq x s)
 have HFAR := lh (fun (w' : World) (A1 A2 : Option Addr) (c1 c2 : Nat) (l l' : List Rat) (hb : Below B w w') (h1 : ReadsQ w B A1 wd l) (h2 : ReadsQ w B A2 wd l') (hl : l ∈ x) (mG : l' ∈ x) => Jkv A1 A2 wd c1 c2 B m l l' w' (h1.below hb) (h2.below hb) (nt hB hb.size) (by omega) hm (by omega) (hsx l hl) (hsx l' mG) (hT w' hb))
 have iD : (Dice.below n s).1 < n := Dice.below_lt n s (by omega)
 obtain ⟨fi, bZ⟩ : ∃ fi, (Dice.below n s).1 = fi := ⟨_, rfl⟩
 obtain ⟨s1, aX⟩ : ∃ s1, (Dice.below n s).2 = s1 := ⟨_, rfl⟩
 rw [bZ, aX] at HBE
 rw [bZ] at iD
 have HF0 : Hid (Jql x s 0 = ([fi], s1)) := lh (by show ([(Dice.below x.length s).1], (Dice.below x.length s).2) = _; rw [bK, bZ, aX])
 have HD := lh hd
 have HBB := lh hB
 have HB1 := lh hb
 clear h hlx hsx bK hd bZ aX dS hT hB
 obtain ⟨b0, hB, hZ⟩ := bx1 w 30 #[.slice none 0 0]
 go_enter Tryz.func54, Tryz.ntmps54
 have HBW := lh hB
 have d1 : ¬ (n : Int) < 1 := by omega
 have d2 : ¬ (300 : Int) < (n : Int) := by omega
 have d3 : ¬ (k : Int) < 1 := by omega
 have d4 : ¬ (12 : Int) < (k : Int) := by omega
 have d5 : ¬ (n : Int) < (k : Int) := by omega
 clear hB
 go_wp2_with fail
 generalize (w.alloc (.cells #[.slice none 0 0] 30)) = W at *
 refine (HEV.out _ HBW.out).mono ?_
 rintro e w1 ⟨rfl, bU⟩
 have b0 := b0.below bU b0.lt
 have HB2 := lh (HBW.out.trans (bU.mono HBW.out.size))
 have HD1 := lh (HD.out.below HB2.out HD.out.lt)
 clear bU HBW HEV
 go_wp2_with fail
 refine (HBE.out _ HD1.out).mono ?_
 rintro e w2 ⟨rfl, rfl⟩
 have x8 : Exc b w1 (w1.setCell ⟨b, 0, none⟩ (.int .u64 (s1 : Int))) := (Exc.refl _ _).set_ _ _
 have dG := Jqt (HB2.out.mono HBB.out) x8 HB1.out HBB.out
 have eE : Blk (w1.setCell ⟨b, 0, none⟩ (.int .u64 (s1 : Int))) b 156 #[.int .u64 (s1 : Int)] := by simpa using HD1.out.set_ 0 (.int .u64 (s1 : Int))
 have dT := b0.exc x8 (Jsu b0 HD1.out (by decide))
 clear b0 x8 HBE HB2 HD1
 generalize w1.setCell ⟨b, 0, none⟩ (.int .u64 (s1 : Int)) = w2 at *
 have aJ : Own (w2.alloc (.cells #[.int .i64 (fi : Int)] 3)) 3 iv (.slice (some ⟨w2.heap.size, 0, none⟩) 1 1) [fi] := Own.lit w2 3 iv [fi] (by unfold maxLen; simp)
 have aF := Jb w2 (.cells #[.int .i64 (fi : Int)] 3)
 obtain ⟨w4, kM, cB, aK⟩ := Jog n (by omega) (w2.alloc (.cells #[.int .i64 (fi : Int)] 3))
 have p7 := Ja aF aK
 have fG := dG.size
 obtain ⟨g8, fZ⟩ : ∃ g, w2.heap.size = g := ⟨_, rfl⟩
 obtain ⟨gl, hgl⟩ : ∃ g, (w2.alloc (.cells #[.int .i64 (fi : Int)] 3)).heap.size = g := ⟨_, rfl⟩
 have fH : B <= gl := by rw [<- hgl, World.size_alloc]; have := HBB.out; omega
 rw [fZ] at aJ
 rw [hgl] at kM cB
 have e8 : SG w B b gl n s1 [fi] (List.replicate n 0) (.slice (some ⟨g8, 0, none⟩) 1 1) w4 := ⟨dG.trans (p7.mono (nt HBB.out fG)), dT.below p7 dT.lt, eE.below p7 eE.lt, aJ.below aK aJ.lt, cB, fun k hk => by
  have e : g8 = k := by simpa [Value.ownBlock] using hk
  have := HBB.out
  omega, HB1.out, fH⟩
 have HG0 := lh e8
 clear dG eE dT aJ aF cB aK p7 fG fH e8
 go_upto_block 0 with fail
 try rw [fZ]
 clear fZ hgl kM
 have mH : ∃ l, x[fi]? = some l := ⟨_, List.getElem?_eq_getElem (by have := HXL.out; omega)⟩
 obtain ⟨lf, hlf⟩ := mH
 obtain ⟨ad0, A1, m1, c1, rfl, fI, gF, iN⟩ := H.out.at_ hlf
 obtain rfl : m1 = wd := by rw [<- iN.len]; exact HX.out lf (List.mem_of_getElem? hlf)
 obtain ⟨gx, ox, iE, eZ⟩ := Xy gF
 rw [iE] at gF
 have aM : gx < B := by rw [eZ]; exact fI
 have k1 : (fi : Int) < (n : Int) := by omega
 have HRF := lh (And.intro hlf iN)
 have HCF := lh (And.intro gF aM)
 clear hlf iN gF fI eZ aM
 obtain ⟨r, hr⟩ : ∃ r, (fun j => Xk (x.getD fi []) (x.getD j [])) = r := ⟨_, rfl⟩
 have HRE : Hid (∀ j l, x[j]? = some l -> r j = Xk lf l) := lh fun j l hl => by
  rw [<- hr]
  show Xk (x.getD fi []) (x.getD j []) = _
  rw [Jqu HRF.out.1, Jqu hl]
 have HW0 : Hid ((List.range n).map r = Jqn x [fi]) := lh (by
  rw [Jsv, <- hr]
  refine List.ext_getElem (by simp [HXL.out]) fun j h1 h2 => ?_
  simp only [List.getElem_map, List.getElem_range]
  rw [Jqu (i := j) (List.getElem?_eq_getElem (by simpa using h2))])
 clear hr
 go_cut [] (fun wc => SG w B b gl n s1 [fi] (Jqn x [fi]) (.slice (some ⟨g8, 0, none⟩) 1 1) wc)
 case first =>
  go_wp2_with fail
  go_loopw [60] (fun p wr => ∃ i : Nat, i <= n /\ p = .int .i64 (i : Int) /\ SG w B b gl n s1 [fi] (Ys n r (fun _ => 0) i) (.slice (some ⟨g8, 0, none⟩) 1 1) wr) (fun p _ => n - (intOf p).toNat)
  case atStart => exact ⟨0, by omega, rfl, by
   rw [Jeb]
   have e : (List.range n).map (fun _ => (0 : Rat)) = List.replicate n 0 := List.ext_getElem (by simp) fun j h1 h2 => by simp
   rw [e]
   exact HG0.out⟩
  case round =>
   obtain ⟨i, hi, rfl, e8⟩ := hrel
   rename World => wr
   by_cases mI : i < n
   ·have k2 : (i : Int) < (n : Int) := by omega
    obtain ⟨l, hl⟩ : ∃ l, x[i]? = some l := ⟨_, List.getElem?_eq_getElem (by have := HXL.out; omega)⟩
    obtain ⟨ad, Aj, mj, cj, hA, j7, x9, p8⟩ := H.out.at_ hl
    obtain rfl := Option.some.inj hA
    obtain rfl : mj = m1 := by rw [<- p8.len]; exact HX.out l (List.mem_of_getElem? hl)
    have dK := Xq e8.bel x9 j7
    have fJ := e8.bel.cell (p := ⟨gx, ox, none⟩) HCF.out.2
    rw [HCF.out.1] at fJ
    have kN := Own.cellf (g := g8) (c := 1) (l := [fi]) e8.taken (k := 0) (x := fi) rfl
    unfold iv at kN
    have kO := HRE.out i l hl
    have o0 := HFAR.out wr Aj A1 cj c1 l lf e8.bel p8 HRF.out.2 (List.mem_of_getElem? hl) (List.mem_of_getElem? HRF.out.1)
    rw [Jk7 (by rw [HX.out l (List.mem_of_getElem? hl), HX.out lf (List.mem_of_getElem? HRF.out.1)]), <- kO] at o0
    obtain ⟨q, hq⟩ : ∃ q, r i = q := ⟨_, rfl⟩
    rw [hq] at o0
    unfold qV at o0
    have HFA := lh o0
    have HQ := lh hq
    have HSG := lh e8
    have kP : (⟨g8, 0, none⟩ : Addr).add 0 = ⟨g8, 0, none⟩ := Addr.add_zero' _
    clear o0 hq e8 hl hA j7 x9 p8 kO
    go_wp2_with fail
    refine HFA.out.mono ?_
    rintro e w3 ⟨rfl, aF⟩
    have e8 := HSG.out.next aF HBB.out
    have kQ := OwnQ.at_ e8.wts (Jif (r := r) (z := fun _ => (0 : Rat)) mI)
    obtain ⟨v0, v1, v2, v3, v4⟩ := kQ.c5
    have z0 := OwnQ.frozen e8.wts (i * 5)
    have z1 := OwnQ.frozen e8.wts (i * 5 + 1)
    have z2 := OwnQ.frozen e8.wts (i * 5 + 2)
    have z3 := OwnQ.frozen e8.wts (i * 5 + 3)
    have z4 := OwnQ.frozen e8.wts (i * 5 + 4)
    have HSG3 := lh e8
    clear e8 aF kQ dK fJ kN HSG
    go_wp2
    have aA := HSG3.out.store i q HBB.out
    rw [Jfu HQ.out] at aA
    exact ⟨⟨i + 1, by omega, by go_num, aA⟩, by simp [intOf]; omega⟩
   obtain rfl : i = n := by omega
   have k2 : ¬ (i : Int) < (i : Int) := by omega
   rw [Jec, HW0.out] at e8
   have HSG := lh e8
   clear e8
   go_wp2
   go_meet
   exact HSG.out
 case rest =>
  rename World => w5
  have HG5 : Hid (SG w B b gl n (Jql x s 0).2 (Jql x s 0).1 (Jqn x (Jql x s 0).1) (.slice (some ⟨g8, 0, none⟩) 1 1) w5) := lh (by rw [HF0.out]; exact hcut)
  clear hcut HG0 HRE HW0 HRF HCF HF0
  go_upto_block 2 with fail
  go_cut [8] (fun v wc => ∃ A8 c8, v = .slice A8 k c8 /\ ∃ sk ws, SG w B b gl n sk (Jql x s (k - 1)).1 ws (.slice A8 k c8) wc)
  case first =>
   go_wp2_with fail
   go_loopw [8] (fun v wr => ∃ (i : Nat) (A8 : Option Addr) (c8 : Nat), i + 1 <= k /\ v = .slice A8 (i + 1) c8 /\ SG w B b gl n (Jql x s i).2 (Jql x s i).1 (Jqn x (Jql x s i).1) (.slice A8 (i + 1) c8) wr) (fun v _ => k - Jsy v)
   case atStart => exact ⟨0, _, _, hk, rfl, HG5.out⟩
   case round =>
    obtain ⟨i, A8, c8, hi, rfl, e8⟩ := hrel
    rename World => wr
    clear HG5
    obtain ⟨i1, bL⟩ : ∃ i1, i + 1 = i1 := ⟨_, rfl⟩
    have y9 := HLN.out i
    have o8 := HLT.out i (by omega)
    have aA := HST.out i
    have q9 : Jql x s i1 = ((Jql x s i).1 ++ [Jqs x (Jql x s i).1 (Jql x s i).2], (Jqp (Jqn x (Jql x s i).1) (Jql x s i).2).2.2) := by rw [<- bL]; rfl
    rw [bL] at e8 y9 hi ⊢
    by_cases iG : i1 < k
    ·have e1 : (i1 : Int) < (k : Int) := by omega
     have iH : 1 <= i1 := by omega
     obtain ⟨t, ht⟩ : ∃ t, (Jql x s i).1 = t := ⟨_, rfl⟩
     obtain ⟨s', dJ⟩ : ∃ s', (Jql x s i).2 = s' := ⟨_, rfl⟩
     rw [ht, dJ] at e8 q9
     rw [ht] at y9 o8
     rw [dJ] at aA
     have cA : Jqs x t s' < n := by rw [<- HXL.out]; exact Jq4 (by have := HXL.out; omega)
     have eF := Js1 (t := t) hm hm2 hwd HX.out HS.out (by omega) (fun j hj => by have := o8 j hj; have := HXL.out; omega)
     have HPK := lh ((Jsc b s' (some ⟨gl, 0, none⟩) n n wr.heap.size 60000 (Jqn x t) wr aA e8.dice (OwnQ.reads_ e8.wts) zd (by omega) (by omega) eF (HT.out wr e8.bel)).mono (fun e w' h => Jr2 h e8.dice))
     have HSG := lh e8
     have HNX := lh (And.intro q9 (And.intro cA bL))
     have HTT := lh (And.intro y9 (And.intro o8 aA))
     have HWQ := lh eF
     clear e8 q9 cA y9 o8 aA eF ht dJ bL
     go_wp2_with fail
     refine HPK.out.mono ?_
     rintro e w6 ⟨rfl, x8, cI⟩
     have HS2 := lh (HSG.out.roll x8 cI HBB.out)
     obtain ⟨pi, dO⟩ : ∃ p, (Jqp (Jqn x t) s').1 = p := ⟨_, rfl⟩
     obtain ⟨po, dP⟩ : ∃ p, (Jqp (Jqn x t) s').2.1 = p := ⟨_, rfl⟩
     have bM : Jqs x t s' = if po = true then pi else Jrg t := by unfold Jqs; rw [dO, dP]
     rw [dO, dP]
     clear x8 cI HPK HSG dO dP
     go_upto_if 88 with fail
     go_cut [12] (fun u wc => u = .int .i64 (Jqs x t s' : Int) /\ w6 = wc)
     case first =>
      cases po with
      | true =>
       have HE := lh (bM.trans (if_pos rfl))
       clear bM
       go_wp2
       go_meet
       exact ⟨by rw [HE.out], rfl⟩
      | false =>
       have HE := lh (bM.trans (if_neg (by simp)))
       clear bM
       have bN := HS2.out.taken.reads
       rw [HTT.out.1] at bN
       have HHS := lh (fun (g : Nat) => Jrc A8 i1 c8 w6.heap.size t g w6 bN zd (by omega))
       clear bN
       go_wp2_with fail
       go_loopw [12] (fun u wr => ∃ j : Nat, u = .int .i64 (j : Int) /\ w6 = wr /\ j <= i1 /\ Hid (∀ i, i < j -> i ∈ t)) (fun u _ => i1 + 1 - (intOf u).toNat)
       case atStart => exact ⟨0, rfl, rfl, by omega, lh (fun i hi => absurd hi (by omega))⟩
       case round =>
        obtain ⟨j, rfl, rfl, hj, j6⟩ := hrel
        have aB := HHS.out j
        by_cases aS : j ∈ t
        ·rw [decide_eq_true aS] at aB
         have bO : Hid (∀ i, i < j + 1 -> i ∈ t) := lh fun i hi => by
          by_cases e : i = j
          ·rw [e]; exact aS
          exact j6.out i (by omega)
         have iL : j + 1 <= i1 := by
          have := Jq3 bO.out
          rw [HTT.out.1] at this
          exact this
         have HCA := lh aB
         clear aB j6 aS
         go_wp2_with fail
         refine HCA.out.mono ?_
         rintro e w3 ⟨rfl, rfl⟩
         go_wp2
         go_roundw
         case rel =>
          (repeat apply Exists.intro)
          exact ⟨⟨j + 1, by go_num, by first | rfl | trivial, iL, bO⟩, rfl⟩
         case measure => simp [intOf]; omega
        rw [decide_eq_false aS] at aB
        have HF := lh (HE.out.trans (Jro j6.out aS))
        have HCA := lh aB
        clear aB j6 aS
        go_wp2_with fail
        refine HCA.out.mono ?_
        rintro e w3 ⟨rfl, rfl⟩
        go_wp2
        go_meet
        exact ⟨by rw [HF.out], rfl⟩
     case rest =>
      obtain ⟨rfl, rfl⟩ := hcut
      clear bM
      obtain ⟨nx, q9⟩ : ∃ nx, Jqs x t s' = nx := ⟨_, rfl⟩
      have aU := HNX.out.1
      have cA := HNX.out.2.1
      rw [q9] at aU cA ⊢
      clear q9
      obtain ⟨s2, kR⟩ : ∃ s2, (Jqp (Jqn x t) s').2.2 = s2 := ⟨_, rfl⟩
      rw [kR] at aU HS2
      obtain ⟨l, hl⟩ : ∃ l, x[nx]? = some l := ⟨_, List.getElem?_eq_getElem (by have := HXL.out; omega)⟩
      obtain ⟨ad, Aj, mj, cj, hA, j7, x9, p8⟩ := H.out.at_ hl
      obtain rfl := Option.some.inj hA
      obtain rfl : mj = m1 := by rw [<- p8.len]; exact HX.out l (List.mem_of_getElem? hl)
      obtain ⟨gy, oy, iO, fK⟩ := Xy x9
      rw [iO] at x9
      have e5 : (nx : Int) < (n : Int) := by omega
      have aM : gy < B := by rw [fK]; exact j7
      have HNN := lh aU
      have HRW := lh (And.intro hl p8)
      have HTL := lh (show t.length = i1 from HTT.out.1)
      have HC := lh (And.intro x9 aM)
      obtain ⟨r, hr⟩ : ∃ r : Nat -> Rat, (fun j => if Xk (x.getD nx []) (x.getD j []) < Xs (t.map fun i => x.getD i []) (x.getD j []) then Xk (x.getD nx []) (x.getD j []) else Xs (t.map fun i => x.getD i []) (x.getD j [])) = r := ⟨_, rfl⟩
      obtain ⟨z, hz⟩ : ∃ z : Nat -> Rat, (fun j => Xs (t.map fun i => x.getD i []) (x.getD j [])) = z := ⟨_, rfl⟩
      have HRZ : Hid (∀ j lj, x[j]? = some lj -> r j = if Xk l lj < z j then Xk l lj else z j) := lh fun j lj cC => by
       rw [<- hr, <- hz]
       simp only [Jqu hl, Jqu cC]
      have HZ0 : Hid ((List.range n).map z = Jqn x t) := lh (by
       unfold Jqn
       rw [<- hz]
       refine List.ext_getElem (by simp [HXL.out]) fun j h1 h2 => ?_
       simp only [List.getElem_map, List.getElem_range]
       rw [Jqu (i := j) (List.getElem?_eq_getElem (by simpa using h2))])
      have HR0 : Hid ((List.range n).map r = Jqn x (t ++ [nx])) := lh (by
       rw [Jsh (by have := HTL.out; omega), <- hr]
       refine List.ext_getElem (by simp [HXL.out]) fun j h1 h2 => ?_
       simp only [List.getElem_map, List.getElem_range]
       rw [Jqu (i := j) (List.getElem?_eq_getElem (by simpa using h2))])
      have HZQ : Hid (∀ j, j < n -> QS 60000 (z j)) := lh fun j hj => HWQ.out (z j) (by rw [<- HZ0.out]; exact List.mem_map.2 ⟨j, List.mem_range.2 hj, rfl⟩)
      clear aU hl p8 x9 j7 hA fK aM kR hr hz
      go_upto_region 18 with fail
      go_cut [8] (fun v wc => ∃ A9 c9, v = .slice A9 (i1 + 1) c9 /\ SG w B b gl n s2 (t ++ [nx]) (Jqn x t) (.slice A9 (i1 + 1) c9) wc)
      case first =>
       go_wp2_with (at_builtin; refine Jmt (f := iv) Tryz.eltIntR rfl (.tmp 94) (.tmp 96) rfl w6 _ t nx (.int .i64 (nx : Int)) rfl rfl HS2.out.taken (by simp [Act.eval]) rfl (by have := HTL.out; unfold maxLen; omega) (by have := HTL.out; omega) ?_; intro v3 w3 aY cK; have fL := HS2.out.push cK aY HBB.out; have HP3 := lh fL; clear aY cK fL)
       go_meet
       obtain ⟨B1, d1, bC, -, -⟩ := HP3.out.taken.form
       rw [List.length_append, HTL.out] at bC
       have dR : v3 = .slice B1 (i1 + 1) d1 := bC
       clear bC
       subst dR
       exact ⟨B1, d1, rfl, HP3.out⟩
      case rest =>
       obtain ⟨A9, c9, rfl, fM⟩ := hcut
       rename World => w9
       have HP9 : Hid (SG w B b gl n s2 (t ++ [nx]) (Ys n r z 0) (.slice A9 (i1 + 1) c9) w9) := lh (by rw [Jeb, HZ0.out]; exact fM)
       clear fM HS2 HTT HWQ HZ0
       go_wp2_with fail
       go_loopw [100] (fun p wr => ∃ j : Nat, j <= n /\ p = .int .i64 (j : Int) /\ SG w B b gl n s2 (t ++ [nx]) (Ys n r z j) (.slice A9 (i1 + 1) c9) wr) (fun p _ => n - (intOf p).toNat)
       case atStart => exact ⟨0, by omega, rfl, HP9.out⟩
       case round =>
        obtain ⟨j, hj, rfl, e8⟩ := hrel
        rename World => wr
        clear HP9
        by_cases gD : j < n
        ·have k2 : (j : Int) < (n : Int) := by omega
         obtain ⟨lj, cC⟩ : ∃ l, x[j]? = some l := ⟨_, List.getElem?_eq_getElem (by have := HXL.out; omega)⟩
         obtain ⟨ad, Ak, mk, ck, hA, fN, kT, iP⟩ := H.out.at_ cC
         obtain rfl := Option.some.inj hA
         obtain rfl : mk = mj := by rw [<- iP.len]; exact HX.out lj (List.mem_of_getElem? cC)
         have iQ := Xq e8.bel kT fN
         have dU := e8.bel.cell (p := ⟨gy, oy, none⟩) HC.out.2
         rw [HC.out.1] at dU
         have b2 := At1.mk' dU
         have cW := HRZ.out j lj cC
         have iR := HZQ.out j gD
         have o0 := fun w' (hb : Below wr.heap.size wr w') => HFAR.out w' Ak Aj ck cj lj l (e8.bel.trans (hb.mono (nt HBB.out e8.bel.size))) iP HRW.out.2 (List.mem_of_getElem? cC) (List.mem_of_getElem? HRW.out.1)
         rw [Jk7 (by rw [HX.out lj (List.mem_of_getElem? cC), HX.out l (List.mem_of_getElem? HRW.out.1)])] at o0
         have iS : QS 60000 (Xk l lj) := by
          refine QS.mono (show QS _ (Xk l lj) from Yq (HS.out l (List.mem_of_getElem? HRW.out.1)) (HS.out lj (List.mem_of_getElem? cC)) hm l.length) ?_
          have h1 := HX.out l (List.mem_of_getElem? HRW.out.1)
          have := Nat.mul_le_mul (show l.length <= 20 by omega) (show 4 * m + 3 <= 2003 by omega)
          omega
         obtain ⟨zj, iT⟩ : ∃ q, z j = q := ⟨_, rfl⟩
         obtain ⟨fj, kU⟩ : ∃ q, Xk l lj = q := ⟨_, rfl⟩
         rw [iT] at cW iR
         rw [kU] at cW o0 iS
         have bP := fun w => Jsr zj fj w (iR.mono (by omega)) (iS.mono (by omega))
         rw [<- cW] at bP
         obtain ⟨q, hq⟩ : ∃ q, r j = q := ⟨_, rfl⟩
         rw [hq] at bP
         unfold qV at o0 bP
         have b1 := OwnQ.at_ e8.wts (Jif (r := r) (z := z) gD)
         rw [iT] at b1
         have HFA := lh o0
         have HMI := lh bP
         have HQ := lh hq
         have HSG := lh e8
         clear o0 bP hq e8 cC hA fN kT iP dU cW iR iS iT kU
         have ng1 : ¬ gl = gy := by have := HSG.out.hgl; have := HC.out.2; omega
         have ng2 : ¬ gy = gl := fun e => ng1 e.symm
         go_upto_region 22 with fail
         clear iQ
         obtain ⟨iU, iV, mJ, mK, mL⟩ := b1.c5; have c1 := b1.drew; have aT := c1.lt; obtain ⟨fO, fP⟩ := b2.c2; have c2 := b2.drew; have aC := c2.lt; have hc := Ji wr; go_region_with (first | (go_at_call 97; (with_reducible refine (HFA.out _ hc).mono ?_); rintro e w1 ⟨rfl, j0⟩; (try clear o6 o7 dV dW dX); obtain ⟨c1, o6, o7, dV, dW, dX⟩ := c1.zc5 j0; (try clear aT); have aT := c1.lt; (try clear j8 j9); obtain ⟨c2, j8, j9⟩ := c2.zc2 j0; (try clear aC); have aC := c2.lt; have hc := Ja hc j0) | (go_at_call 103; (with_reducible refine (HMI.out _).mono ?_); rintro e w2 ⟨rfl, u4⟩; (try clear o6 o7 dV dW dX); obtain ⟨c1, o6, o7, dV, dW, dX⟩ := c1.zc5 u4; (try clear aT); have aT := c1.lt; (try clear j8 j9); obtain ⟨c2, j8, j9⟩ := c2.zc2 u4; (try clear aC); have aC := c2.lt; have hc := Ja hc u4; have bV := HSG.out.next hc HBB.out; have z0 := OwnQ.frozen bV.wts (j * 5); have z1 := OwnQ.frozen bV.wts (j * 5 + 1); have z2 := OwnQ.frozen bV.wts (j * 5 + 2); have z3 := OwnQ.frozen bV.wts (j * 5 + 3); have z4 := OwnQ.frozen bV.wts (j * 5 + 4)))
         all_goals
          go_wp2
          have aA := bV.store j q HBB.out
          rw [Jfu HQ.out] at aA
          exact ⟨⟨j + 1, by omega, by go_num, aA⟩, by simp [intOf]; omega⟩
        obtain rfl : j = n := by omega
        have k2 : ¬ (j : Int) < (j : Int) := by omega
        rw [Jec, HR0.out] at e8
        have HSG := lh e8
        have HI1 := lh HNX.out.2.2
        clear e8
        go_wp2
        exact ⟨⟨i1, A9, c9, by omega, rfl, by rw [HNN.out]; exact HSG.out⟩, by simp [Jsy]; omega⟩
    obtain rfl : i1 = k := by omega
    have e1 : ¬ (i1 : Int) < (i1 : Int) := by omega
    have HZ := lh e8
    have kV : i1 - 1 = i := by omega
    have HKI := lh kV
    clear e8 y9 o8 aA q9 bL kV
    go_wp2
    go_meet
    exact ⟨A8, c8, rfl, _, _, by rw [HKI.out]; exact HZ.out⟩
  case rest =>
   obtain ⟨A8, c8, rfl, sk, ws, e8⟩ := hcut
   rename World => w7
   obtain ⟨t, ht⟩ : ∃ t, (Jql x s (k - 1)).1 = t := ⟨_, rfl⟩
   have y9 : t.length = k := by rw [<- ht, Jqq]; omega
   have o8 : ∀ j ∈ t, j < n := fun j hj => by
    have := HLT.out (k - 1) (by omega) j (by rw [ht]; exact hj)
    rwa [HXL.out] at this
   have aL : Jqo x k s = t.map fun i => x.getD i [] := by unfold Jqo; rw [ht]
   rw [ht] at e8
   have j6 := Jb w7 (.cells #[.slice none 0 0] 30)
   have dL := e8.next j6 HBB.out
   have iW := Blk.new w7 30 #[.slice none 0 0]
   obtain ⟨gm, hgm⟩ : ∃ g, w7.heap.size = g := ⟨_, rfl⟩
   have fQ : B <= gm := by rw [<- hgm]; exact nt HBB.out e8.bel.size
   have mM : w.heap.size < gm := by rw [<- hgm]; exact e8.res.lt
   rw [hgm] at iW
   obtain ⟨cs, dY⟩ : ∃ cs, Jqo x k s = cs := ⟨_, rfl⟩
   rw [dY] at aL
   have HSM := lh dY
   have HCS := lh (show cs.length = k by rw [aL, List.length_map]; exact y9)
   have HCA : Hid (∀ i j l, t[i]? = some j -> x[j]? = some l -> cs.take (i + 1) = cs.take i ++ [l]) := lh fun i j l h1 h2 => by
    rw [List.take_add_one, aL, List.getElem?_map, h1]
    show _ ++ [x.getD j []] = _
    rw [Jqu h2]
   have fR : SE w B gm t (cs.take 0) (.slice A8 k c8) (.slice none 0 0) (w7.alloc (.cells #[.slice none 0 0] 30)) := ⟨dL.bel, dL.res, dL.taken, iW, OwnS.nil _ _ _, (fun b h => by cases h), fQ⟩
   have HI := lh fR
   have HTT := lh (And.intro y9 o8)
   clear j6 dL iW fQ aL fR y9 o8 ht e8 dY HLN HLT HST HG5
   go_wp2_with fail
   try rw [hgm]
   clear hgm
   go_loopw [122] (fun p wr => ∃ (i : Nat) (Am : Option Addr) (cm : Nat), i <= k /\ p = .int .i64 (i : Int) /\ SE w B gm t (cs.take i) (.slice A8 k c8) (.slice Am i cm) wr) (fun p _ => k - (intOf p).toNat)
   case atStart => exact ⟨0, _, _, by omega, rfl, HI.out⟩
   case round =>
    obtain ⟨i, Am, cm, hi, rfl, aD⟩ := hrel
    rename World => wr
    clear HI
    by_cases iG : i < k
    ·have k2 : (i : Int) < (k : Int) := by omega
     have bN := aD.taken.reads
     rw [HTT.out.1] at bN
     obtain ⟨ad2, go, oo, j, rfl, kD, kE, aR, b1⟩ := Reads.at1m bN iG
     have gD : j < n := HTT.out.2 j (List.mem_of_getElem? aR)
     have k3 : (j : Int) < (n : Int) := by omega
     obtain ⟨l, hl⟩ : ∃ l, x[j]? = some l := ⟨_, List.getElem?_eq_getElem (by have := HXL.out; omega)⟩
     obtain ⟨ad, Aj, mj, cj, hA, j7, x9, p8⟩ := H.out.at_ hl
     obtain rfl := Option.some.inj hA
     obtain rfl : mj = m1 := by rw [<- p8.len]; exact HX.out l (List.mem_of_getElem? hl)
     have mN := HX.out l (List.mem_of_getElem? hl)
     obtain ⟨y0, iX⟩ : ∃ y, l[0]? = some y := ⟨_, List.getElem?_eq_getElem (by omega)⟩
     obtain ⟨ad', g', o', rfl, mO, -, -⟩ := ReadsQ.at_ p8 iX
     obtain ⟨g1, o1, kW, -⟩ := Xy (w := w) (ad := ad') (k := 0) (by
      obtain ⟨ad9, g9, o9, e9, h9, -, mP⟩ := ReadsQ.at_ p8 iX
      obtain rfl := Option.some.inj e9
      rw [Nat.zero_mul] at h9
      rw [h9]
      exact mP.c5.1)
     rw [Addr.add_zero'] at kW
     subst kW
     obtain ⟨gy, oy, iO, fK⟩ := Xy x9
     rw [iO] at x9
     have aM : gy < B := by rw [fK]; exact j7
     have dU := aD.bel.cell (p := ⟨gy, oy, none⟩) aM
     rw [x9] at dU
     have b2 := At1.mk' dU
     have kX := fun w' (hb : Below wr.heap.size wr w') => (Jnq g1 o1 mj cj B l w' (p8.below (aD.bel.trans (hb.mono (nt HBB.out aD.bel.size)))) (nt HBB.out (nt aD.bel.size hb.size)) (by omega)).mono (by
      rintro e w'' ⟨A, c, rfl, ho, -, mQ⟩
      exact ⟨_, rfl, ⟨A, c, rfl⟩, ho, mQ⟩ : ∀ e w'', _ -> ∃ v, e = Ending.returned v /\ (∃ A c, v = Value.slice A mj c) /\ OwnQ w'' v l /\ Below w'.heap.size w' w'')
     have aB := HCA.out i j l aR hl
     unfold iv at b1
     obtain ⟨x0, -⟩ := b1.c2
     have HCL := lh kX
     have HCN := lh aB
     have HSE := lh aD
     have HLK := lh (show (cs.take i).length <= 1000000 by rw [List.length_take]; omega)
     have HN2 : Hid ((cs.take i ++ [l]).length = i + 1) := lh (by rw [List.length_append, List.length_take, HCS.out]; simp; omega)
     have HC := lh (And.intro x9 aM)
     have b9 := At1.mk' aD.box.c1
     clear kX aB aD bN aR hl hA j7 x9 p8 dU fK aM iX mO mN b1
     go_upto_region 28 with fail
     clear x0
     obtain ⟨eW, eX⟩ := b9.c2; have c9 := b9.drew; have cZ := c9.lt; obtain ⟨fO, fP⟩ := b2.c2; have c2 := b2.drew; have aC := c2.lt; have hc := Ji wr; go_region_law (first | (go_simp; go_at_call 104; (with_reducible refine (HCL.out _ hc).mono ?_); rintro e w1 ⟨v1, rfl, ⟨A1, c1c, iB⟩, bR, j0⟩; subst iB; (try clear aP bE); obtain ⟨c9, aP, bE⟩ := c9.zc2 j0; (try clear cZ); have cZ := c9.lt; (try clear j8 j9); obtain ⟨c2, j8, j9⟩ := c2.zc2 j0; (try clear aC); have aC := c2.lt; have hc := Ja hc j0) | (refine Jqe Tryz.kindQQ Tryz.eltQQ rfl (.tmp 127) (.tmp 133) rfl w1 _ (cs.take i) A1 mj c1c l (by simp [Act.eval, Act.put]) (OwnS.next Tryz.kindQQ HSE.out.rows hc) bR (by simp [Act.eval, Act.put]) HLK.out ?_; intro v7 w7 iY iJ; obtain ⟨A7, k7, mR⟩ := OwnS.formNz iY HN2.out; subst mR; have bV := (HSE.out.next hc HBB.out).grow iJ iY HBB.out; have kY := bV.2; have iZ := bV.1; have HS7 := lh kY; clear aP j8; obtain ⟨r0, r1, r2⟩ := iZ.f1; have HB9 := lh iZ; clear iY iJ bV kY iZ))
     all_goals
      go_wp2
      have x8 : Exc gm w7 (w7.setCell ⟨gm, 0, none⟩ (.slice A7 (i + 1) k7)) := (Exc.refl _ _).set_ _ _
      obtain ⟨z1, z2, z3, z4, z5⟩ := HS7.out
      have n1 : gm ≠ w.heap.size := by omega
      rw [<- HCN.out] at z4
      exact ⟨⟨i + 1, A7, k7, by omega, by go_num, ⟨Jqt z1 x8 HSE.out.hgm HBB.out, z2.exc x8 (fun e => n1 e.symm), z3.exc x8 (fun e => by
       obtain ⟨cs', fr', k3⟩ := Own.blk z3 e
       have k4 := HB9.out
       rw [Blk, k3] at k4
       injection k4 with k4
       injection k4 with _ k4 _
       exact absurd k4 (by decide)), by simpa using HB9.out.set_ 0 (.slice A7 (i + 1) k7), OwnQQ.excM z4 x8 HB9.out (by decide) (by decide), z5, HSE.out.hgm⟩⟩, by simp [intOf]; omega⟩
    obtain rfl : i = k := by omega
    have k2 : ¬ (i : Int) < (i : Int) := by omega
    rw [List.take_of_length_le (by rw [HCS.out]; exact Nat.le_refl _)] at aD
    have HSE := lh aD
    have x0 := aD.box.c1
    obtain ⟨r0, r1, r2⟩ := aD.res.f1
    clear aD
    go_wp2
    refine bodyPost_ret (v := .tuple #[.agg #[.slice Am i cm], .int .i64 0]) (by simp [results, Tryz.results54, go_sem, r2]) rfl ?_
    have x8 : Exc w.heap.size wr (wr.setCell ⟨w.heap.size, 0, none⟩ (.slice Am i cm)) := (Exc.refl _ _).set_ _ _
    exact ⟨_, rfl, by rw [HSM.out]; exact OwnQQ.excM HSE.out.rows x8 HSE.out.res (by decide) (by decide), Jqt HSE.out.bel x8 HBB.out HBB.out⟩
theorem Jqz (A : Option Addr) (c : Nat) (z : Int) (dv : Value) (w : World) :
  Calls Tryz.prog 54 #[.slice A 0 c, .int .i64 z, dv] w (Ret (.tuple #[.agg #[.slice none 0 0], .int .i64 5]) w) := by
 obtain ⟨b0, hB, hZ⟩ := bx1 w 30 #[.slice none 0 0]
 go_enter Tryz.func54, Tryz.ntmps54
 obtain ⟨r0, r1, r2⟩ := b0.f1
 go_wp2
 generalize (w.alloc (.cells #[.slice none 0 0] 30)) = W at *
 refine bodyPost_ret (v := .tuple #[.agg #[.slice none 0 0], .int .i64 5]) (by simp [results, Tryz.results54, go_sem, r0]) rfl ?_
 exact ⟨rfl, hB⟩
theorem Jq5 (A : Option Addr) (n c B : Nat) (z : Int) (x : List (List Rat)) (dv : Value) (w : World) (h : Xa w B A n x) (hB : B <= w.heap.size) (eB : 1 <= n) (hn : n <= 300) (dS : Ui x = true) (hz : z < 1 \/ 12 < z \/ (n : Int) < z) :
  Calls Tryz.prog 54 #[.slice A n c, .int .i64 z, dv] w (Ret (.tuple #[.agg #[.slice none 0 0], .int .i64 1]) w) := by
 have HEV := lh (fun w' (hb : Below w.heap.size w w') => Jfk A n c B x w' (h.below Xh (hb.mono hB)) (nt hB hb.size) (by omega))
 rw [dS] at HEV
 have d1 : ¬ (n : Int) < 1 := by omega
 have d2 : ¬ (300 : Int) < (n : Int) := by omega
 clear h hB
 obtain ⟨b0, hB, hZ⟩ := bx1 w 30 #[.slice none 0 0]
 have gA : z < 1 \/ (¬ z < 1 /\ 12 < z) \/ (¬ z < 1 /\ ¬ 12 < z /\ (n : Int) < z) := by omega
 rcases gA with e1 | ⟨e1, e2⟩ | ⟨e1, e2, e3⟩
 all_goals
  go_enter Tryz.func54, Tryz.ntmps54
  have HBW := lh hB
  go_wp2_with fail
  generalize (w.alloc (.cells #[.slice none 0 0] 30)) = W at *
  refine (HEV.out _ HBW.out).mono ?_
  rintro e w1 ⟨rfl, bU⟩
  have b1 := b0.below bU b0.lt
  have HB1 := lh (HBW.out.trans (bU.mono HBW.out.size))
  obtain ⟨r0, r1, r2⟩ := b1.f1
  clear bU HBW HEV hB b0
  go_wp2
  refine bodyPost_ret (v := .tuple #[.agg #[.slice none 0 0], .int .i64 1]) (by simp [results, Tryz.results54, go_sem, r2]) rfl ?_
  exact ⟨rfl, HB1.out.setCell zd _⟩
def RV (w : World) (v : Value) (k : Nat) (f : List (List Rat)) : Prop := ∃ A c, v = .slice A k c /\ Zx w w.heap.size A k f
theorem Jq6 (A : Option Addr) (n1 c1 : Nat) (zl : List Int) (zn zw zk : Int) (sd : Nat) (w : World) (h1 : ArgZ w A n1 c1 zl) (hn : I64 zn) (hw : I64 zw) (hk : I64 zk) (bT : sd < 18446744073709551616) (hT : Tab w) :
  Calls Tryz.prog 12 #[.slice A n1 c1, .int .i64 zn, .int .i64 zw, .int .i64 zk, .int .u64 (sd : Int)] w (Ret (.bool true) w) := by
 obtain ⟨nn, aU, fM⟩ := Ue zn 9 w hn.1 hn.2 (by omega) (by omega)
 obtain ⟨k3, jA, fL⟩ := Ue zw 3 w hw.1 hw.2 (by omega) (by omega)
 obtain ⟨k14, mS, fS⟩ := Ue zk 14 w hk.1 hk.2 (by omega) (by omega)
 obtain ⟨wd, hwd⟩ : ∃ wd, k3 + 1 = wd := ⟨_, rfl⟩
 have e2 : (k3 : Int) + 1 = (wd : Int) := by omega
 have e3 : IntKind.i64.wrap (wd : Int) = (wd : Int) := IntWalk.i64_in _ (by omega)
 obtain ⟨z, hz⟩ : ∃ z : Int, (k14 : Int) - 1 = z := ⟨_, rfl⟩
 have gL : -1 <= z /\ z <= 12 := by omega
 have ez : IntKind.i64.wrap z = z := IntWalk.i64_in _ (by omega)
 have aZ := Jcm A n1 c1 w.heap.size zl nn wd w ⟨h1.rd.1, h1.rd.2⟩ zd h1.cap h1.most (by omega) (by omega)
 have hx : ∀ l ∈ Qp zl wd nn, l.length = wd /\ ∀ y ∈ l, QS 5 y := fun l hl => by
  obtain ⟨zs', rfl⟩ := Zz hl
  exact ⟨Zf zs' wd, Zm zs' wd⟩
 have bK := Xp zl wd nn
 generalize Qp zl wd nn = x at *
 have HX := lh hx
 have HL := lh bK
 have HR1 := lh aZ
 have HP9 := lh fM
 have HP3 := lh fL
 have HP14 := lh fS
 have HT := lh hT
 have HIN := lh (Jgt (wd := wd) (k := 5) bK (by omega) (by omega) (fun l hl => (hx l hl).1) (fun l hl => (hx l hl).2) (by omega))
 have j0 : 1 <= wd := by omega
 have q8 : wd <= 3 := by omega
 clear hx bK aZ fM fL fS hT h1 hn hk hw hwd jA
 go_enter Tryz.func12, Tryz.ntmps12
 go_wp2_with fail
 refine (HP9.out _).mono ?_
 rintro e w1 ⟨rfl, rfl⟩
 go_wp2_with fail
 refine (HP3.out _).mono ?_
 rintro e w1 ⟨rfl, rfl⟩
 go_wp2_with fail
 refine HR1.out.mono ?_
 rintro e w1 ⟨v, rfl, jB, -, bU⟩
 obtain ⟨Ax, cx, hv⟩ := OwnS.form jB
 rw [HL.out] at hv
 subst hv
 have HX1 := lh jB
 have HB1 := lh bU
 clear jB bU HR1 HP9 HP3
 go_wp2_with fail
 refine (HP14.out _).mono ?_
 rintro e w2 ⟨rfl, rfl⟩
 clear HP14
 have HLE := lh (fun w' (hb : Below w1.heap.size w1 w') => Jko Ax nn cx w1.heap.size wd x w' ((OwnS.readS (fun h => OwnR.reads_ h) HX1.out).below Xf hb) hb.size (by omega) j0 (by omega) (fun l hl => (HX.out l hl).1))
 have HKN := lh (fun w' (hb : Below w1.heap.size w1 w') => Ug w' (HT.out.next (Ja HB1.out hb)))
 have HDN := lh (fun w' => Jst sd w')
 have mT : ∃ (r : Nat) (rows : List (List Rat)), ((nn < 1 /\ r = 5 /\ rows = []) \/ (1 <= nn /\ (z < 1 \/ 12 < z \/ (nn : Int) < z) /\ r = 1 /\ rows = []) \/ (1 <= nn /\ ∃ k : Nat, z = (k : Int) /\ 1 <= k /\ k <= 12 /\ k <= nn /\ r = 0 /\ rows = Jqo x k sd)) /\
   ∀ (w' : World) (A4 : Option Addr) (c4 : Nat), Below w1.heap.size w1 w' -> OwnQQ w' (.slice A4 nn c4) x ->
    Calls Tryz.prog 54 #[.slice A4 nn c4, .int .i64 z, .pointer (some ⟨w'.heap.size, 0, none⟩)] (w'.alloc (.cells #[.int .u64 (sd : Int)] 156)) fun e w'' => ∃ v, e = .returned (.tuple #[.agg #[v], .int .i64 (r : Int)]) /\ OwnQQ w'' v rows /\ Below w'.heap.size w' w'' := by
  by_cases h0 : nn < 1
  ·refine ⟨5, [], .inl ⟨h0, rfl, rfl⟩, fun w' A4 c4 hb ho => ?_⟩
   obtain rfl : nn = 0 := by omega
   refine (Jqz A4 c4 z _ _).mono ?_
   rintro e w'' ⟨rfl, x7⟩
   exact ⟨_, rfl, OwnS.nil _ _ _, Ja (Jb w' _) x7⟩
  have hq := fun w' (A4 : Option Addr) (c4 : Nat) (ho : OwnQQ w' (.slice A4 nn c4) x) => OwnS.readS (R := ReadsQ) (fun h => OwnQ.reads_ h) ho
  have dS : Ui x = true := Jfv (fun l hl => (HX.out l hl).1) j0 (by omega)
  by_cases gG : z < 1 \/ 12 < z \/ (nn : Int) < z
  ·refine ⟨1, [], .inr (.inl ⟨by omega, gG, rfl, rfl⟩), fun w' A4 c4 hb ho => ?_⟩
   refine (Jq5 A4 nn c4 w'.heap.size z x _ _ ((hq w' A4 c4 ho).below Xh (Jb w' _)) (Jb w' _).size (by omega) (by omega) dS gG).mono ?_
   rintro e w'' ⟨rfl, x7⟩
   exact ⟨_, rfl, OwnS.nil _ _ _, Ja (Jb w' _) x7⟩
  obtain ⟨k, hk⟩ := Int.eq_ofNat_of_zero_le (show 0 <= z by omega)
  refine ⟨0, Jqo x k sd, .inr (.inr ⟨by omega, k, hk, by omega, by omega, by omega, rfl, rfl⟩), fun w' A4 c4 hb ho => ?_⟩
  rw [hk]
  refine (Jrb A4 nn c4 wd w'.heap.size w'.heap.size 5 k sd x (w'.alloc (.cells #[.int .u64 (sd : Int)] 156)) ((hq w' A4 c4 ho).below Xh (Jb w' _)) (Blk.new w' _ _) (Jb w' _).size zd bT (by omega) (by omega) (by omega) (by omega) j0 (by omega) (fun l hl => (HX.out l hl).1) (by omega) (by omega) (fun l hl => (HX.out l hl).2) (fun w'' x7 => HT.out.next (Ja HB1.out (Ja hb ((Jb w' _).trans x7)))) dS).mono ?_
  rintro e w'' ⟨v, rfl, gE, x7⟩
  exact ⟨v, rfl, gE, (Jb w' _).trans x7⟩
 obtain ⟨r, rows, cL, aD⟩ := mT
 have HSE := lh aD
 have HCASE := lh cL
 obtain ⟨nr, fA⟩ : ∃ nr, rows.length = nr := ⟨_, rfl⟩
 have HNR := lh fA
 clear aD cL fA
 go_wp2_with fail
 refine (HIN.out _ _ _ HX1.out (HT.out.next HB1.out)).mono ?_
 rintro e w2 ⟨A4, c4, rfl, cB, x7⟩
 have HQ2 := lh cB
 have HB2 := lh x7
 clear cB x7
 go_wp2_with fail
 refine (HDN.out _).mono ?_
 rintro e w3 ⟨rfl, rfl⟩
 go_wp2_with fail
 refine (HSE.out _ _ _ HB2.out HQ2.out).mono ?_
 rintro e w3 ⟨v3, rfl, aY, aF⟩
 obtain ⟨A3, c3, bC⟩ := OwnS.formNz aY HNR.out
 subst bC
 have p7 := Jb w3 (.cells #[.slice A3 nr c3] 30)
 have B3 := lh (Blk.new w3 30 #[.slice A3 nr c3])
 have HM3 := lh (OwnS.next Tryz.kindQQ aY p7)
 have HB3 := lh (Ja HB2.out (Ja aF p7))
 clear aY aF p7 HQ2 HB2
 go_wp2_with fail
 refine (HIN.out _ _ _ (OwnS.next Tryz.kindRR HX1.out HB3.out) (HT.out.next (Ja HB1.out HB3.out))).mono ?_
 rintro e w4 ⟨A5, c5, rfl, eH, aK⟩
 have HQ4 := lh eH
 have B4 := lh (B3.out.below aK B3.out.lt)
 have HM4 := lh (OwnS.next Tryz.kindQQ HM3.out aK)
 have HB4 := lh (Ja HB3.out aK)
 clear eH aK B3 HM3 HB3 HIN
 go_wp2_with fail
 refine (HDN.out _).mono ?_
 rintro e w5 ⟨rfl, rfl⟩
 go_wp2_with fail
 refine (HSE.out _ _ _ HB4.out HQ4.out).mono ?_
 rintro e w5 ⟨v5, rfl, eH, cV⟩
 obtain ⟨A6, c6, eR⟩ := OwnS.formNz eH HNR.out
 subst eR
 have p7 := Jb w5 (.cells #[.slice A6 nr c6] 30)
 have b6 := Blk.new w5 30 #[.slice A6 nr c6]
 have HN6 := lh (OwnS.next Tryz.kindQQ eH p7)
 have HM6 := lh (OwnS.next Tryz.kindQQ HM4.out (Ja cV p7))
 have b4 := B4.out.below (Ja cV p7) B4.out.lt
 have HB6 := lh (Ja HB4.out (Ja cV p7))
 have B6 := lh b6
 have B7 := lh b4
 clear eH cV p7 HQ4 B4 HM4 HB4 b4 b6 HSE HDN
 go_wp2_with fail
 refine (HLE.out _ HB6.out).mono ?_
 rintro e w6 ⟨rfl, aG⟩
 have HN7 := lh (OwnS.next Tryz.kindQQ HN6.out aG)
 have HM7 := lh (OwnS.next Tryz.kindQQ HM6.out aG)
 have b6 := B6.out.below aG B6.out.lt
 have b4 := B7.out.below aG B7.out.lt
 have HB7 := lh (Ja HB6.out aG)
 have C6 := lh b6
 have C4 := lh b4
 clear aG B6 B7 HN6 HM6 HB6 HLE
 rcases HCASE.out with ⟨h0, rfl, rfl⟩ | ⟨h0, gG, rfl, rfl⟩ | ⟨h0, k, rfl, fV, fW, jA, rfl, jC⟩
 ·obtain rfl : nr = 0 := HNR.out.symm
  rw [show decide (1 <= nn) = false from decide_eq_false (by omega)]
  clear b6 b4
  go_wp2_with fail
  refine (HKN.out _ HB7.out).mono ?_
  rintro e w8 ⟨rfl, dZ⟩
  have x0 := (C4.out.below dZ C4.out.lt).c1
  have HB8 := lh (Ja HB7.out dZ)
  clear dZ
  go_wp2
  go_ret
  exact ⟨rfl, Ja HB1.out HB8.out⟩
 ·obtain rfl : nr = 0 := HNR.out.symm
  rw [show decide (1 <= nn) = true from decide_eq_true h0]
  have gA : z < 1 \/ (¬ z < 1 /\ ¬ 12 < z /\ (nn : Int) < z) := by omega
  clear b6 b4 gG
  rcases gA with f1 | ⟨f1, f2, f3⟩
  all_goals
   go_wp2_with fail
   refine (HKN.out _ HB7.out).mono ?_
   rintro e w8 ⟨rfl, dZ⟩
   have x0 := (C4.out.below dZ C4.out.lt).c1
   have HB8 := lh (Ja HB7.out dZ)
   clear dZ
   go_wp2
   go_ret
   exact ⟨rfl, Ja HB1.out HB8.out⟩
 rw [show decide (1 <= nn) = true from decide_eq_true h0]
 subst jC
 have mU : (Jqo x k sd).length = nr := HNR.out
 have jD : (Jqo x k sd).length = k := by unfold Jqo; rw [List.length_map, Jqq]; omega
 obtain rfl : nr = k := by omega
 have f1 : ¬ (nr : Int) < 1 := by omega
 have f2 : ¬ (12 : Int) < (nr : Int) := by omega
 have f3 : ¬ (nn : Int) < (nr : Int) := by omega
 have aQ : ∀ l ∈ Jqo x nr sd, l ∈ x := fun l hl => by
  unfold Jqo at hl
  obtain ⟨j, hj, rfl⟩ := List.mem_map.1 hl
  have := Jqx (x := x) (s := sd) (nr - 1) (by rw [HL.out]; omega) j hj
  rw [List.getD_eq_getElem?_getD, List.getElem?_eq_getElem this]
  exact List.getElem_mem _
 have cJ : ∀ l ∈ Jqo x nr sd, l.length <= 1000000 /\ ∀ y ∈ l, QS 5 y := fun l hl => ⟨by rw [(HX.out l (aQ l hl)).1]; omega, (HX.out l (aQ l hl)).2⟩
 have HRS := lh (fun w' (hb : Below w6.heap.size w6 w') => (Jr8 Ax nn cx wd w'.heap.size w'.heap.size 5 nr sd x (w'.alloc (.cells #[.int .u64 (sd : Int)] 106)) (((OwnS.readS (R := ReadsR) (fun h => OwnR.reads_ h) (OwnS.next Tryz.kindRR HX1.out (Ja HB7.out hb)))).below Xf (Jb w' _)) (Blk.new w' _ _) (Jb w' _).size zd bT fV jA (by omega) (by omega) (fun l hl => (HX.out l hl).1) (by omega) (by omega) (fun l hl => (HX.out l hl).2)).mono (by
  rintro e w'' ⟨A, c, rfl, hr, x7⟩
  exact ⟨_, rfl, ⟨A, c, rfl⟩, ⟨A, c, rfl, hr⟩, (Jb w' _).trans x7⟩ : ∀ e w'', _ -> ∃ v, e = Ending.returned v /\ (∃ A c, v = Value.slice A nr c) /\ RV w'' v nr (Jqo x nr sd) /\ Below w'.heap.size w' w''))
 have HSR := lh (fun w' (hb : Below w6.heap.size w6 w') (A : Option Addr) (c : Nat) (h : RV w' (.slice A nr c) nr (Jqo x nr sd)) => (by
  obtain ⟨A', c', e, hr⟩ := h
  injection e with e1 e2 e3
  subst e1
  exact Jfb A3 A nr c3 c w'.heap.size w'.heap.size (Jqo x nr sd) w' (OwnS.readS (fun h => OwnQ.reads_ h) (OwnS.next Tryz.kindQQ HM7.out hb)) hr zd zd (by omega) (fun l hl => ⟨(cJ l hl).1, fun y hy => ((cJ l hl).2 y hy).mono (by omega)⟩) : Calls Tryz.prog 22 #[.slice A3 nr c3, .slice A nr c] w' (Ret (.bool true) w')))
 have HSM := lh (fun w' (hb : Below w6.heap.size w6 w') => Jqh A3 A6 nr c3 c6 w'.heap.size w'.heap.size (Jqo x nr sd) w' (OwnS.readS (fun h => OwnQ.reads_ h) (OwnS.next Tryz.kindQQ HM7.out hb)) (OwnS.readS (fun h => OwnQ.reads_ h) (OwnS.next Tryz.kindQQ HN7.out hb)) zd zd (by omega) (fun l hl => ⟨(cJ l hl).1, fun y hy => ((cJ l hl).2 y hy).mono (by omega)⟩))
 have HKN2 := lh (fun w' (hb : Below w6.heap.size w6 w') => HKN.out w' (Ja HB7.out hb))
 obtain ⟨ga, bS⟩ : ∃ g, w3.heap.size = g := ⟨_, rfl⟩
 obtain ⟨gb, jE⟩ : ∃ g, w5.heap.size = g := ⟨_, rfl⟩
 rw [bS] at C4
 rw [jE] at C6
 clear b6 b4 mU jD aQ cJ HCASE HKN HN7 HM7 HX1 fW
 go_upto_region 9 with fail
 try rw [bS]
 try rw [jE]
 clear bS jE
 have b1 := At1.mk' C4.out.c1
 have b2 := At1.mk' C6.out.c1
 obtain ⟨iU, iV⟩ := b1.c2; have c1 := b1.drew; have aT := c1.lt; obtain ⟨fO, fP⟩ := b2.c2; have c2 := b2.drew; have aC := c2.lt; have hc := Ji w6; go_region_held3 (fun w' => w'.cell? ⟨ga, 0, none⟩ = some (.slice A3 nr c3) /\ w'.cell? ⟨gb, 0, none⟩ = some (.slice A6 nr c6)) (go_keep) (first | (go_at_call 20; (with_reducible refine (HKN2.out _ hc).mono ?_); rintro e w1 ⟨rfl, j0⟩; (try clear o6 o7); obtain ⟨c1, o6, o7⟩ := c1.zc2 j0; (try clear aT); have aT := c1.lt; (try clear j8 j9); obtain ⟨c2, j8, j9⟩ := c2.zc2 j0; (try clear aC); have aC := c2.lt; have hc := Ja hc j0) | (go_at_call 56; (with_reducible refine (HRS.out _ hc).mono ?_); rintro e w2 ⟨v2, rfl, ⟨A2, c2c, gS⟩, p9, u4⟩; subst gS; (try clear o6 o7); obtain ⟨c1, o6, o7⟩ := c1.zc2 u4; (try clear aT); have aT := c1.lt; (try clear j8 j9); obtain ⟨c2, j8, j9⟩ := c2.zc2 u4; (try clear aC); have aC := c2.lt; have hc := Ja hc u4) | (go_at_call 22; (with_reducible refine (HSR.out _ hc _ _ p9).mono ?_); rintro e w3 ⟨rfl, q8⟩; (try clear o6 o7); obtain ⟨c1, o6, o7⟩ := c1.zc2 q8; (try clear aT); have aT := c1.lt; (try clear j8 j9); obtain ⟨c2, j8, j9⟩ := c2.zc2 q8; (try clear aC); have aC := c2.lt; have hc := Ja hc q8) | (go_at_call 47; (with_reducible refine (HSM.out _ hc).mono ?_); rintro e w4 ⟨rfl, aV⟩; (try clear o6 o7); obtain ⟨c1, o6, o7⟩ := c1.zc2 aV; (try clear aT); have aT := c1.lt; (try clear j8 j9); obtain ⟨c2, j8, j9⟩ := c2.zc2 aV; (try clear aC); have aC := c2.lt; have hc := Ja hc aV))
 all_goals
  go_wp2
  go_ret
  exact ⟨rfl, Ja (Ja HB1.out HB7.out) hc⟩
