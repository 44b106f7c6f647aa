import Derived.Test.YtecnjlcfoobepaaGreatDoorLinkFine
namespace Go.Proofs.YtecnjlcfoobepaaGreatDoor
set_option maxRecDepth 100000
set_option maxHeartbeats 4000000
open Go.RowKit
set_option linter.all false
theorem Jex (x : Int) : ∀ (l : List Int) (i : Nat), Lib.idxFrom l x i = if x ∈ l then ((i + l.idxOf x : Nat) : Int) else -1
 | [], i => by simp [Lib.idxFrom]
 | z :: l, i => by
  by_cases h : z = x
  ·subst h; simp [Lib.idxFrom]
  have h2 : ¬ x = z := fun e => h e.symm
  have e : (z :: l).idxOf x = l.idxOf x + 1 := by rw [List.idxOf_cons, beq_false_of_ne h]; rfl
  rw [e]
  simp only [Lib.idxFrom, if_neg h, Jex x l (i + 1), List.mem_cons, h2, false_or]
  split
  ·congr 1; omega
  rfl
theorem Jjm (l : List Int) (x : Int) : Lib.idxOf (l.take l.length) x = if x ∈ l then ((l.idxOf x : Nat) : Int) else -1 := by
 rw [List.take_length]
 unfold Lib.idxOf
 rw [Jex, Nat.zero_add]
section
variable {α : Type} {n i : Nat} {r z : Nat -> α}
def Xl (n : Nat) (r z : Nat -> α) (i : Nat) : List α := (List.range n).map fun k => if k < i then r k else z k
theorem Ky (n : Nat) (r z : Nat -> α) : Xl n r z 0 = (List.range n).map z := by
 unfold Xl
 exact List.map_congr_left fun i _ => by rw [if_neg (Nat.not_lt_zero _)]
theorem Kz (n : Nat) (r z : Nat -> α) : Xl n r z n = (List.range n).map r := by
 unfold Xl
 refine List.map_congr_left fun i hi => ?_
 rw [if_pos (List.mem_range.1 hi)]
theorem Kq (n : Nat) (r z : Nat -> α) (i : Nat) : (Xl n r z i).length = n := by simp [Xl]
theorem Vh (hi : i < n) : (Xl n r z i)[i]? = some (z i) := by
 unfold Xl
 rw [List.getElem?_map, List.getElem?_range hi]
 simp
theorem Kp {x : α} (hx : r i = x) : (Xl n r z i).set i x = Xl n r z (i + 1) := by
 unfold Xl
 refine List.ext_getElem (by simp) fun k h1 h2 => ?_
 rw [List.getElem_set]
 simp only [List.getElem_map, List.getElem_range]
 by_cases bJ : i = k
 ·subst bJ; rw [if_pos rfl, if_pos (by omega), hx]
 rw [if_neg bJ]
 by_cases x9 : k < i
 ·rw [if_pos x9, if_pos (show k < i + 1 by omega)]
 rw [if_neg x9, if_neg (show ¬ k < i + 1 by omega)]
theorem Je2 (hx : r i = z i) : Xl n r z i = Xl n r z (i + 1) := by
 unfold Xl
 refine List.map_congr_left fun k _ => ?_
 by_cases bJ : k = i
 ·subst bJ; rw [if_neg (by omega), if_pos (by omega), hx]
 by_cases x9 : k < i
 ·rw [if_pos x9, if_pos (show k < i + 1 by omega)]
 rw [if_neg x9, if_neg (show ¬ k < i + 1 by omega)]
end
def Jem (n : Nat) (J : Nat -> Jn) (k : Nat) : List Int := (List.range n).map fun r => Jk n J r k
def Xq (g : Nat -> Int) (r : Nat) : Int := (Yo g r : Int)
def Qn (n : Nat) (J : Nat -> Jn) (k : Nat) : List Int := (List.range n).map (Xq fun r => Jk n J r k)
theorem Jl6 {g : Nat -> Int} {r : Nat} (h : g r ∈ Jy g r) : Jy g (r + 1) = Jy g r := by
 conv => lhs; unfold Jy
 rw [if_pos h]
theorem Jio {g : Nat -> Int} {r : Nat} (h : ¬ g r ∈ Jy g r) : Jy g (r + 1) = Jy g r ++ [g r] /\ Yo g r = (Jy g r).length := by
 refine ⟨?_, ?_⟩
 ·conv => lhs; unfold Jy
  rw [if_neg h]
 unfold Yo
 exact List.idxOf_eq_length h
theorem Jdg (g : Nat -> Int) : ∀ r, (Jy g r).length <= r := by
 intro r
 induction r with
 | zero => exact Nat.le_refl _
 | succ r ih => rw [Jm2]; split <;> omega
theorem Jg9 (A : Option Addr) (m c B : Nat) (l : List Int) (x : Int) (w : World) (h : Reads w B 1 A m (l.map zi)) (hm : m <= 1000000) :
  Calls Tryz.prog 123 #[.slice A m c, .int .i64 x] w fun e w' => e = .returned (.int .i64 (if x ∈ l then ((l.idxOf x : Nat) : Int) else -1)) /\ w = w' := by
 rw [<- Jjm]
 have o5 : m = l.length := by simpa using h.1.symm
 obtain ⟨z, hz⟩ : ∃ z, Lib.idxOf (l.take l.length) x = z := ⟨_, rfl⟩
 have HHIT : Hid (∀ k, k < m -> l.getD k 0 = x -> (∀ j, j < k -> l.getD j 0 ≠ x) -> z = (k : Int)) := lh fun k hk e aA => by
  rw [<- hz]
  exact Lib.idxOf_hit l l.length k x (by omega) zd e aA
 have HMISS : Hid ((∀ j, j < m -> l.getD j 0 ≠ x) -> z = -1) := lh fun aA => by
  rw [<- hz]
  exact Lib.idxOf_miss l l.length x fun j hj => aA j (by omega)
 rw [hz]
 have H := lh h
 clear h o5 hz
 go_enter Tryz.func123, Tryz.ntmps123
 go_wp2
 go_loopw [8] (fun i wr => ∃ k : Nat, k <= m /\ i = .int .i64 k /\ Hid (∀ j, j < k -> l.getD j 0 ≠ x) /\ w = wr) (fun i _ => m - (intOf i).toNat)
 case atStart => exact ⟨0, Nat.zero_le _, rfl, lh (fun j hj => absurd hj (Nat.not_lt_zero _)), rfl⟩
 case round =>
  obtain ⟨k, hk, rfl, aA, rfl⟩ := hrel
  by_cases x9 : k < m
  ·obtain ⟨ad, y, hA, hb, hy, hc⟩ := H.out.atf x9
   subst hA
   unfold zi at hc
   have bQ : (k : Int) < (m : Int) := by omega
   have cL : l.getD k 0 = y := by rw [List.getD_eq_getElem?_getD, hy]; rfl
   have HYD := lh cL
   clear hy cL
   by_cases aS : x = y
   ·have f1 : (x == y) = true := by simpa using aS
    have HZ := lh (HHIT.out k x9 (HYD.out.trans aS.symm) aA.out)
    have aS := lh aS
    go_wp2
    go_ret
    exact ⟨Uh HZ.out.symm, rfl⟩
   have f1 : (x == y) = false := by simpa using aS
   have HN : Hid (∀ j, j < k + 1 -> l.getD j 0 ≠ x) := lh fun j hj e => by
    by_cases bK : j = k
    ·subst bK
     exact aS (e.symm.trans HYD.out)
    exact aA.out j (by omega) e
   go_wp2
   exact ⟨⟨k + 1, by omega, by go_num, HN, by trivial⟩, by simp [intOf]; omega⟩
  obtain rfl : k = m := by omega
  have bQ : ¬ (k : Int) < (k : Int) := by omega
  have HZ := lh (HMISS.out aA.out)
  go_wp2
  go_ret
  exact ⟨Uh HZ.out.symm, rfl⟩
theorem Jjb (A : Option Addr) (n len c : Nat) (l : List Jn) (w : World) (h : OwnJ w (.slice A len c) l) (y8 : 1 <= n) (hn : n <= 64) (o5 : len <= 64) :
  Calls Tryz.prog 85 #[.int .i64 (n : Int), .slice A len c] w fun e w' => ∃ g, e = .returned (.slice (some ⟨g, 0, none⟩) n n) /\ w.heap.size <= g /\ Own w' 3 zi (.slice (some ⟨g, 0, none⟩) n n) (Qn n (fun i => l.getD i default) len) /\ Below w.heap.size w w' := by
 have aX : len = l.length := by
  obtain ⟨A', c', h4, -⟩ := OwnW.form h
  injection h4
 have HO := lh h
 have HLL := lh aX
 clear h aX
 obtain ⟨J, hJ⟩ : ∃ J, (fun i => l.getD i default) = J := ⟨_, rfl⟩
 rw [hJ]
 have HJ : Hid (∀ k j, l[k]? = some j -> J k = j) := lh fun k j hj => by
  rw [<- hJ]
  show l.getD k default = j
  rw [List.getD_eq_getElem?_getD, hj]
  rfl
 clear hJ
 obtain ⟨w1, cM, bL, o0⟩ := Jap (P := Tryz.prog) zi 0 22 3 8 (Tryz.eltIntR).under (Tryz.eltIntR).info rfl n n zd (by omega) (by unfold maxLen; omega) w
 obtain ⟨gs, cN⟩ : ∃ gs, w.heap.size = gs := ⟨_, rfl⟩
 have j8 : w.heap.size <= gs := by omega
 rw [cN] at cM bL
 have aY : List.replicate n (0 : Int) = Xl n (fun i => (i : Int)) (fun _ => 0) 0 := by
  rw [Ky]
  exact List.ext_getElem (by simp) fun a h1 h2 => by simp
 rw [aY] at bL
 have HO1 := lh bL
 have HB1 := lh o0
 clear bL o0 cN aY
 go_enter Tryz.func85, Tryz.ntmps85
 go_wp2_with fail
 clear cM
 go_loopw [19] (fun p wr => ∃ i : Nat, i <= n /\ p = .int .i64 (i : Int) /\ Own wr 3 zi (.slice (some ⟨gs, 0, none⟩) n n) (Xl n (fun i => (i : Int)) (fun _ => 0) i) /\ Below w.heap.size w wr) (fun p _ => n - (intOf p).toNat)
 case atStart => exact ⟨0, by omega, rfl, HO1.out, HB1.out⟩
 case round =>
  obtain ⟨i, hi, rfl, ho, j6⟩ := hrel
  rename World => wr
  clear HO1 HB1
  by_cases bR : i < n
  ·have q4 : (i : Int) < (n : Int) := by omega
   have bM := ho.putc i (i : Int)
   have bN := ho.frozenc i
   have s9 := Own.cellf (by rw [Kq]; exact ho) (Vh bR)
   rw [Kp rfl] at bM
   unfold zi at bM s9
   have HST := lh bM
   have HBW := lh j6
   clear ho j6 bM
   go_wp2
   exact ⟨⟨i + 1, by omega, by go_num, HST.out, HBW.out.setCell j8 _⟩, by simp [intOf]; omega⟩
  obtain rfl : i = n := by omega
  have q4 : ¬ (i : Int) < (i : Int) := by omega
  rw [Kz] at ho
  have ho : Own wr 3 zi (.slice (some ⟨gs, 0, none⟩) i i) (Jem i J 0) := ho
  have HO1 := lh ho
  have HB1 := lh j6
  clear ho j6
  go_wp2_with fail
  clear q4
  go_loopw [29] (fun p wr => ∃ k : Nat, k <= len /\ p = .int .i64 ((k : Nat) : Int) /\ Own wr 3 zi (.slice (some ⟨gs, 0, none⟩) i i) (Jem i J k) /\ Below w.heap.size w wr) (fun p _ => len - (intOf p).toNat)
  case atStart => exact ⟨0, by omega, rfl, HO1.out, HB1.out⟩
  case round =>
   obtain ⟨k, hk, rfl, ho, j6⟩ := hrel
   rename World => wr
   clear HO1 HB1
   by_cases dC : k < len
   ·have p0 : (k : Int) < (len : Int) := by omega
    obtain ⟨j, hj⟩ : ∃ j, l[k]? = some j := ⟨_, List.getElem?_eq_getElem (by have := HLL.out; omega)⟩
    obtain ⟨-, g1, bS⟩ := OwnJ.addr HO.out (by have := HLL.out; omega)
    subst bS
    have aZ := OwnJ.at_ (OwnW.next HO.out j6) hj
    have bK := HJ.out k j hj
    obtain ⟨x0, x1, x2, x3, x4, x5, x6, x7⟩ := aZ.c8
    obtain ⟨ja, jb, s, q⟩ := j
    have HC := lh ho
    have HBW := lh j6
    have bT := ho.lt gs rfl
    have HJK := lh bK
    clear j6 ho aZ hj bK
    go_upto_region 9 with fail
    go_cut [7, 8] (fun v p wc => v = .int .i64 (k : Int) /\ ∃ gj, p = .pointer (some ⟨gj, 0, none⟩) /\ Blk wc gj 58 (jA ⟨ja, jb, s, q⟩) /\ gj ≠ gs /\ Own wc 3 zi (.slice (some ⟨gs, 0, none⟩) i i) (Jem i J k) /\ Below w.heap.size w wc)
    case first =>
     go_wp2
     go_meet
     (with_reducible refine ⟨rfl, wr.heap.size, rfl, Blk.new _ _ _, by omega, ?_, ?_⟩)
     ·exact HC.out.alloc _
     exact Ja HBW.out (Jb _ _)
    case rest =>
     obtain ⟨rfl, gj, rfl, aB, cO, ho, j6⟩ := hcut
     clear x0 x1 x2 x3 x4 x5 x6 x7 HC HBW
     have hz : Jem i J k = Xl i (fun r => Jk i J r (k + 1)) (fun r => Jk i J r k) 0 := (Ky _ _ _).symm
     rw [hz] at ho
     have HC := lh ho
     have HBW := lh j6
     have HBJ := lh aB
     clear ho j6 aB hz
     obtain ⟨N, hN⟩ : ∃ N, i + k = N := ⟨_, rfl⟩
     have e1 : (i : Int) + (k : Int) = (N : Int) := by omega
     have HN := lh hN
     have dI : N <= i + k := by omega
     clear hN
     go_wp2_with fail
     go_loopw [36] (fun p wr => ∃ r : Nat, r <= i /\ p = .int .i64 ((r : Nat) : Int) /\ Own wr 3 zi (.slice (some ⟨gs, 0, none⟩) i i) (Xl i (fun r => Jk i J r (k + 1)) (fun r => Jk i J r k) r) /\ Blk wr gj 58 (jA ⟨ja, jb, s, q⟩) /\ Below w.heap.size w wr) (fun p _ => i - (intOf p).toNat)
     case atStart => exact ⟨0, by omega, rfl, HC.out, HBJ.out, HBW.out⟩
     case round =>
      obtain ⟨r, hr, rfl, ho, aB, j6⟩ := hrel
      rename World => wd
      clear HC HBW HBJ
      by_cases bO : r < i
      ·have p1 : (r : Int) < (i : Int) := by omega
       have aZ : Blk wd gj 58 #[.int .i64 ja, .int .i64 jb, .int .i64 s, .bool (decide (q.num < 0)), .int .u64 (lo q.num.natAbs : Int), .string (mo q.num.natAbs), .int .u64 (lo ((qden q)) : Int), .string (mo ((qden q)))] := aB
       obtain ⟨x0, x1, x2, x3, x4, x5, x6, x7⟩ := aZ.c8
       have s9 := Own.cellf (by rw [Kq]; exact ho) (Vh (r := fun r => Jk i J r (k + 1)) (z := fun r => Jk i J r k) bO)
       have bN := ho.frozenc r
       have hs := Jcc i J r k
       rw [HJK.out, HN.out] at hs
       unfold zi at s9
       obtain ⟨x, hx⟩ : ∃ x, Jk i J r k = x := ⟨_, rfl⟩
       rw [hx] at s9 hs
       have HX := lh hx
       have HS := lh hs
       have HC := lh ho
       have HBW := lh j6
       have HBJ := lh aB
       clear ho j6 aB aZ hx hs
       have bA : Jk i J r (k + 1) = (N : Int) -> Own (wd.setCell ⟨gs, r, none⟩ (.int .i64 (N : Int))) 3 zi (.slice (some ⟨gs, 0, none⟩) i i) (Xl i (fun r => Jk i J r (k + 1)) (fun r => Jk i J r k) (r + 1)) := fun e => by
        have := HC.out.putc r (N : Int)
        rw [Kp (r := fun r => Jk i J r (k + 1)) e] at this
        exact this
       have HPUT := lh bA
       clear bA
       by_cases aT : x = ja
       ·have f1 : (x == ja) = true := by simpa using aT
        have HS2 := lh (HS.out.trans (if_pos (Or.inl aT)))
        have aT := lh aT
        go_wp2
        exact ⟨⟨r + 1, by omega, by go_num, HPUT.out HS2.out, HBJ.out.far (p := ⟨gs, r, none⟩) cO _, HBW.out.setCell j8 _⟩, by simp [intOf]; omega⟩
       have f1 : (x == ja) = false := by simpa using aT
       by_cases aU : x = jb
       ·have f2 : (x == jb) = true := by simpa using aU
        have HS2 := lh (HS.out.trans (if_pos (Or.inr aU)))
        have aU := lh aU
        go_wp2
        exact ⟨⟨r + 1, by omega, by go_num, HPUT.out HS2.out, HBJ.out.far (p := ⟨gs, r, none⟩) cO _, HBW.out.setCell j8 _⟩, by simp [intOf]; omega⟩
       have f2 : (x == jb) = false := by simpa using aU
       have HS2 := lh (HS.out.trans (if_neg (fun e => e.elim aT aU)))
       go_wp2
       exact ⟨⟨r + 1, by omega, by go_num, by rw [<- Je2 (r := fun r => Jk i J r (k + 1)) (z := fun r => Jk i J r k) (HS2.out.trans HX.out.symm)]; exact HC.out, HBJ.out, HBW.out⟩, by simp [intOf]; omega⟩
      obtain rfl : r = i := by omega
      have p1 : ¬ (r : Int) < (r : Int) := by omega
      rw [Kz] at ho
      have HC := lh ho
      have HBW := lh j6
      clear ho j6 aB
      go_wp2
      exact ⟨⟨k + 1, by omega, by go_num, HC.out, HBW.out⟩, by simp [intOf]; omega⟩
   obtain rfl : k = len := by omega
   have p0 : ¬ (k : Int) < (k : Int) := by omega
   obtain ⟨g, hg⟩ : ∃ g, (fun r => Jk i J r k) = g := ⟨_, rfl⟩
   have hz : Jem i J k = Xl i (Xq g) g 0 := by rw [Ky]; unfold Jem; rw [hg]
   rw [hz] at ho
   have HGZ : Hid (Qn i J k = (List.range i).map (Xq g)) := lh (by unfold Qn; rw [hg])
   have HC := lh ho
   have HBW := lh j6
   have bT := ho.lt gs rfl
   clear ho j6 hz hg
   go_wp2_with fail
   go_loopw [11, 61] (fun vs p wr => ∃ r : Nat, r <= i /\ p = .int .i64 ((r : Nat) : Int) /\ Own wr 3 zi vs (Jy g r) /\ Hid (∀ b, vs.ownBlock = some b -> gs + 1 <= b) /\ Own wr 3 zi (.slice (some ⟨gs, 0, none⟩) i i) (Xl i (Xq g) g r) /\ Below w.heap.size w wr) (fun _ p _ => i - (intOf p).toNat)
   case atStart => exact ⟨0, by omega, rfl, Own.nil_ _ _ _, lh (fun b hb => by cases hb), HC.out, HBW.out⟩
   case round =>
    obtain ⟨r, hr, rfl, t7, aV, ho, j6⟩ := hrel
    rename World => wd
    clear HC HBW p0 bT
    by_cases bO : r < i
    ·have p1 : (r : Int) < (i : Int) := by omega
     have s9 := Own.cellf (by rw [Kq]; exact ho) (Vh (r := Xq g) (z := g) bO)
     have bN := ho.frozenc r
     have bT := ho.lt gs rfl
     unfold zi at s9
     obtain ⟨As, cs, cP, -⟩ := Own.form t7
     have dD := Jdg g r
     obtain ⟨sn, cQ⟩ : ∃ sn, Jy g r = sn := ⟨_, rfl⟩
     have h1 := @Jl6 g r
     have h2 := @Jio g r
     have bB : Yo g r = (Jy g r).idxOf (g r) := rfl
     rw [cQ] at cP t7 dD h1 h2 bB
     subst cP
     obtain ⟨m, hm⟩ : ∃ m, sn.length = m := ⟨_, rfl⟩
     obtain ⟨x, hx⟩ : ∃ x, g r = x := ⟨_, rfl⟩
     rw [hx] at s9 h1 h2 bB
     have bU := Jjm sn x
     have dE : m <= 64 := by omega
     have cR : ∀ w', Below wd.heap.size wd w' -> Calls Tryz.prog 123 #[.slice As m cs, .int .i64 x] w' fun e w'' => e = .returned (.int .i64 (if x ∈ sn then ((sn.idxOf x : Nat) : Int) else -1)) /\ w' = w'' := fun w' hb => Jg9 As m cs w'.heap.size sn x w' (by have := (t7.below hb t7.lt).reads; rw [hm] at this; exact this) (by omega)
     rw [hm] at t7 aV ⊢
     have HIX := lh cR
     have HSE := lh t7
     have HC := lh ho
     have HBW := lh j6
     have HM := lh hm
     have HX := lh hx
     clear t7 ho j6 hm cQ hx bU cR
     by_cases j9 : x ∈ sn
     ·have bC := h1 j9
      have aW : Xq g r = ((sn.idxOf x : Nat) : Int) := by unfold Xq; rw [bB]
      rw [if_pos j9] at HIX
      obtain ⟨d, hd⟩ : ∃ d, sn.idxOf x = d := ⟨_, rfl⟩
      rw [hd] at HIX aW
      have HPUT : Hid (Own (wd.setCell ⟨gs, r, none⟩ (.int .i64 (d : Int))) 3 zi (.slice (some ⟨gs, 0, none⟩) i i) (Xl i (Xq g) g (r + 1))) := lh (by
       have := HC.out.putc r (d : Int)
       rw [Kp (r := Xq g) aW] at this
       exact this)
      have HS2 : Hid (Own (wd.setCell ⟨gs, r, none⟩ (.int .i64 (d : Int))) 3 zi (.slice As m cs) (Jy g (r + 1))) := lh (by
       rw [bC]
       exact HSE.out.exc ((Exc.refl gs wd).set_ r _) (fun e => by have := aV.out gs e; omega))
      have d0 : ¬ (d : Int) < 0 := by omega
      clear h1 h2 bB bC aW hd j9
      go_wp2_with fail
      refine (HIX.out _ (Below.refl _ _)).mono ?_
      rintro e w2 ⟨rfl, rfl⟩
      go_wp2
      exact ⟨⟨r + 1, by omega, by go_num, HS2.out, aV, HPUT.out, HBW.out.setCell j8 _⟩, by simp [intOf]; omega⟩
     obtain ⟨bC, bD⟩ := h2 j9
     have aW : Xq g r = ((m : Nat) : Int) := by unfold Xq; rw [bD, HM.out]
     rw [if_neg j9] at HIX
     have d0 : (-1 : Int) < 0 := by omega
     have HS2 := lh bC
     have HRZ := lh aW
     clear h1 h2 bB bC aW bD j9
     go_wp2_with fail
     refine (HIX.out _ (Below.refl _ _)).mono ?_
     rintro e w2 ⟨rfl, rfl⟩
     go_upto_region 24 with fail
     go_cut [11, 14] (fun v v14 we => v14 = .int .i64 (m : Int) /\ Own we 3 zi v (Jy g (r + 1)) /\ Hid (∀ b, v.ownBlock = some b -> gs + 1 <= b) /\ Own we 3 zi (.slice (some ⟨gs, 0, none⟩) i i) (Xl i (Xq g) g r) /\ Below w.heap.size w we)
     case first =>
      go_wp2_with (at_builtin; refine Jds (f := zi) Tryz.eltIntR rfl (.tmp 73) (.tmp 75) rfl wd _ sn x (.int .i64 x) rfl rfl HSE.out rfl rfl (by have := HM.out; unfold maxLen; omega) (by have := HM.out; omega) ?_; intro v7 w7 bV cS; obtain ⟨A7, n7, k7c, dF⟩ := Own.form3 bV; subst dF; have dG := lh bV; have aC := lh cS; clear bV cS)
      go_meet
      refine ⟨rfl, by rw [HS2.out]; exact dG.out, lh (Kx aC.out aV.out (by omega)), HC.out.kept aC.out (fun k hk e => ?_), ?_⟩
      ·have hk : some gs = some k := hk
       injection hk with hk
       have := aV.out k e
       omega
      exact HBW.out.trans (aC.out.below HBW.out.size (fun k hk => by have := aV.out k hk; omega))
     case rest =>
      obtain ⟨rfl, t7, bE, ho, j6⟩ := hcut
      rename World => we
      clear s9 bN HC HSE HBW HIX
      have s9 := Own.cellf (by rw [Kq]; exact ho) (Vh (r := Xq g) (z := g) bO)
      have bN := ho.frozenc r
      rw [HX.out] at s9
      unfold zi at s9
      have HPUT : Hid (Own (we.setCell ⟨gs, r, none⟩ (.int .i64 (m : Int))) 3 zi (.slice (some ⟨gs, 0, none⟩) i i) (Xl i (Xq g) g (r + 1))) := lh (by
       have := ho.putc r (m : Int)
       rw [Kp (r := Xq g) HRZ.out] at this
       exact this)
      have bF := t7.exc ((Exc.refl gs we).set_ r (.int .i64 (m : Int))) (fun e => by have := bE.out gs e; omega)
      have HS3 := lh bF
      have HBW := lh j6
      clear t7 bF ho j6
      go_wp2
      exact ⟨⟨r + 1, by omega, by go_num, HS3.out, bE, HPUT.out, HBW.out.setCell j8 _⟩, by simp [intOf]; omega⟩
    obtain rfl : r = i := by omega
    have p1 : ¬ (r : Int) < (r : Int) := by omega
    rw [Kz] at ho
    have HC := lh ho
    have HBW := lh j6
    clear ho j6 t7
    go_wp2
    go_returns
    exact ⟨gs, rfl, j8, by rw [HGZ.out]; exact HC.out, HBW.out⟩
theorem OwnW.front {α : Type} {w : World} {e : TypeId} {k : Nat} {f : α -> List Value} {A : Option Addr} {n c : Nat} {l : List α} (hf : ∀ a, (f a).length = k) (h : OwnW w e k f (.slice A n c) l) {m : Nat} (hm : m <= n) : OwnW w e k f (.slice A m c) (l.take m) := by
 obtain ⟨A', c', h4, -⟩ := OwnW.form h
 injection h4 with _ hn _
 have hl : (l.take m).length = m := by simp; omega
 have e2 := Jc6 hf (l.take m)
 unfold OwnW World.ownsRow at h ⊢
 rw [hl] at e2 ⊢
 refine ⟨e2, ?_⟩
 rcases h.2 with ⟨h1, h2⟩ | ⟨g, cap, cur, h1, h2, h3, h4, h5, h6, h7⟩
 ·injection h1 with h1 h3 h4
  exact .inl ⟨by rw [h1, h4, show m = 0 by omega], by omega⟩
 injection h1 with h1 h8 h9
 refine .inr ⟨g, cap, cur, by rw [h1, h9], h2, h3, by omega, h5, h6, ?_⟩
 have e1 : l.flatMap f = (l.take m).flatMap f ++ (l.drop m).flatMap f := by rw [<- List.flatMap_append, List.take_append_drop]
 have e3 : (cur.toList.take (l.length * k)).take (m * k) = (l.take m).flatMap f := by rw [h7, e1, <- e2, List.take_left]
 rw [List.take_take, Nat.min_eq_left (Nat.mul_le_mul_right k (by omega))] at e3
 exact e3
theorem Jqe {w : World} {A : Option Addr} {n c : Nat} {l : List Jn} (h : OwnJ w (.slice A n c) l) (m k : Nat) : Us A m 0 k = A := by
 have h1 : A = none \/ ∃ g, A = some ⟨g, 0, none⟩ := by
  rcases h.2 with ⟨h3, h4⟩ | ⟨g, cap, cur, h3, _⟩
  ·injection h3 with h3 _ _
   exact .inl h3
  injection h3 with h3 _ _
  exact .inr ⟨g, h3⟩
 rcases h1 with rfl | ⟨g, rfl⟩
 ·unfold Us
  split <;> rfl
 exact Jgq _ _ _
theorem Jkt {n : Nat} {J J' : Nat -> Jn} (k : Nat) (h : ∀ i, i < k -> J i = J' i) : Qn n J k = Qn n J' k := by
 unfold Qn
 have e : (fun r => Jk n J r k) = fun r => Jk n J' r k := funext fun r => Jiz r k h
 rw [e]
theorem Jsd {l : List Jn} {d : Nat} : ∀ i, i < d -> (l.take d).getD i default = l.getD i default := fun i hi => by
 rw [List.getD_eq_getElem?_getD, List.getD_eq_getElem?_getD, List.getElem?_take, if_pos hi]
theorem Jaq {A : Option Addr} {n len c d : Nat} {l : List Jn} {w : World} (h : OwnJ w (.slice A len c) l) (y8 : 1 <= n) (hn : n <= 64) (o5 : len <= 64) (hd : d <= len) :
  ∀ w', Below w.heap.size w w' -> Calls Tryz.prog 85 #[.int .i64 (n : Int), .slice A d c] w' fun e w'' => ∃ g, e = .returned (.slice (some ⟨g, 0, none⟩) n n) /\ w'.heap.size <= g /\ Own w'' 3 zi (.slice (some ⟨g, 0, none⟩) n n) (Qn n (fun i => l.getD i default) d) /\ Below w'.heap.size w' w'' := by
 intro w' hb
 have hg := Jjb A n d c (l.take d) w' (OwnW.next (OwnW.front Jht h hd) hb) y8 hn (by omega)
 rw [Jkt (J' := fun i => l.getD i default) d (fun i hi => Jsd i hi)] at hg
 exact hg
theorem Jnk (A : Option Addr) (n len c M : Nat) (l : List Jn) (k : Nat) (w : World) (h : OwnJ w (.slice A len c) l) (y8 : 1 <= n) (hn : n <= 64) (hM : M <= 100000000) (hb : ∀ j ∈ l, JB M j) (hT : Tab w) (hf : Zk n l = true) (o5 : len + 1 = n) (dJ : 1 <= k) (hk : k <= n) :
  Calls Tryz.prog 40 #[.int .i64 (n : Int), .slice A len c, .int .i64 (k : Int)] w fun e w' => ∃ g, e = .returned (.tuple #[.slice (some ⟨g, 0, none⟩) n n, .int .i64 0]) /\ w.heap.size <= g /\ Own w' 3 zi (.slice (some ⟨g, 0, none⟩) n n) (Qn n (fun i => l.getD i default) (n - k)) /\ Below w.heap.size w w' := by
 have j7 := Yc A n len c M l w h y8 hn hM hb hT
 rw [hf] at j7
 obtain ⟨d, hd⟩ : ∃ d, n - k = d := ⟨_, rfl⟩
 have t8 := Jaq (d := d) h y8 hn (by omega) (by omega)
 have hcut := fun w => Jct (P := Tryz.prog) (Tryz.eltJ).under (Tryz.eltJ).info A len c .i64 (d : Int) (by omega) (by
  obtain ⟨A', c', h4, h5, -⟩ := OwnW.form h
  injection h4
  omega) w
 rw [Jqe h] at hcut
 simp only [Int.toNat_natCast] at hcut
 rw [hd]
 have e1 : (n : Int) - (k : Int) = (d : Int) := by omega
 have q1 : ¬ (k : Int) < 1 := by omega
 have q2 : ¬ (n : Int) < (k : Int) := by omega
 have q3 : ¬ (k : Int) > (n : Int) := by omega
 have hw : IntKind.i64.wrap (d : Int) = (d : Int) := IntWalk.i64_in _ (by omega)
 have HFI := lh j7
 have HGR := lh t8
 clear h hb hT hf j7 t8 hd
 go_enter Tryz.func40, Tryz.ntmps40
 go_wp2_with fail
 refine HFI.out.mono ?_
 rintro e w1 ⟨rfl, o0⟩
 have HB1 := lh o0
 clear o0
 go_wp2_with fail
 refine (HGR.out w1 HB1.out).mono ?_
 rintro e w2 ⟨g, rfl, hg, ho, y9⟩
 have HO := lh ho
 have HB2 := lh (Ja HB1.out y9)
 have bG : w.heap.size <= g := nt HB1.out.size hg
 clear ho y9 hg
 go_wp2
 go_returns
 exact ⟨g, rfl, bG, HO.out, HB2.out⟩
theorem Jpo (A : Option Addr) (n len c M : Nat) (l : List Jn) (hq : Rat) (w : World) (h : OwnJ w (.slice A len c) l) (y8 : 1 <= n) (hn : n <= 64) (hM : M <= 100000000) (hb : ∀ j ∈ l, JB M j) (hT : Tab w) (hf : Zk n l = true) (o5 : len + 1 = n) (hs : QS 100000000 hq) :
  Calls Tryz.prog 39 #[.int .i64 (n : Int), .slice A len c, qV hq] w fun e w' => ∃ g d, e = .returned (.tuple #[.slice (some ⟨g, 0, none⟩) n n, .int .i64 0]) /\ d <= len /\ (∀ i, i < d -> (l.getD i default).high <= hq) /\ (d < len -> ¬ (l.getD d default).high <= hq) /\ w.heap.size <= g /\ Own w' 3 zi (.slice (some ⟨g, 0, none⟩) n n) (Qn n (fun i => l.getD i default) d) /\ Below w.heap.size w w' := by
 have j7 := fun w' (o0 : Below w.heap.size w w') => Yc A n len c M l w' (OwnW.next h o0) y8 hn hM hb (hT.next o0)
 rw [hf] at j7
 have aX : len = l.length := by
  obtain ⟨A', c', h4, -⟩ := OwnW.form h
  injection h4
 have t8 := fun d (hd : d <= len) => Jaq (d := d) h y8 hn (by omega) hd
 have hcut : ∀ (d : Nat) w, d <= len -> (Instr.slice 40 (.slice A len c) none (some (.int .i64 (d : Int))) none).run Tryz.prog w = .ok (.slice A d c) w := fun d w hd => by
  have := Jct (P := Tryz.prog) (Tryz.eltJ).under (Tryz.eltJ).info A len c .i64 (d : Int) (by omega) (by
   obtain ⟨A', c', h4, h5, -⟩ := OwnW.form h
   injection h4
   omega) w
  rw [Jqe h] at this
  simpa only [Int.toNat_natCast] using this
 have HFI := lh j7
 have HGR := lh t8
 have HCUT := lh hcut
 have HO := lh h
 have HB := lh hb
 have HLL := lh aX
 have HQ := lh hs
 clear h hb hT hf j7 t8 hcut aX hs
 have b0 := Blk.new w 56 #[.bool (decide (hq.num < 0)), .int .u64 (lo hq.num.natAbs : Int), .string (mo hq.num.natAbs), .int .u64 (lo ((qden hq)) : Int), .string (mo ((qden hq)))]
 have bP := Jb w (.cells #[.bool (decide (hq.num < 0)), .int .u64 (lo hq.num.natAbs : Int), .string (mo hq.num.natAbs), .int .u64 (lo ((qden hq)) : Int), .string (mo ((qden hq)))] 56)
 obtain ⟨g5, cT⟩ : ∃ g5, w.heap.size = g5 := ⟨_, rfl⟩
 unfold qV
 go_enter Tryz.func39, Tryz.ntmps39
 go_upto_region 1 with fail
 go_cut [12] (fun v wc => v = .bool false /\ Blk wc g5 56 #[.bool (decide (hq.num < 0)), .int .u64 (lo hq.num.natAbs : Int), .string (mo hq.num.natAbs), .int .u64 (lo ((qden hq)) : Int), .string (mo ((qden hq)))] /\ Below w.heap.size w wc)
 case first =>
  go_wp2_with fail
  refine (HFI.out _ (bP.mono zd)).mono ?_
  rintro e w1 ⟨rfl, o0⟩
  have b0 := b0.below o0 b0.lt
  have HB1 := lh (Ja bP o0)
  clear o0 bP HFI
  have HB0 := lh b0
  clear b0
  go_wp2
  go_meet
  exact ⟨rfl, by rw [<- cT]; exact HB0.out, HB1.out⟩
 case rest =>
 obtain ⟨rfl, b0, cU⟩ := hcut
 rename World => w1
 have HB1 := lh cU
 clear cU HFI bP cT
 go_wp2_with fail
 go_loopw [8] (fun p wr => ∃ k : Nat, k <= len /\ p = .int .i64 ((k : Nat) : Int) /\ Hid (∀ i, i < k -> (l.getD i default).high <= hq) /\ Blk wr g5 56 #[.bool (decide (hq.num < 0)), .int .u64 (lo hq.num.natAbs : Int), .string (mo hq.num.natAbs), .int .u64 (lo ((qden hq)) : Int), .string (mo ((qden hq)))] /\ Below w.heap.size w wr) (fun p _ => len - (intOf p).toNat)
 case atStart => exact ⟨0, by omega, rfl, lh (fun i hi => absurd hi (Nat.not_lt_zero _)), b0, HB1.out⟩
 case round =>
  obtain ⟨k, hk, rfl, aD, b0, j6⟩ := hrel
  rename World => wr
  clear HB1
  have HBW := lh j6
  by_cases dC : k < len
  ·have p0 : (k : Int) < (len : Int) := by omega
   have p1 : decide ((k : Int) < (len : Int)) = true := decide_eq_true p0
   obtain ⟨j, hj⟩ : ∃ j, l[k]? = some j := ⟨_, List.getElem?_eq_getElem (by have := HLL.out; omega)⟩
   have cV : l.getD k default = j := by rw [List.getD_eq_getElem?_getD, hj]; rfl
   obtain ⟨-, g1, bS⟩ := OwnJ.addr HO.out (by have := HLL.out; omega)
   subst bS
   have b1 := OwnJ.at_ (OwnW.next HO.out j6) hj
   have cZ := (HB.out j (List.mem_of_getElem? hj)).high
   obtain ⟨ja, jb, s, q⟩ := j
   have bW := fun w => Vf q hq w (cZ.mono (by omega)) (HQ.out.mono (by omega))
   have dA := Jh3 hq q
   generalize Yw q hq = cv at *
   unfold qV at bW
   have HCM := lh bW
   have HGT := lh dA
   have HJD := lh cV
   clear bW dA cZ hj cV j6
   by_cases bX : cv <= 0
   ·have q9 : decide (cv <= 0) = true := decide_eq_true bX
    have dB : q <= hq := Rat.not_lt.1 fun h => absurd (HGT.out.2 h) (by omega)
    have HALL : Hid (∀ i, i < k + 1 -> (l.getD i default).high <= hq) := lh fun i hi => by
     by_cases bR : i = k
     ·subst bR
      rw [HJD.out]
      exact dB
     exact aD.out i (by omega)
    clear dB
    go_upto_region 4 with fail
    go_cut [26] (fun v wc => v = .bool true /\ Below wr.heap.size wr wc)
    case first =>
     obtain ⟨bY, bZ, cA, cB, cC⟩ := b0.c5; have c0 := b0.drew; have bH := c0.lt; obtain ⟨cD, cE, cF, cG, cH, cI, cJ, cK⟩ := b1.c8; have c1 := b1.drew; have bI := c1.lt; have hc := Jf wr; go_region_held3 (fun w' => w'.cell? ⟨g5, 0, none⟩ = some (.bool (decide (hq.num < 0))) /\ w'.cell? ⟨g5, 1, none⟩ = some (.int .u64 (lo hq.num.natAbs : Int)) /\ w'.cell? ⟨g5, 2, none⟩ = some (.string (mo hq.num.natAbs)) /\ w'.cell? ⟨g5, 3, none⟩ = some (.int .u64 (lo ((qden hq)) : Int)) /\ w'.cell? ⟨g5, 4, none⟩ = some (.string (mo ((qden hq)))) /\ w'.cell? ⟨g1, k * 8, none⟩ = some (.int .i64 ja) /\ w'.cell? ⟨g1, k * 8 + 1, none⟩ = some (.int .i64 jb) /\ w'.cell? ⟨g1, k * 8 + 2, none⟩ = some (.int .i64 s) /\ w'.cell? ⟨g1, k * 8 + 3, none⟩ = some (.bool (decide (q.num < 0))) /\ w'.cell? ⟨g1, k * 8 + 4, none⟩ = some (.int .u64 (lo q.num.natAbs : Int)) /\ w'.cell? ⟨g1, k * 8 + 5, none⟩ = some (.string (mo q.num.natAbs)) /\ w'.cell? ⟨g1, k * 8 + 6, none⟩ = some (.int .u64 (lo (qden q) : Int)) /\ w'.cell? ⟨g1, k * 8 + 7, none⟩ = some (.string (mo (qden q)))) (go_keep) (first | (go_at_call 29; (with_reducible refine (HCM.out _).mono ?_); rintro e w1 ⟨rfl, aE⟩; (try clear aF aG aH aI aJ); obtain ⟨c0, aF, aG, aH, aI, aJ⟩ := c0.zc5 aE; (try clear bH); have bH := c0.lt; (try clear aK aL aM aN aO aP aQ aR); obtain ⟨c1, aK, aL, aM, aN, aO, aP, aQ, aR⟩ := c1.zc8 aE; (try clear bI); have bI := c1.lt; have hc := Ja hc aE))
     all_goals
      go_wp2
      go_meet
      exact ⟨rfl, hc⟩
    case rest =>
     obtain ⟨rfl, x8⟩ := hcut
     have b0 := b0.below x8 b0.lt
     have HBD := lh (HBW.out.trans (x8.mono HBW.out.size))
     clear x8 b1
     go_wp2
     exact ⟨⟨k + 1, by omega, by go_num, HALL, b0, HBD.out⟩, by simp [intOf]; omega⟩
   have q9 : decide (cv <= 0) = false := decide_eq_false bX
   have HN : Hid (¬ (l.getD k default).high <= hq) := lh fun h => by
    rw [HJD.out] at h
    exact absurd (HGT.out.1 (by omega)) (Rat.not_lt.2 h)
   go_upto_region 4 with fail
   go_cut [26] (fun v wc => v = .bool false /\ Below wr.heap.size wr wc)
   case first =>
    obtain ⟨bY, bZ, cA, cB, cC⟩ := b0.c5; have c0 := b0.drew; have bH := c0.lt; obtain ⟨cD, cE, cF, cG, cH, cI, cJ, cK⟩ := b1.c8; have c1 := b1.drew; have bI := c1.lt; have hc := Jf wr; go_region_held3 (fun w' => w'.cell? ⟨g5, 0, none⟩ = some (.bool (decide (hq.num < 0))) /\ w'.cell? ⟨g5, 1, none⟩ = some (.int .u64 (lo hq.num.natAbs : Int)) /\ w'.cell? ⟨g5, 2, none⟩ = some (.string (mo hq.num.natAbs)) /\ w'.cell? ⟨g5, 3, none⟩ = some (.int .u64 (lo ((qden hq)) : Int)) /\ w'.cell? ⟨g5, 4, none⟩ = some (.string (mo ((qden hq)))) /\ w'.cell? ⟨g1, k * 8, none⟩ = some (.int .i64 ja) /\ w'.cell? ⟨g1, k * 8 + 1, none⟩ = some (.int .i64 jb) /\ w'.cell? ⟨g1, k * 8 + 2, none⟩ = some (.int .i64 s) /\ w'.cell? ⟨g1, k * 8 + 3, none⟩ = some (.bool (decide (q.num < 0))) /\ w'.cell? ⟨g1, k * 8 + 4, none⟩ = some (.int .u64 (lo q.num.natAbs : Int)) /\ w'.cell? ⟨g1, k * 8 + 5, none⟩ = some (.string (mo q.num.natAbs)) /\ w'.cell? ⟨g1, k * 8 + 6, none⟩ = some (.int .u64 (lo (qden q) : Int)) /\ w'.cell? ⟨g1, k * 8 + 7, none⟩ = some (.string (mo (qden q)))) (go_keep) (first | (go_at_call 29; (with_reducible refine (HCM.out _).mono ?_); rintro e w1 ⟨rfl, aE⟩; (try clear aF aG aH aI aJ); obtain ⟨c0, aF, aG, aH, aI, aJ⟩ := c0.zc5 aE; (try clear bH); have bH := c0.lt; (try clear aK aL aM aN aO aP aQ aR); obtain ⟨c1, aK, aL, aM, aN, aO, aP, aQ, aR⟩ := c1.zc8 aE; (try clear bI); have bI := c1.lt; have hc := Ja hc aE))
    all_goals
     go_wp2
     go_meet
     exact ⟨rfl, hc⟩
   case rest =>
    obtain ⟨rfl, x8⟩ := hcut
    rename World => wd
    have HBD := lh (HBW.out.trans (x8.mono HBW.out.size))
    have dH := fun w => HCUT.out k w hk
    have t8 := HGR.out k hk wd HBD.out
    have HG := lh t8
    clear x8 b1 t8 b0 q9 bX HGT HCM
    go_wp2_with fail
    refine HG.out.mono ?_
    rintro e w2 ⟨g, rfl, hg, ho, y9⟩
    have HO2 := lh ho
    have HB2 := lh (HBD.out.trans (y9.mono HBD.out.size))
    have bG : w.heap.size <= g := nt HBD.out.size hg
    clear ho y9 hg
    go_wp2
    go_returns
    exact ⟨g, k, rfl, hk, aD.out, fun _ => HN.out, bG, HO2.out, HB2.out⟩
  obtain rfl : k = len := by omega
  have p0 : ¬ (k : Int) < (k : Int) := by omega
  go_upto_region 4 with fail
  go_cut [26] (fun v wc => v = .bool false /\ Below wr.heap.size wr wc)
  case first =>
   go_region
   all_goals
    go_wp2
    go_meet
    exact ⟨rfl, Jf _⟩
  case rest =>
   obtain ⟨rfl, x8⟩ := hcut
   rename World => wd
   have HBD := lh (HBW.out.trans (x8.mono HBW.out.size))
   have dH := fun w => HCUT.out k w hk
   have t8 := HGR.out k hk wd HBD.out
   have HG := lh t8
   clear x8 t8 b0 j6
   go_wp2_with fail
   refine HG.out.mono ?_
   rintro e w2 ⟨g, rfl, hg, ho, y9⟩
   have HO2 := lh ho
   have HB2 := lh (HBD.out.trans (y9.mono HBD.out.size))
   have bG : w.heap.size <= g := nt HBD.out.size hg
   clear ho y9 hg
   go_wp2
   go_returns
   exact ⟨g, k, rfl, hk, aD.out, fun h => absurd h (by omega), bG, HO2.out, HB2.out⟩
