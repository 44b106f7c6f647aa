import Derived.Test.YtacbcaebaomglaaGreatDoorMeanK
namespace Go.Proofs.YtacbcaebaomglaaGreatDoor
set_option maxRecDepth 100000
set_option maxHeartbeats 8000000
open Go.RowKit
set_option linter.all false
section
variable {α : Type}
def Ja6 (F : α -> Rat) : List α -> Rat
 | [] => 0
 | a :: l => F a + Ja6 F l
theorem Vf (F : α -> Rat) (b : List α) : ∀ a : List α, Ja6 F (a ++ b) = Ja6 F a + Ja6 F b
 | [] => by rw [List.nil_append]; exact (Rat.zero_add _).symm
 | y :: a => by
  show F y + Ja6 F (a ++ b) = F y + Ja6 F a + Ja6 F b
  rw [Vf F b a, Rat.add_assoc]
theorem Je9 (F : α -> Rat) (a : α) : Ja6 F [a] = F a := by show F a + 0 = F a; exact Rat.add_zero _
theorem Jpr (F : α -> Rat) (a b : List α) : Ja6 F (b ++ a) = Ja6 F (a ++ b) := by rw [Vf, Vf, Rat.add_comm]
end
theorem Jpl {α : Type} {x : List α} {k : Nat} (hk : k < x.length) (d : α) : x.take (k + 1) = x.take k ++ [x.getD k d] := by
 rw [List.take_add_one, List.getElem?_eq_getElem hk, List.getD_eq_getElem?_getD, List.getElem?_eq_getElem hk]
 rfl
section
variable {f x : List (List Rat)}
theorem Jqa : ∀ k, k <= x.length -> Kw f x k = Ja6 (Xs f) (x.take k)
 | 0, _ => by rw [List.take_zero]; rfl
 | k + 1, h => by
  rw [Jpl (by omega) [], Vf, Je9, <- Jqa k (by omega)]
  rfl
theorem Jp0 : Zk f x = Ja6 (Xs f) x := by
 unfold Zk
 rw [Jqa _ zd, List.take_length]
theorem Jp3 (g c : Nat) : ∀ k, k <= x.length -> Xt f x g c k = Ja6 (fun r => if Qk f r = g then r.getD c 0 else 0) (x.take k)
 | 0, _ => by rw [List.take_zero]; rfl
 | k + 1, h => by
  rw [Jpl (by omega) [], Vf, Je9, <- Jp3 g c k (by omega)]
  show (if _ then _ else _) = _
  by_cases h1 : Qk f (x.getD k []) = g
  ·rw [if_pos h1, if_pos h1]
  rw [if_neg h1, if_neg h1, Rat.add_zero]
theorem Jp4 (g : Nat) : ∀ k, k <= x.length -> Xu f x g k = (x.take k).countP (fun r => decide (Qk f r = g))
 | 0, _ => by rw [List.take_zero]; rfl
 | k + 1, h => by
  rw [Jpl (by omega) [], List.countP_append, <- Jp4 g k (by omega)]
  show (if _ then _ else _) = _
  by_cases h1 : Qk f (x.getD k []) = g
  ·rw [if_pos h1, List.countP_singleton, decide_eq_true h1, if_pos rfl]
  rw [if_neg h1, List.countP_singleton, decide_eq_false h1]; rfl
end
section
variable {wd : Nat} {f a b : List (List Rat)}
theorem Jpy : Zk f (b ++ a) = Zk f (a ++ b) := by rw [Jp0, Jp0, Jpr]
theorem Jpt (g : Nat) : Xi wd f (b ++ a) g = Xi wd f (a ++ b) g := by
 have h1 : Xu f (b ++ a) g (b ++ a).length = Xu f (a ++ b) g (a ++ b).length := by
  rw [Jp4 g _ zd, Jp4 g _ zd, List.take_length, List.take_length, List.countP_append, List.countP_append, Nat.add_comm]
 have h2 : ∀ c, Xt f (b ++ a) g c (b ++ a).length = Xt f (a ++ b) g c (a ++ b).length := fun c => by
  rw [Jp3 g c _ zd, Jp3 g c _ zd, List.take_length, List.take_length, Jpr]
 unfold Xi Kb
 rw [h1]
 simp only [h2]
theorem Jps : Xr wd f (b ++ a) = Xr wd f (a ++ b) := by
 unfold Xr
 exact List.map_congr_left fun g _ => Jpt g
theorem Jpk : ∀ g, Xc wd f (b ++ a) g = Xc wd f (a ++ b) g
 | 0 => rfl
 | g + 1 => by
  unfold Xc
  rw [Jpt, Jpk g]
theorem Jp9 : ∀ i, Qj wd (b ++ a) f i = Qj wd (a ++ b) f i /\ Ze wd (b ++ a) f i = Ze wd (a ++ b) f i
 | 0 => ⟨rfl, by show [Zk f _] = [Zk f _]; rw [Jpy]⟩
 | i + 1 => by
  obtain ⟨h1, h2⟩ := Jp9 i
  have h3 : ∀ F, Zq wd F (b ++ a) = Zq wd F (a ++ b) := fun F => Jpk (f := F) _
  constructor
  ·show (if _ then _ else _) = (if _ then _ else _)
   rw [h1, h3, Jps]
  show (if _ then _ else _) = (if _ then _ else _)
  rw [h1, h2, h3, Jps, Jpy]
end
theorem Jp8 (F x : List (List Rat)) (t i : Nat) (ht : t <= x.length) (hi : i < x.length) : (Jl F (x.drop t ++ x.take t))[i]? = (Jl F x)[(i + t) % x.length]? := by
 unfold Jl
 rw [List.getElem?_map, List.getElem?_map]
 congr 1
 by_cases h : i < x.length - t
 ·rw [List.getElem?_append_left (by rw [List.length_drop]; exact h), List.getElem?_drop, Nat.mod_eq_of_lt (by omega), Nat.add_comm]
 rw [List.getElem?_append_right (by rw [List.length_drop]; omega), List.length_drop, List.getElem?_take, if_pos (by omega)]
 have h1 : (i + t) % x.length = i - (x.length - t) := by
  have : i + t = (i - (x.length - t)) + x.length := by omega
  rw [this, Nat.add_mod_right]
  exact Nat.mod_eq_of_lt (by omega)
 rw [h1]
def Jpf (u : Rat) (l : List Rat) : List Rat := l.map fun y => y * u
section
variable {u : Rat}
theorem Jpi (l : List Rat) (k : Nat) : (Jpf u l).getD k 0 = l.getD k 0 * u := by
 unfold Jpf
 rw [List.getD_eq_getElem?_getD, List.getD_eq_getElem?_getD, List.getElem?_map]
 cases l[k]? with
 | none => exact (Rat.zero_mul _).symm
 | some y => rfl
theorem Jpg (f : List (List Rat)) (k : Nat) : (f.map (Jpf u)).getD k [] = Jpf u (f.getD k []) := by
 rw [List.getD_eq_getElem?_getD, List.getD_eq_getElem?_getD, List.getElem?_map]
 cases f[k]? with
 | none => rfl
 | some y => rfl
theorem Jqj (a b : Rat) : (a * u - b * u) * (a * u - b * u) = (a - b) * (a - b) * (u * u) := by grind
theorem Jpm (a b : List Rat) : Xk (Jpf u a) (Jpf u b) = Xk a b * (u * u) := by
 have : ∀ k, Qq (Jpf u a) (Jpf u b) k = Qq a b k * (u * u) := by
  intro k
  induction k with
  | zero => exact (Rat.zero_mul _).symm
  | succ k ih =>
   unfold Qq
   rw [ih, Jpi, Jpi, Jqj, Rat.add_mul]
 unfold Xk
 rw [this]
 congr 2
 unfold Jpf
 rw [List.length_map]
theorem Jph (hu : 0 < u) (f : List (List Rat)) (r : List Rat) : Qk (f.map (Jpf u)) (Jpf u r) = Qk f r := by
 have h2 : 0 < u * u := Rat.mul_pos hu hu
 have : ∀ i, Zi (f.map (Jpf u)) (Jpf u r) i = Zi f r i := by
  intro i
  induction i with
  | zero => rfl
  | succ i ih =>
   unfold Zi
   rw [ih, Jpg, Jpg, Jpm, Jpm]
   by_cases h : Xk (f.getD i []) r < Xk (f.getD (Zi f r i) []) r
   ·rw [if_pos h, if_pos (Rat.mul_lt_mul_of_pos_right h h2)]
   rw [if_neg h, if_neg (fun h3 => h (Rat.lt_of_mul_lt_mul_right h3 (Rat.le_of_lt h2)))]
 unfold Qk
 rw [this, List.length_map]
theorem Jp7 (hu : 0 < u) (f : List (List Rat)) (r : List Rat) : Xs (f.map (Jpf u)) (Jpf u r) = Xs f r * (u * u) := by
 unfold Xs
 rw [Jph hu, Jpg, Jpm]
theorem Jpx (hu : 0 < u) (f x : List (List Rat)) : Zk (f.map (Jpf u)) (x.map (Jpf u)) = Zk f x * (u * u) := by
 have : ∀ k, Kw (f.map (Jpf u)) (x.map (Jpf u)) k = Kw f x k * (u * u) := by
  intro k
  induction k with
  | zero => exact (Rat.zero_mul _).symm
  | succ k ih =>
   unfold Kw
   rw [ih, Jpg, Jp7 hu, Rat.add_mul]
 unfold Zk
 rw [this, List.length_map]
theorem Jpn (hu : 0 < u) (f x : List (List Rat)) (g : Nat) : ∀ k, Xu (f.map (Jpf u)) (x.map (Jpf u)) g k = Xu f x g k
 | 0 => rfl
 | k + 1 => by unfold Xu; rw [Jpg, Jph hu, Jpn hu f x g k]
theorem Jp1 (hu : 0 < u) (f x : List (List Rat)) (g c : Nat) : ∀ k, Xt (f.map (Jpf u)) (x.map (Jpf u)) g c k = Xt f x g c k * u
 | 0 => (Rat.zero_mul _).symm
 | k + 1 => by
  unfold Xt
  rw [Jpg, Jph hu, Jp1 hu f x g c k, Jpi]
  split
  ·rw [Rat.add_mul]
  rfl
theorem Jqi (a b : Rat) : a * u / b = a / b * u := by rw [Rat.div_def, Rat.div_def, Rat.mul_assoc, Rat.mul_comm u, <- Rat.mul_assoc]
theorem Jpp {wd : Nat} (hu : 0 < u) (f x : List (List Rat)) (g : Nat) : Xi wd (f.map (Jpf u)) (x.map (Jpf u)) g = Jpf u (Xi wd f x g) := by
 unfold Xi
 rw [List.length_map, Jpn hu]
 split
 ·exact Jpg f g
 show (List.range wd).map _ = ((List.range wd).map _).map _
 rw [List.map_map]
 refine List.map_congr_left fun c _ => ?_
 show Xt (f.map (Jpf u)) (x.map (Jpf u)) g c _ / _ = _ * u
 rw [List.length_map, Jp1 hu, Jpn hu, Jqi]
theorem Jpo {wd : Nat} (hu : 0 < u) (f x : List (List Rat)) : Xr wd (f.map (Jpf u)) (x.map (Jpf u)) = (Xr wd f x).map (Jpf u) := by
 unfold Xr
 rw [List.length_map, List.map_map]
 exact List.map_congr_left fun g _ => Jpp hu f x g
theorem Jqc (hu : 0 < u) {a b : List Rat} (h : Jpf u a = Jpf u b) : a = b := by
 have eV : u ≠ 0 := fun e => by rw [e] at hu; exact Rat.lt_irrefl hu
 induction a generalizing b with
 | nil => cases b with
  | nil => rfl
  | cons y b => cases h
 | cons z a ih => cases b with
  | nil => cases h
  | cons y b =>
   injection h with h1 h2
   have h3 : z = y := by
    have := congrArg (fun t => t * u⁻¹) h1
    simp only [Rat.mul_assoc, Rat.mul_inv_cancel u eV, Rat.mul_one] at this
    exact this
   rw [ih h2, h3]
theorem Jpq {wd : Nat} (hu : 0 < u) (f x : List (List Rat)) : Zq wd (f.map (Jpf u)) (x.map (Jpf u)) = Zq wd f x := by
 have : ∀ g, Xc wd (f.map (Jpf u)) (x.map (Jpf u)) g = Xc wd f x g := by
  intro g
  induction g with
  | zero => rfl
  | succ g ih =>
   unfold Xc
   rw [ih, Jpp hu, Jpg]
   by_cases h : Xi wd f x g = f.getD g []
   ·rw [if_pos h, if_pos (by rw [h])]
   rw [if_neg h, if_neg (fun e => h (Jqc hu e))]
 unfold Zq
 rw [this, List.length_map]
theorem Jpz {wd : Nat} (hu : 0 < u) (f x : List (List Rat)) : ∀ i, Qj wd (x.map (Jpf u)) (f.map (Jpf u)) i = (Qj wd x f i).map (Jpf u) /\ Ze wd (x.map (Jpf u)) (f.map (Jpf u)) i = (Ze wd x f i).map fun y => y * (u * u)
 | 0 => ⟨rfl, by show [_] = [_]; rw [Jpx hu]⟩
 | i + 1 => by
  obtain ⟨h1, h2⟩ := Jpz hu f x i
  constructor
  ·show (if _ then _ else _) = (if _ then _ else _ : List (List Rat)).map _
   rw [h1, Jpq hu, Jpo hu]
   split <;> rfl
  show (if _ then _ else _) = (if _ then _ else _ : List Rat).map _
  rw [h1, h2, Jpq hu, Jpo hu, Jpx hu]
  split
  ·rfl
  rw [List.map_append]; rfl
theorem Jp2 (hu : 0 < u) (F x : List (List Rat)) : Jl (F.map (Jpf u)) (x.map (Jpf u)) = Jl F x := by
 unfold Jl
 rw [List.map_map]
 exact List.map_congr_left fun r _ => Jph hu F r
end
theorem Jqd (A A' : Option Addr) (n c c' B B' : Nat) (f : List (List Rat)) (w : World) (h : Xa w B A n f) (h' : Xa w B' A' n f) (hB : B <= w.heap.size) (dJ : B' <= w.heap.size) (hn : n <= 1000) (hq : ∀ l ∈ f, l.length <= 1000000 /\ ∀ x ∈ l, QS 549755813888 x) :
  Calls Tryz.prog 95 #[.slice A n c, .slice A' n c', .func (.func 48) #[] #[]] w (Ret (.bool true) w) := by
 have H := lh h
 have H' := lh h'
 have HQ := lh hq
 have HLN := lh h.len
 have q0 : ((n : Int) != (n : Int)) = false := by simp
 clear h h' hq
 go_enter Tryz.func95, Tryz.ntmps95
 go_wp2_with fail
 go_loopw [17] (fun p wr => ∃ k : Nat, k <= n /\ p = .int .i64 (k : Int) /\ Below w.heap.size w wr) (fun p _ => n - (intOf p).toNat)
 case atStart => exact ⟨0, by omega, rfl, Below.refl _ _⟩
 case round =>
  obtain ⟨k, hk, rfl, e8⟩ := hrel
  rename World => wr
  by_cases aS : k < n
  ·have k1 : (k : Int) < (n : Int) := by omega
   have k2 : ¬ (n : Int) <= (k : Int) := by omega
   obtain ⟨l, hl⟩ : ∃ l, f[k]? = some l := ⟨_, List.getElem?_eq_getElem (by have := HLN.out; omega)⟩
   obtain ⟨ad, A1, m1, d1, rfl, eE, x7, aH⟩ := (H.out.below Xh (e8.mono hB)).at_ hl
   obtain ⟨ad2, A2, m2, d2, rfl, fU, iF, fE⟩ := (H'.out.below Xh (e8.mono dJ)).at_ hl
   obtain rfl : m1 = m2 := by rw [<- aH.len, <- fE.len]
   have dS := HQ.out l (List.mem_of_getElem? hl)
   have hsm := Jjh A1 A2 m1 d1 d2 B B' l l wr aH fE (nt hB e8.size) (nt dJ e8.size) (by rw [<- aH.len]; exact dS.1) dS.2 dS.2
   rw [decide_eq_true rfl] at hsm
   have HSM := lh hsm
   have HBW := lh e8
   clear hl eE fU aH fE dS hsm e8
   go_wp2_with fail
   refine HSM.out.mono ?_
   rintro e w1 ⟨rfl, j0⟩
   have HB1 := lh (HBW.out.trans (j0.mono HBW.out.size))
   clear j0 x7 iF
   go_wp2
   exact ⟨⟨k + 1, by omega, by go_num, HB1.out⟩, by simp [intOf]; omega⟩
  obtain rfl : k = n := by omega
  have k1 : ¬ (k : Int) < (k : Int) := by omega
  have k2 : (k : Int) <= (k : Int) := by omega
  have HBW := lh e8
  clear e8
  go_wp2
  go_ret
  exact ⟨rfl, HBW.out⟩
theorem Jqh (A A' : Option Addr) (n c c' B B' : Nat) (f : List (List Rat)) (w : World) (h : Xa w B A n f) (h' : Xa w B' A' n f) (hB : B <= w.heap.size) (dJ : B' <= w.heap.size) (hn : n <= 1000) (hq : ∀ l ∈ f, l.length <= 1000000 /\ ∀ x ∈ l, QS 549755813888 x) :
  Calls Tryz.prog 47 #[.agg #[.slice A n c], .agg #[.slice A' n c']] w (Ret (.bool true) w) := by
 have HE := lh (fun w' (hb : Below w.heap.size w w') => Jqd A A' n c c' B B' f w' (h.below Xh (hb.mono hB)) (h'.below Xh (hb.mono dJ)) (nt hB hb.size) (nt dJ hb.size) hn hq)
 clear h h' hB dJ hq
 obtain ⟨b0, b1, hB, hZ⟩ := bx2 w 30 #[.slice A n c] 30 #[.slice A' n c']
 go_enter Tryz.func47, Tryz.ntmps47
 have x0 := b0.c1
 have x1 := b1.c1
 have HBW := lh hB
 clear hB
 go_wp2_with fail
 generalize ((w.alloc (.cells #[.slice A n c] 30)).alloc (.cells #[.slice A' n c'] 30)) = W at *
 refine (HE.out _ HBW.out).mono ?_
 rintro e w1 ⟨rfl, j0⟩
 have HB1 := lh (Ja HBW.out j0)
 clear x0 x1 j0
 go_wp2
 go_ret
 exact ⟨rfl, HB1.out⟩
def Vg (x : List (List Rat)) (c : Nat) (rl : List Nat) : Rat := Ja6 (fun i => (x.getD i []).getD c 0) rl
def Jc2 (x : List (List Rat)) (rl : List Nat) (wd : Nat) : List Rat := (List.range wd).map fun c => Vg x c rl / ((rl.length : Nat) : Rat)
theorem Jkj {x : List (List Rat)} {c k i : Nat} {rl : List Nat} {l : List Rat} {y : Rat} (hi : rl[k]? = some i) (hl : x[i]? = some l) (hy : l[c]? = some y) : Vg x c (rl.take (k + 1)) = Vg x c (rl.take k) + y := by
 unfold Vg
 rw [List.take_add_one, hi, Vf]
 show _ + Ja6 _ [i] = _
 rw [Je9, List.getD_eq_getElem?_getD, List.getD_eq_getElem?_getD, hl]
 show _ + (l[c]?.getD 0) = _
 rw [hy]
 rfl
theorem Jjx {m : Nat} {x : List (List Rat)} (hm : 1 <= m) (hs : ∀ l ∈ x, ∀ y ∈ l, QS m y) (c : Nat) : ∀ rl : List Nat, QS (rl.length * (m + 1) + 1) (Vg x c rl)
 | [] => QS.zero _ (by omega)
 | i :: rl => by
  have ih := Jjx hm hs c rl
  have h1 : QS m ((x.getD i []).getD c 0) := by
   refine QS.getD (fun y hy => ?_) hm c
   rw [List.getD_eq_getElem?_getD] at hy
   cases hx : x[i]? with
   | none => rw [hx] at hy; cases hy
   | some l => rw [hx] at hy; exact hs l (List.mem_of_getElem? hx) y hy
  refine QS.mono (show QS _ ((x.getD i []).getD c 0 + Vg x c rl) from h1.add ih) ?_
  rw [List.length_cons, Nat.add_mul]
  omega
theorem Jku (x : List (List Rat)) (rl : List Nat) (wd c : Nat) (hc : c < wd) : (Jc2 x rl wd).take (c + 1) = (Jc2 x rl wd).take c ++ [Vg x c rl / ((rl.length : Nat) : Rat)] := by
 rw [List.take_add_one]
 unfold Jc2
 rw [Yn hc]
 rfl
theorem Jh4 (x : List (List Rat)) (rl : List Nat) (wd : Nat) : (Jc2 x rl wd).length = wd := by simp [Jc2]
theorem Reads.at1m {α : Type} {w : World} {B : Nat} {A : Option Addr} {n : Nat} {f : α -> Value} {l : List α} (h : Reads w B 1 A n (l.map f)) {k : Nat} (hk : k < n) : ∃ ad g o x, A = some ad /\ ad.add k = ⟨g, o, none⟩ /\ g < B /\ l[k]? = some x /\ At1 w g o (f x) := by
 obtain ⟨ad, x, h1, h2, h3, h4⟩ := h.atf hk
 have e0 := Jar h4
 have hb := Jt ad k
 cases hP : ad.add k with
 | mk g o sp =>
  rw [hP] at h4 e0 hb
  obtain rfl : sp = none := e0
  exact ⟨ad, g, o, x, h1, hP, by have : g = ad.block := hb; omega, h3, At1.mk' h4⟩
theorem Blk.grewm {w w' : World} {v v' : Value} {g : Nat} {t : TypeId} {cs : Array Value} (h : Blk w g t cs) (hg : Grew w w' v v') (bV : some g ≠ v.ownBlock) : Blk w' g t cs := (hg.block g h.lt bV).trans h
theorem Ji0 (A A' : Option Addr) (n c9 n' c' wd B m : Nat) (x : List (List Rat)) (rl : List Nat) (w : World) (h : Zx w B A n x) (h' : Reads w B 1 A' n' (rl.map iv)) (hB : B <= w.heap.size) (hn : 1 <= n) (bP : 1 <= n') (hn' : n' <= 300) (hwd : wd <= 20) (hlx : ∀ l ∈ x, l.length = wd) (cV : ∀ i ∈ rl, i < n) (hm : 1 <= m) (hm2 : m <= 1000000) (hs : ∀ l ∈ x, ∀ y ∈ l, QS m y) :
  Calls Tryz.prog 83 #[.slice A n c9, .slice A' n' c'] w fun e w' => ∃ v, e = .returned v /\ OwnR w' v (Jc2 x rl wd) /\ (∀ b, v.ownBlock = some b -> w.heap.size <= b) /\ Below w.heap.size w w' := by
 have dZ := h.len
 have eA : rl.length = n' := by have := h'.1; simpa using this
 have H := lh h
 have H' := lh h'
 have HX := lh hlx
 have HRL := lh cV
 have HS := lh hs
 have HSZ := lh (fun c k => (Jjx hm hs c (rl.take k)))
 have HOF := lh (fun w => Jb9 0 w (by omega) (by omega))
 have HON := lh (fun w => Jb9 (n' : Int) w (by omega) (by omega))
 have HML := lh (Jh4 x rl wd)
 obtain ⟨l0, bW⟩ : ∃ l, x[0]? = some l := ⟨_, List.getElem?_eq_getElem (by omega)⟩
 have bX := hlx l0 (List.mem_of_getElem? bW)
 have HL0 := lh bW
 clear h h' hlx cV hs bW
 have p0 : (0 : Int) < (n : Int) := by omega
 go_enter Tryz.func83, Tryz.ntmps83
 go_wp2_with fail
 go_loopw [5, 6] (fun v p wr => ∃ c : Nat, c <= wd /\ p = .int .i64 (c : Int) /\ OwnR wr v ((Jc2 x rl wd).take c) /\ (∀ b, v.ownBlock = some b -> w.heap.size <= b) /\ Below w.heap.size w wr) (fun _ p _ => wd - (intOf p).toNat)
 case atStart => exact ⟨0, by omega, rfl, OwnR.nil _, (fun b h => by cases h), Below.refl _ _⟩
 case round =>
  obtain ⟨c, hc, rfl, ho, e9, e8⟩ := hrel
  rename World => wr
  obtain ⟨ad0, A0, m0, c0, rfl, aX, t8, bY⟩ := H.out.at_ HL0.out
  rw [Addr.add_zero'] at t8
  obtain rfl : m0 = wd := by rw [<- bY.len]; exact bX
  have aY := e8.cell (p := ad0) (Nat.lt_of_lt_of_le aX hB)
  rw [t8] at aY
  have cW : ad0.add 0 = ad0 := Addr.add_zero' _
  by_cases cZ : c < m0
  ·have k1 : (c : Int) < (m0 : Int) := by omega
   have HO := lh ho
   have HFR := lh e9
   have HBW := lh e8
   clear ho e9 e8 bY t8
   go_upto_region 5 with fail
   go_cut [7] (fun u wc => Jf4 wr 0 u wc)
   case first =>
    go_wp2_with fail
    refine (HOF.out wr).mono ?_
    rintro e w2 ⟨V, rfl, hR, j6⟩
    obtain ⟨g9, A9, l9, c9', A9', l9', c9'', rfl⟩ := hR.shape
    go_wp2
    go_meet
    exact Jcs j6 hR
   case rest =>
    obtain ⟨gs, ng, A7, l7, d7, A7', l7', d7', rfl, bZ, bs, dA, bQ⟩ := hcut
    rename World => wa
    have HI : Hid (Blk wa gs 56 #[.bool ng, .slice A7 l7 d7, .slice A7' l7' d7'] /\ IsQ wa wa.heap.size (.agg #[.bool ng, .slice A7 l7 d7, .slice A7' l7' d7']) (Vg x c (rl.take 0)) /\ Below wr.heap.size wr wa) := lh ⟨bs, dA, bQ⟩
    clear bs dA bQ aY
    go_upto_block 2 with fail
    go_cut [] (fun wc => ∃ g A l d A' l' d', Blk wc gs 56 #[.bool g, .slice A l d, .slice A' l' d'] /\ IsQ wc wc.heap.size (.agg #[.bool g, .slice A l d, .slice A' l' d']) (Vg x c rl) /\ Below wr.heap.size wr wc)
    case first =>
     go_wp2_with fail
     go_loopw [8] (fun p wi => ∃ k : Nat, k <= n' /\ p = .int .i64 (k : Int) /\ ∃ g A l d A' l' d', Blk wi gs 56 #[.bool g, .slice A l d, .slice A' l' d'] /\ IsQ wi wi.heap.size (.agg #[.bool g, .slice A l d, .slice A' l' d']) (Vg x c (rl.take k)) /\ Below wr.heap.size wr wi) (fun p _ => n' - (intOf p).toNat)
     case atStart => exact ⟨0, by omega, rfl, _, _, _, _, _, _, _, HI.out⟩
     case round =>
      obtain ⟨k, hk, rfl, g, Aa, la, ca, Aa', la', ca', bs, hq, y9⟩ := hrel
      rename World => wi
      clear HI
      by_cases aS : k < n'
      ·have k2 : (k : Int) < (n' : Int) := by omega
       have u4 := HBW.out.trans (y9.mono HBW.out.size)
       obtain ⟨ad2, go, oo, i, rfl, eB, eC, aT, b1⟩ := Reads.at1m (H'.out.below (u4.mono hB)) aS
       have eD : i < n := HRL.out i (List.mem_of_getElem? aT)
       have k3 : (i : Int) < (n : Int) := by omega
       obtain ⟨l, hl⟩ : ∃ l, x[i]? = some l := ⟨_, List.getElem?_eq_getElem (by omega)⟩
       obtain ⟨ad, A1, m1, d1, dB, eE, x7, aH⟩ := (H.out.below Xf (u4.mono hB)).at_ hl
       obtain rfl := Option.some.inj dB
       obtain rfl : m1 = m0 := by rw [<- aH.len]; exact HX.out l (List.mem_of_getElem? hl)
       obtain ⟨y, hy⟩ : ∃ y, l[c]? = some y := ⟨_, List.getElem?_eq_getElem (by rw [HX.out l (List.mem_of_getElem? hl)]; omega)⟩
       obtain ⟨g3, o3, eF, dC⟩ := Xy x7
       rw [eF] at x7
       have b2 := At1.mk' x7
       obtain ⟨ad', gx, ox, r, rfl, eG, eH, b3, iq1⟩ := aH.at_ hy cZ
       have dD : QS 68719476736 y := (HS.out l (List.mem_of_getElem? hl) y (List.mem_of_getElem? hy)).mono (by omega)
       have aZ : QS 68719476736 (Vg x c (rl.take k)) := (HSZ.out c k).mono (by
        rw [List.length_take]
        have := Nat.mul_le_mul (show min k rl.length <= 300 by omega) (show m + 1 <= 1000001 by omega)
        omega)
       have dE := Jkj aT hl hy
       have cA := nt hB u4.size
       have j7 := fun w' (hb : Below wi.heap.size wi w') => Jda (Vg x c (rl.take k)) y w'.heap.size _ _ w' ((hq.next zd hb).more hb.size) (((iq1.more cA).next zd hb).more hb.size) zd aZ dD
       rw [<- dE] at j7
       obtain ⟨s', cB⟩ : ∃ s', Vg x c (rl.take (k + 1)) = s' := ⟨_, rfl⟩
       rw [cB] at j7
       obtain ⟨rg, rA, rm, rc, rA', rm', rc'⟩ := r
       unfold RC.v at j7
       simp only [] at b3 j7
       unfold iv at b1
       have HADD := lh j7
       have HS' := lh cB
       have HBI := lh y9
       have ne1 : ¬ gs = gx := by have := HBW.out.size; omega
       have ne2 : ¬ gx = gs := by omega
       have ne3 : ¬ gs = g3 := by have := HBW.out.size; have h3 : g3 < B := (by rw [dC]; exact eE); omega
       have ne4 : ¬ g3 = gs := by omega
       have ne5 : ¬ gs = go := by have := HBW.out.size; omega
       have ne6 : ¬ go = gs := by omega
       clear j7 dE aZ dD hl aT hq y9 iq1 aH x7 hy cB u4 aX dC dB
       go_upto_region 9 with fail
       obtain ⟨cC, cD, cE⟩ := bs.c3; have cs := bs.drew; have aI := cs.lt; obtain ⟨bA, bB⟩ := b1.c2; have c1 := b1.drew; have aA := c1.lt; obtain ⟨bC, bD⟩ := b2.c2; have c2 := b2.drew; have aB := c2.lt; obtain ⟨eI, eJ, eK⟩ := b3.c3; have c3 := b3.drew; have dF := c3.lt; have hc := Ji wi; go_region_with (first | (go_at_call 94; (with_reducible refine (HADD.out _ hc).mono ?_); rintro e w1 ⟨v1, rfl, aJ, j0⟩; obtain ⟨g1, A1, l1, c1c, A1', l1', c1c', aU⟩ := aJ.shape; subst aU; (try clear j8 j9 o0); obtain ⟨cs, j8, j9, o0⟩ := cs.zc3 j0; (try clear aI); have aI := cs.lt; (try clear o9 p7); obtain ⟨c1, o9, p7⟩ := c1.zc2 j0; (try clear aA); have aA := c1.lt; (try clear p8 p9); obtain ⟨c2, p8, p9⟩ := c2.zc2 j0; (try clear aB); have aB := c2.lt; (try clear cF cG cH); obtain ⟨c3, cF, cG, cH⟩ := c3.zc3 j0; (try clear dF); have dF := c3.lt; have hc := Ja hc j0; obtain ⟨_, _, _, f0, f1, f2, z0, z1, z2⟩ := cs.f3))
       all_goals
        go_wp2
        have cI := ((cs.set_ 0 (.bool g1)).set_ 1 (.slice A1 l1 c1c)).set_ 2 (.slice A1' l1' c1c')
        exact ⟨⟨k + 1, by omega, by go_num, g1, A1, l1, c1c, A1', l1', c1c', by simpa using cI, by rw [HS'.out, World.size_setCell, World.size_setCell, World.size_setCell]; exact aJ.set3 cs _ _ _ _ _ _ _, (((HBI.out.trans (hc.mono HBI.out.size)).setCell bZ _).setCell bZ _).setCell bZ _⟩, by simp [intOf]; omega⟩
      obtain rfl : k = n' := by omega
      have k2 : ¬ (k : Int) < (k : Int) := by omega
      rw [List.take_of_length_le (by omega)] at hq
      have HZ : Hid (_ /\ _ /\ _) := lh ⟨bs, hq, y9⟩
      clear bs hq y9
      go_wp2
      go_meet
      exact ⟨_, _, _, _, _, _, _, HZ.out⟩
    case rest =>
     obtain ⟨g, Aa, la, ca, Aa', la', ca', bs, hq, y9⟩ := hcut
     rename World => wi
     have aZ : QS 68719476736 (Vg x c rl) := by
      have := HSZ.out c rl.length
      rw [List.take_length] at this
      refine this.mono ?_
      have := Nat.mul_le_mul (show rl.length <= 300 by omega) (show m + 1 <= 1000001 by omega)
      omega
     obtain ⟨kq, bR⟩ : ∃ kq : Rat, ((n' : Int) : Rat) = kq := ⟨_, rfl⟩
     have aK : kq = ((n' : Nat) : Rat) := by rw [<- bR, Rat.intCast_natCast]
     have dG : kq ≠ 0 := fun e => by
      rw [<- bR] at e
      have := congrArg Rat.num e
      rw [Rat.num_intCast] at this
      have h2 : (0 : Rat).num = 0 := rfl
      omega
     have dH : QS 68719476736 kq := by rw [aK]; exact (QS.nat (k := 64) (Nat.lt_of_le_of_lt hn' (by decide)) (by omega)).mono (by omega)
     have bE := fun w' (V' : Value) (hb : Below wi.heap.size wi w') (hv : IsQ w' w'.heap.size V' kq) => Jlw (Vg x c rl) kq w'.heap.size _ V' w' ((hq.next zd hb).more hb.size) hv zd aZ dH dG
     have bF := Jku x rl m0 c cZ
     rw [eA, <- aK] at bF
     generalize Vg x c rl / kq = qd at *
     rw [bR] at HON
     have HDIV := lh bE
     have HNX := lh bF
     have HBI := lh y9
     have HLK := lh (show ((Jc2 x rl m0).take c).length <= 1000000 by rw [List.length_take, HML.out]; omega)
     have HNS : Hid (some gs ≠ u5.ownBlock) := lh (fun e => by have := OwnR.lt HO.out gs e.symm; omega)
     clear bE bF y9 aZ dH dG bR aK hq HI HX HRL HS HSZ HOF HL0 H H'
     go_upto_region 10 with fail
     obtain ⟨cC, cD, cE⟩ := bs.c3; have cs := bs.drew; have aI := cs.lt; have hc := Ji wi; go_region_held3 (fun w' => w'.cell? ⟨gs, 0, none⟩ = some (.bool g) /\ w'.cell? ⟨gs, 1, none⟩ = some (.slice Aa la ca) /\ w'.cell? ⟨gs, 2, none⟩ = some (.slice Aa' la' ca')) (go_keep) (first | (go_at_call 87; (with_reducible refine (HON.out _).mono ?_); rintro e w1 ⟨v1, rfl, aJ, j0⟩; obtain ⟨g1, A1, l1, c1c, A1', l1', c1c', aU⟩ := aJ.shape; subst aU; (try clear j8 j9 o0); obtain ⟨cs, j8, j9, o0⟩ := cs.zc3 j0; (try clear aI); have aI := cs.lt; have hc := Ja hc j0) | (go_at_call 128; (with_reducible refine (HDIV.out _ _ hc aJ).mono ?_); rintro e w2 ⟨v2, rfl, dI, bS⟩; obtain ⟨g2, A2, l2, c2c, A2', l2', c2c', aL⟩ := dI.shape; subst aL; (try clear j8 j9 o0); obtain ⟨cs, j8, j9, o0⟩ := cs.zc3 bS; (try clear aI); have aI := cs.lt; have aJ := (aJ.next zd bS).more bS.size; have hc := Ja hc bS) | (refine Jo1 rfl (.tmp 36) (.tmp 42) rfl w2 _ ((Jc2 x rl m0).take c) qd g2 A2 l2 c2c A2' l2' c2c' (by simp [Act.eval, Act.put]) (HO.out.next (HBI.out.trans (hc.mono HBI.out.size))) dI (by simp [Act.eval, Act.put]) HLK.out ?_; intro v7 w7 bG aC; have h0 := HBW.out.trans ((HBI.out.trans (hc.mono HBI.out.size)).mono HBW.out.size); have h7 := h0.trans (aC.below h0.size HFR.out); have HO7 := lh bG; have HF7 := lh (aC.fresh h0.size HFR.out); have H7 := lh h7; clear j8 j9 o0; have cs := cs.grewm aC HNS.out; obtain ⟨j8, j9, o0⟩ := cs.c3; clear bG aC h7 h0))
     all_goals
      go_wp2
      exact ⟨⟨c + 1, by omega, by go_num, by rw [HNX.out]; exact HO7.out, HF7.out, H7.out⟩, by simp [intOf]; omega⟩
  obtain rfl : c = m0 := by omega
  have k1 : ¬ (c : Int) < (c : Int) := by omega
  rw [List.take_of_length_le (by rw [HML.out]; omega)] at ho
  have HO := lh ho
  have HFR := lh e9
  have HBW := lh e8
  clear ho e9 e8 bY t8
  go_wp2
  go_ret
  exact ⟨_, rfl, HO.out, HFR.out, HBW.out⟩
theorem Jkn (A A' : Option Addr) (n c c' B B' : Nat) (l l' : List Rat) (w : World) (h : ReadsR w B A n l) (h' : ReadsR w B' A' n l') (hB : B <= w.heap.size) (dJ : B' <= w.heap.size) (hn : n <= 1000000) (hq : ∀ x ∈ l, QS 68719476736 x) (dK : ∀ x ∈ l', QS 68719476736 x) :
  Calls Tryz.prog 84 #[.slice A n c, .slice A' n c'] w (Ret (.bool (decide (l = l'))) w) := by
 have HLN := lh h.len
 have HLN' := lh h'.len
 have H := lh h
 have H' := lh h'
 have HQ := lh hq
 have HQ' := lh dK
 have HB := lh hB
 have HB' := lh dJ
 have q0 : ((n : Int) != (n : Int)) = false := by simp
 clear h h' hq dK hB dJ
 go_enter Tryz.func84, Tryz.ntmps84
 go_wp2_with fail
 go_loopw [5] (fun p wr => ∃ k : Nat, k <= n /\ p = .int .i64 (k : Int) /\ Hid (l.take k = l'.take k) /\ Below w.heap.size w wr) (fun p _ => n - (intOf p).toNat)
 case atStart => exact ⟨0, by omega, rfl, lh rfl, Below.refl _ _⟩
 case round =>
  obtain ⟨k, hk, rfl, bH, e8⟩ := hrel
  rename World => wr
  by_cases aS : k < n
  ·have k1 : (k : Int) < (n : Int) := by omega
   obtain ⟨x, hx⟩ : ∃ x, l[k]? = some x := ⟨_, List.getElem?_eq_getElem (by have := HLN.out; omega)⟩
   obtain ⟨y, hy⟩ : ∃ y, l'[k]? = some y := ⟨_, List.getElem?_eq_getElem (by have := HLN'.out; omega)⟩
   have eL := nt HB.out e8.size
   have eM := nt HB'.out e8.size
   obtain ⟨ad, gx, ox, r, rfl, eG, eH, b1, iq1⟩ := (H.out.below (e8.mono HB.out)).at_ hx aS
   obtain ⟨ad', gy, oy, r', rfl, eQ, eR, b2, iq2⟩ := (H'.out.below (e8.mono HB'.out)).at_ hy aS
   have bI := fun w' (hb : Below wr.heap.size wr w') => Jhs x y w'.heap.size _ _ w' (((iq1.more eL).next zd hb).more hb.size) (((iq2.more eM).next zd hb).more hb.size) zd (HQ.out x (List.mem_of_getElem? hx)) (HQ'.out y (List.mem_of_getElem? hy))
   have t8 := Jfy x y
   generalize Vq x y = z at *
   obtain ⟨rg, rA, rm, rc, rA', rm', rc'⟩ := r
   obtain ⟨sg, sA, sm, sc, sA', sm', sc'⟩ := r'
   unfold RC.v at bI
   simp only [] at b1 b2 bI
   have HCM := lh bI
   have HBW := lh e8
   by_cases aV : x = y
   ·have z0 := t8.2 aV
    subst z0
    have bF : Hid (l.take (k + 1) = l'.take (k + 1)) := lh (by rw [List.take_add_one, List.take_add_one, hx, hy, bH.out, aV])
    clear bI e8 t8 hx hy iq1 iq2 bH aV
    go_upto_region 6 with fail
    obtain ⟨bA, bB, cJ⟩ := b1.c3; have c1 := b1.drew; have aA := c1.lt; obtain ⟨bC, bD, cK⟩ := b2.c3; have c2 := b2.drew; have aB := c2.lt; have hc := Ji wr; go_region_held3 (fun w' => w'.cell? ⟨gx, ox, none⟩ = some (.bool rg) /\ w'.cell? ⟨gx, ox + 1, none⟩ = some (.slice rA rm rc) /\ w'.cell? ⟨gx, ox + 2, none⟩ = some (.slice rA' rm' rc') /\ w'.cell? ⟨gy, oy, none⟩ = some (.bool sg) /\ w'.cell? ⟨gy, oy + 1, none⟩ = some (.slice sA sm sc) /\ w'.cell? ⟨gy, oy + 2, none⟩ = some (.slice sA' sm' sc')) (go_keep) (first | (go_at_call 89; (with_reducible refine (HCM.out _ hc).mono ?_); rintro e w1 ⟨rfl, j0⟩; (try clear o9 p7 aM); obtain ⟨c1, o9, p7, aM⟩ := c1.zc3 j0; (try clear aA); have aA := c1.lt; (try clear p8 p9 aN); obtain ⟨c2, p8, p9, aN⟩ := c2.zc3 j0; (try clear aB); have aB := c2.lt; have hc := Ja hc j0))
    all_goals
     go_wp2
     exact ⟨⟨k + 1, by omega, by go_num, bF, HBW.out.trans (hc.mono HBW.out.size)⟩, by simp [intOf]; omega⟩
   have z0 : ¬ z = 0 := fun e => aV (t8.1 e)
   have z1 : (z == 0) = false := by simp [z0]
   have z2 : (z != 0) = true := by simp [z0]
   have HE : Hid (decide (l = l') = false) := lh (decide_eq_false fun e => by
    subst e
    exact aV (Option.some.inj (hx.symm.trans hy)))
   clear bI e8 t8 hx hy iq1 iq2 bH aV
   go_upto_region 6 with fail
   obtain ⟨bA, bB, cJ⟩ := b1.c3; have c1 := b1.drew; have aA := c1.lt; obtain ⟨bC, bD, cK⟩ := b2.c3; have c2 := b2.drew; have aB := c2.lt; have hc := Ji wr; go_region_held3 (fun w' => w'.cell? ⟨gx, ox, none⟩ = some (.bool rg) /\ w'.cell? ⟨gx, ox + 1, none⟩ = some (.slice rA rm rc) /\ w'.cell? ⟨gx, ox + 2, none⟩ = some (.slice rA' rm' rc') /\ w'.cell? ⟨gy, oy, none⟩ = some (.bool sg) /\ w'.cell? ⟨gy, oy + 1, none⟩ = some (.slice sA sm sc) /\ w'.cell? ⟨gy, oy + 2, none⟩ = some (.slice sA' sm' sc')) (go_keep) (first | (go_at_call 89; (with_reducible refine (HCM.out _ hc).mono ?_); rintro e w1 ⟨rfl, j0⟩; (try clear o9 p7 aM); obtain ⟨c1, o9, p7, aM⟩ := c1.zc3 j0; (try clear aA); have aA := c1.lt; (try clear p8 p9 aN); obtain ⟨c2, p8, p9, aN⟩ := c2.zc3 j0; (try clear aB); have aB := c2.lt; have hc := Ja hc j0))
   all_goals
    go_wp2
    go_ret
    exact ⟨by rw [HE.out]; rfl, HBW.out.trans (hc.mono HBW.out.size)⟩
  obtain rfl : k = n := by omega
  have k1 : ¬ (k : Int) < (k : Int) := by omega
  have HE : Hid (decide (l = l') = true) := lh (decide_eq_true (by
   have := bH.out
   rwa [List.take_of_length_le (by have := HLN.out; omega), List.take_of_length_le (by have := HLN'.out; omega)] at this))
  have HBW := lh e8
  clear e8 bH
  go_wp2
  go_ret
  exact ⟨by rw [HE.out]; rfl, HBW.out⟩
def Un (gl : List Nat) (g : Nat) : Nat -> List Nat
 | 0 => []
 | k + 1 => if gl.getD k 0 = g then Un gl g k ++ [k] else Un gl g k
theorem Jgg (gl : List Nat) (g : Nat) : ∀ k, ∀ i ∈ Un gl g k, i < k
 | 0, i, h => by cases h
 | k + 1, i, h => by
  unfold Un at h
  split at h
  ·rcases List.mem_append.1 h with h | h
   ·have := Jgg gl g k i h; omega
   rw [List.mem_singleton.1 h]; omega
  have := Jgg gl g k i h; omega
theorem Jdu (gl : List Nat) (g : Nat) : ∀ k, (Un gl g k).length <= k
 | 0 => Nat.le_refl _
 | k + 1 => by
  unfold Un
  have := Jdu gl g k
  split
  ·rw [List.length_append]; simp; omega
  omega
section
variable {f x : List (List Rat)}
theorem Jcy {k : Nat} (hk : k < x.length) : (Jl f x).getD k 0 = Qk f (x.getD k []) := by
 unfold Jl
 rw [List.getD_eq_getElem?_getD, List.getElem?_map, List.getD_eq_getElem?_getD, List.getElem?_eq_getElem hk]
 rfl
theorem Jbt (g : Nat) : ∀ k, k <= x.length -> (Un (Jl f x) g k).length = Xu f x g k
 | 0, _ => rfl
 | k + 1, h => by
  unfold Un Xu
  rw [Jcy (by omega)]
  by_cases h1 : Qk f (x.getD k []) = g
  ·rw [if_pos h1, if_pos h1, List.length_append, Jbt g k (by omega)]; rfl
  rw [if_neg h1, if_neg h1, Jbt g k (by omega)]
theorem Jdv (g c : Nat) : ∀ k, k <= x.length -> Vg x c (Un (Jl f x) g k) = Xt f x g c k
 | 0, _ => rfl
 | k + 1, h => by
  unfold Un Xt
  rw [Jcy (by omega)]
  by_cases h1 : Qk f (x.getD k []) = g
  ·rw [if_pos h1, if_pos h1]
   unfold Vg
   rw [Vf, Je9]
   show Vg x c _ + _ = _
   rw [Jdv g c k (by omega)]
  rw [if_neg h1, if_neg h1, Jdv g c k (by omega)]
theorem Jl5 {wd : Nat} (g : Nat) : Jc2 x (Un (Jl f x) g x.length) wd = Kb wd f x g := by
 unfold Jc2 Kb
 rw [Jbt g _ zd]
 exact List.map_congr_left fun c _ => by rw [Jdv g c _ zd]
end
theorem Jiy (A : Option Addr) (n c B : Nat) (gl : List Nat) (g : Nat) (w : World) (h : Reads w B 1 A n (gl.map iv)) (hB : B <= w.heap.size) (hn : n <= 1000) :
  Calls Tryz.prog 82 #[.slice A n c, .int .i64 (g : Int)] w fun e w' => ∃ v, e = .returned v /\ Own w' 3 iv v (Un gl g n) /\ Below w.heap.size w w' := by
 have cL : gl.length = n := by have := h.1; simpa using this
 have H := lh h
 have HLN := lh (fun k => Jdu gl g k)
 clear h
 go_enter Tryz.func82, Tryz.ntmps82
 go_wp2_with fail
 go_loopw [5, 6] (fun v p wr => ∃ k : Nat, k <= n /\ p = .int .i64 (k : Int) /\ Own wr 3 iv v (Un gl g k) /\ (∀ b, v.ownBlock = some b -> w.heap.size <= b) /\ Below w.heap.size w wr) (fun _ p _ => n - (intOf p).toNat)
 case atStart => exact ⟨0, by omega, rfl, Own.nil_ _ _ _, (fun b h => by cases h), Below.refl _ _⟩
 case round =>
  obtain ⟨k, hk, rfl, ho, e9, e8⟩ := hrel
  rename World => wr
  by_cases aS : k < n
  ·have k1 : (k : Int) < (n : Int) := by omega
   obtain ⟨ad, go, oo, i, rfl, eB, eC, aT, b1⟩ := Reads.at1m (H.out.below (e8.mono hB)) aS
   unfold iv at b1
   obtain ⟨x0, -⟩ := b1.c2
   have hd : gl.getD k 0 = i := by rw [List.getD_eq_getElem?_getD, aT]; rfl
   have x8 : Un gl g (k + 1) = if i = g then Un gl g k ++ [k] else Un gl g k := by
    show (if gl.getD k 0 = g then _ else _) = _
    rw [hd]
   have HO := lh ho
   have HFR := lh e9
   have HBW := lh e8
   have dL := HLN.out k
   clear ho e9 e8 aT hd b1
   by_cases dM : i = g
   ·subst dM
    rw [if_pos rfl] at x8
    have q1 : ((i : Int) == (i : Int)) = true := by simp
    have HSN := lh x8
    clear x8
    go_wp2_with (at_builtin; refine Jmt (f := iv) Tryz.eltIntR rfl (.tmp 19) (.tmp 21) rfl wr _ (Un gl i k) k (.int .i64 (k : Int)) rfl rfl HO.out (by simp [Act.eval]) rfl (by unfold maxLen; omega) (by omega) ?_; intro v' w2 s9 bJ)
    have q8 := HBW.out.trans (bJ.below HBW.out.size HFR.out)
    have aO := bJ.fresh HBW.out.size HFR.out
    rw [<- HSN.out] at s9
    exact ⟨⟨k + 1, by omega, by go_num, s9, aO, q8⟩, by simp [intOf]; omega⟩
   rw [if_neg dM] at x8
   have q1 : ((i : Int) == (g : Int)) = false := by simp; omega
   have q2 : ¬ (i : Int) = (g : Int) := by omega
   have HSN := lh x8
   clear x8
   go_wp2
   exact ⟨⟨k + 1, by omega, by go_num, by rw [HSN.out]; exact HO.out, HFR.out, HBW.out⟩, by simp [intOf]; omega⟩
  obtain rfl : k = n := by omega
  have k1 : ¬ (k : Int) < (k : Int) := by omega
  have HO := lh ho
  have HBW := lh e8
  clear ho e8 e9
  go_wp2
  go_ret
  exact ⟨_, rfl, HO.out, HBW.out⟩
def RP (P : Value -> Prop) (w : World) (v : Value) (b : List Rat) : Prop := OwnR w v b /\ P v
abbrev OwnRP (P : Value -> Prop) (w : World) (v : Value) (f : List (List Rat)) : Prop := OwnS 42 (RP P) w v f
theorem Jcl (P : Value -> Prop) : Kind 42 (RP P) where
 next := fun h hb => ⟨OwnR.next h.1 hb, h.2⟩
 only := fun h h' ho => ⟨Tryz.kindRR.only h.1 h' ho, h.2⟩
 form := fun h => Tryz.kindRR.form h.1
theorem OwnRP.plain {P : Value -> Prop} {w : World} {v : Value} {f : List (List Rat)} (h : OwnRP P w v f) : Zs w v f := by
 obtain ⟨rl, h1, h2, h3⟩ := h
 exact ⟨rl, h1, h2, fun i r b hr hb => (h3 i r b hr hb).1⟩
theorem OwnRP.of {P : Value -> Prop} {w : World} {v : Value} {f : List (List Rat)} (h : Zs w v f) (hP : ∀ v : Value, (∀ k, v.ownBlock = some k -> k < w.heap.size) -> P v) : OwnRP P w v f := by
 obtain ⟨rl, h1, h2, h3⟩ := h
 exact ⟨rl, h1, h2, fun i r b hr hb => ⟨h3 i r b hr hb, hP _ (OwnR.lt (h3 i r b hr hb))⟩⟩
theorem Jit (wd : Nat) (f x : List (List Rat)) (i : Nat) (hi : i < f.length) : (Xr wd f x).take (i + 1) = (Xr wd f x).take i ++ [Xi wd f x i] := by
 rw [List.take_add_one]
 unfold Xr
 rw [Yn hi]
 rfl
theorem Jho (A A' : Option Addr) (n c n' c' wd B m mx : Nat) (f x : List (List Rat)) (w : World) (h : MD w B A A' n n' wd m f x) (P : Value -> Prop) (hP : ∀ v : Value, (∀ k, v.ownBlock = some k -> w.heap.size <= k) -> P v) (o7 : OwnRP P w (.slice A n c) f) (bP : 1 <= n') (hmx : 1 <= mx) (hsm : n' * (mx + 1) + 65 <= m) (hsx : ∀ l ∈ x, ∀ y ∈ l, QS mx y) :
  Calls Tryz.prog 34 #[.slice A n c, .slice A' n' c'] w fun e w' => ∃ v, e = .returned (.tuple #[v, .int .i64 (Zq wd f x : Int)]) /\ OwnRP P w' v (Xr wd f x) /\ (∀ b, v.ownBlock = some b -> w.heap.size <= b) /\ Below w.heap.size w w' := by
 have hlf := h.hf.len
 have hlx := h.hx.len
 have hn' := h.hn'
 have hn2 := h.hn2
 have eS := h.hn
 have hwd := h.hwd
 have HG := lh (Jbe A A' n c n' c' wd B m f x w h)
 have cL : (Jl f x).length = n' := by unfold Jl; rw [List.length_map]; exact hlx
 have HSL : Hid ((Xr wd f x).length = n) := lh (by rw [Jaq]; exact hlf)
 have HQS : Hid (∀ l ∈ Xr wd f x, ∀ y ∈ l, QS m y) := lh (Jdj hmx (by omega) (by rw [hlx]; exact hsm) hsx h.hsf)
 have HMV := lh (show Zq wd f x = Xc wd f x n by unfold Zq; rw [hlf])
 obtain ⟨A0, eN⟩ : ∃ g, A = some ⟨g, 0, none⟩ := OwnS.addr o7 (by omega)
 subst eN
 have H := lh h
 have HOW := lh o7
 have HHX := lh (And.intro cL (And.intro hlx hlf))
 clear h o7 cL hlx
 go_enter Tryz.func34, Tryz.ntmps34
 go_wp2_with fail
 refine HG.out.mono ?_
 rintro e w1 ⟨v, rfl, ho, aP⟩
 obtain ⟨A6, c6, hv, -, -⟩ := ho.form
 rw [HHX.out.1] at hv
 subst hv
 have HGR : Hid (Reads w1 w1.heap.size 1 A6 n' ((Jl f x).map iv)) := lh (by have := ho.reads; rw [HHX.out.1] at this; exact this)
 have HB1 := lh aP
 clear ho aP HG
 go_wp2_with fail
 go_loopw [7, 8, 9] (fun v mv p wr => ∃ i : Nat, i <= n /\ p = .int .i64 (i : Int) /\ mv = .int .i64 (Xc wd f x i : Int) /\ OwnRP P wr v ((Xr wd f x).take i) /\ (∀ b, v.ownBlock = some b -> w1.heap.size <= b) /\ Below w1.heap.size w1 wr) (fun _ _ p _ => n - (intOf p).toNat)
 case atStart => exact ⟨0, by omega, rfl, rfl, OwnS.nil _ _ _, (fun b h => by cases h), Below.refl _ _⟩
 case round =>
  obtain ⟨i, hi, rfl, rfl, ho, e9, e8⟩ := hrel
  rename World => wr
  by_cases eD : i < n
  ·have k1 : (i : Int) < (n : Int) := by omega
   obtain ⟨l, hl⟩ : ∃ l, f[i]? = some l := ⟨_, List.getElem?_eq_getElem (by omega)⟩
   have dN : l.length = wd := H.out.hlf l (List.mem_of_getElem? hl)
   have cM : f.getD i [] = l := by rw [List.getD_eq_getElem?_getD, hl]; rfl
   have o6 := HB1.out.trans (e8.mono HB1.out.size)
   have bK := OwnS.next (Jcl P) HOW.out o6
   obtain ⟨A1, m1, c1, x7, x9, dO⟩ := OwnS.at_ bK hl
   obtain ⟨A1', c1', aU, -, -⟩ := OwnR.form x9
   rw [dN] at aU
   injection aU with e1 e2 e3
   rw [e2] at x7 x9 dO
   clear e1 e2 e3
   have dP := Jiy A6 n' c6 w1.heap.size (Jl f x) i wr (HGR.out.below e8) e8.size (by omega)
   have dQ : (Xi wd f x i).length = wd := Jff H.out.hlf (by omega)
   have dR : ∀ y ∈ Xi wd f x i, QS 68719476736 y := fun y hy => (HQS.out (Xi wd f x i) (List.mem_map.2 ⟨i, List.mem_range.2 (by omega), rfl⟩) y hy).mono (by have := H.out.hm2; omega)
   have dS : ∀ y ∈ l, QS 68719476736 y := fun y hy => (H.out.hsf l (List.mem_of_getElem? hl) y hy).mono (by have := H.out.hm2; omega)
   have dT : (Un (Jl f x) i n').length = Xu f x i x.length := by rw [HHX.out.2.1, <- HHX.out.2.1]; exact Jbt i _ zd
   have bL : Jc2 x (Un (Jl f x) i n') wd = Kb wd f x i := by have := Jl5 (f := f) (x := x) (wd := wd) i; rw [HHX.out.2.1] at this; exact this
   have x8 := Jit wd f x i (by omega)
   have dU : Xc wd f x (i + 1) = if Xi wd f x i = l then Xc wd f x i else Xc wd f x i + 1 := by
    show (if _ = f.getD i [] then _ else _) = _
    rw [cM]
   have eO := Jbg wd f x i
   have HL := lh (And.intro dQ (And.intro dR dS))
   have HMID := lh (And.intro dT bL)
   have HSN := lh x8
   have HMVN := lh dU
   have HO := lh ho
   have HFR := lh e9
   have HBW := lh e8
   have HBWR := lh o6
   have HOF := lh dP
   have HOR := lh x9
   have HNX := lh (show Xi wd f x i = if Xu f x i x.length = 0 then l else Kb wd f x i by unfold Xi; rw [cM])
   have aD := Jgg (Jl f x) i n'
   have aE := Jdu (Jl f x) i n'
   have HOFL := lh (And.intro aD aE)
   have j7 : (⟨A0, 0, none⟩ : Addr).add i = ⟨A0, i, none⟩ := by rcases i with _ | i <;> simp [Addr.add]
   clear ho e9 e8 o6 dP bK dQ dR dS dT bL x8 dU aD aE x9 cM
   go_wp2_with fail
   refine HOF.out.mono ?_
   rintro e w2 ⟨v2, rfl, s9, j6⟩
   obtain ⟨A2, c2, aL, -, -⟩ := s9.form
   obtain ⟨k2, bT⟩ : ∃ k2, (Un (Jl f x) i n').length = k2 := ⟨_, rfl⟩
   rw [bT] at aL
   subst aL
   have aQ := s9.reads
   rw [bT] at aQ
   have y8 := j6.cell (p := ⟨A0, i, none⟩) (Zv x7)
   rw [x7] at y8
   have HC1 := lh y8
   have HRD2 := lh aQ
   have HB2 := lh j6
   have HK2 := lh bT
   have HOR2 := lh (OwnR.next HOR.out j6)
   clear s9 j6 aQ x7 HOF bT HOR
   go_upto_if 30 with fail
   go_cut [11] (fun u wc => ∃ A3 c3, u = .slice A3 wd c3 /\ OwnR wc (.slice A3 wd c3) (Xi wd f x i) /\ P (.slice A3 wd c3) /\ Below w2.heap.size w2 wc)
   case first =>
    rcases Nat.lt_or_ge 0 k2 with hz | hz
    rotate_left
    ·have q1 : ¬ (0 : Int) < (k2 : Int) := by omega
     have HE := lh (HNX.out.trans (if_pos (by rw [<- HMID.out.1, HK2.out]; omega)))
     go_wp2
     go_meet
     exact ⟨A1, c1, rfl, by rw [HE.out]; exact HOR2.out, dO, Below.refl _ _⟩
    have q1 : (0 : Int) < (k2 : Int) := by omega
    have HE := lh (HNX.out.trans ((if_neg (by rw [<- HMID.out.1, HK2.out]; omega)).trans HMID.out.2.symm))
    have cN := HBW.out.trans (HB2.out.mono HBW.out.size)
    have o6 := HBWR.out.trans (HB2.out.mono HBWR.out.size)
    have t7 := H.out.next o6
    have HMI := lh (Ji0 A' A2 n' c' k2 c2 wd w2.heap.size m x (Un (Jl f x) i n') w2 (t7.hx.more Xf t7.hB) HRD2.out zd bP (by omega) (by have := HOFL.out.2; have := HK2.out; omega) hwd t7.hlx HOFL.out.1 t7.hm t7.hm2 t7.hsx)
    have HBWR2 := lh o6.size
    clear cN o6 t7 y8
    go_wp2_with fail
    refine HMI.out.mono ?_
    rintro e w3 ⟨v3, rfl, aF, dV, o8⟩
    have cO := hP _ (fun k hk => nt HBWR2.out (dV k hk))
    obtain ⟨A3, c3, dW, -, -⟩ := OwnR.form aF
    rw [Jh4] at dW
    subst dW
    rw [<- HE.out] at aF
    have HO3 := lh aF
    have HB3 := lh o8
    clear aF o8 dV
    go_wp2
    go_meet
    exact ⟨A3, c3, rfl, HO3.out, cO, HB3.out⟩
   case rest =>
    obtain ⟨A3, c3, rfl, aF, cO, o8⟩ := hcut
    rename World => w3
    have dX := o8.cell (p := ⟨A0, i, none⟩) (Zv HC1.out)
    rw [HC1.out] at dX
    have cP := OwnR.reads aF
    rw [HL.out.1] at cP
    have aH := OwnR.reads (OwnR.next HOR2.out o8)
    rw [dN] at aH
    have HSA := lh (Jkn A3 A1 wd c3 c1 w3.heap.size w3.heap.size (Xi wd f x i) l w3 cP aH zd zd (by omega) HL.out.2.1 HL.out.2.2)
    have HO3 := lh aF
    have HB3 := lh (HB2.out.trans (o8.mono HB2.out.size))
    clear aF o8 cP aH y8 HOR2 HB2
    go_wp2_with fail
    refine HSA.out.mono ?_
    rintro e w4 ⟨rfl, aR⟩
    have HB4 := lh aR
    clear aR dX
    go_upto_if 40 with fail
    go_cut [8] (fun u wc => u = .int .i64 (Xc wd f x (i + 1) : Int) /\ w4 = wc)
    case first =>
     by_cases hsm : Xi wd f x i = l
     ·rw [decide_eq_true hsm]
      have HE := lh (HMVN.out.trans (if_pos hsm))
      clear hsm
      go_wp2
      go_meet
      exact ⟨by rw [HE.out], rfl⟩
     rw [decide_eq_false hsm]
     have HE := lh (HMVN.out.trans (if_neg hsm))
     clear hsm
     go_wp2
     go_meet
     exact ⟨by rw [HE.out]; go_num, rfl⟩
    case rest =>
     obtain ⟨rfl, rfl⟩ := hcut
     have aR := HB4.out
     have HOL := lh (OwnS.next (Jcl P) HO.out (HB3.out.trans (aR.mono HB3.out.size)))
     have HEL : Hid (RP P w4 (.slice A3 wd c3) (Xi wd f x i)) := lh ⟨OwnR.next HO3.out aR, cO⟩
     have HBY := lh (HBW.out.trans ((HB3.out.trans (aR.mono HB3.out.size)).mono HBW.out.size))
     have HLN := lh (show ((Xr wd f x).take i).length <= 1000000 by rw [List.length_take]; omega)
     clear aR HO HO3 HSA HB3
     go_wp2_with (at_builtin; refine Jns (Jcl P) Tryz.eltM rfl (.tmp 43) (.tmp 45) rfl w4 _ ((Xr wd f x).take i) A3 wd c3 (Xi wd f x i) rfl HOL.out HEL.out rfl HLN.out ?_; intro v' w5 aG bJ)
     have q8 := HBY.out.trans (bJ.below HBY.out.size HFR.out)
     have aO := bJ.fresh HBY.out.size HFR.out
     rw [<- HSN.out] at aG
     exact ⟨⟨i + 1, by omega, by go_num, rfl, aG, aO, q8⟩, by simp [intOf]; omega⟩
  obtain rfl : i = n := by omega
  have k1 : ¬ (i : Int) < (i : Int) := by omega
  rw [List.take_of_length_le (by rw [HSL.out]; omega)] at ho
  have HO := lh ho
  have HFR := lh e9
  have HBW := lh (HB1.out.trans (e8.mono HB1.out.size))
  have HE := lh HMV.out
  clear ho e9 e8
  go_wp2
  go_returns
  exact ⟨_, by rw [HE.out]; rfl, HO.out, fun b hb => nt HB1.out.size (HFR.out b hb), HBW.out⟩
theorem Jqb {α : Type} {P : Program} {ops : Array Oper} {o : Oper} {a : Act} {K : Act -> World -> Prop} {Q : Exit -> Act -> World -> Prop} {E0 : Prop} {t e : TypeId} {z : Value} {bytes : Nat} {f : α -> Value}
  (E : Elt P t e z bytes) (fN : o.guard = none) (s x : Operand)
  (ho : o.op = .call { callee := .builtin .append, args := #[s, x], argTypes := #[t, t] })
  (w : World) (v : Value) (l : List α) (B : Nat) (A : Option Addr) (n c : Nat) (l2 : List α) (hs : a.eval s = v) (o7 : Own w e f v l) (hx : a.eval x = .slice A n c)
  (hr : Reads w B 1 A n (l2.map f)) (fV : ∀ m, (f m).oneCell' = true) (iG : l.length + n <= maxLen) (hb : (l.length + n) * bytes <= 140737488355328)
  (h : ∀ v' w1, Own w1 e f v' (l ++ l2) -> Grew w w1 v v' -> K (a.put o.dst v') w1) : if Region.wanted o (yielded ops a.tmps) = true then Oper.wp P o a w K Q else E0 := by
 obtain ⟨i0, iH, fO, fW, iI⟩ := info_parts E.info
 refine Vp _ fN s x t ho 0 e i0 z 1 bytes E.under iH fO fW iI E.one (by omega) v l.length (l.map f) hs o7 B A n c (l2.map f) hx hr
  (by intro u hu; simp at hu; obtain ⟨m, _, rfl⟩ := hu; exact fV m) iG hb (Nat.zero_le _) ?_
 intro v' w' fG bJ iJ
 refine h v' w' ?_ (Grew.of_grown bJ iJ)
 have hl := hr.lenf
 unfold Own
 rw [List.length_append, List.map_append, hl]
 exact fG
section
variable {β : Type} {T TT : TypeId} {I : World -> Value -> β -> Prop} {ops : Array Oper} {op : Oper} {a : Act} {K : Act -> World -> Prop} {Q : Exit -> Act -> World -> Prop} {Z : Prop}
theorem Jqe (KK : Kind T I) (E : Elt Tryz.prog TT T (.slice none 0 0) 24) (fN : op.guard = none) (s x : Operand)
  (ho : op.op = .call { callee := .builtin .append, args := #[s, x], argTypes := #[TT, TT] })
  (wr : World) (v : Value) (bl : List β) (A : Option Addr) (n c : Nat) (b : β) (hs : a.eval s = v) (o7 : OwnS T I wr v bl) (iK : I wr (.slice A n c) b) (hx : a.eval x = .slice (some ⟨wr.heap.size, 0, none⟩) 1 1) (hl : bl.length <= 1000000)
  (h : ∀ v' w1, OwnS T I w1 v' (bl ++ [b]) -> Grew wr w1 v v' -> K (a.put op.dst v') w1) : if Region.wanted op (yielded ops a.tmps) = true then Oper.wp Tryz.prog op a (wr.alloc (.cells #[.slice A n c] T)) K Q else Z := by
 obtain ⟨rl, h1, h2, h3⟩ := o7
 refine Jqb E fN s x ho (wr.alloc (.cells #[.slice A n c] T)) v rl (wr.heap.size + 1) (some ⟨wr.heap.size, 0, none⟩) 1 1 [(⟨A, n, c⟩ : SW)] hs (Own.alloc h1 _) hx (Row.new wr T SW.v [⟨A, n, c⟩]).reads SW.one (by unfold maxLen; omega) (by omega) ?_
 intro v' w1 h4 h5
 have bJ : Grew wr w1 v v' := by
  refine ⟨h5.os, h5.tape, h5.output, nt (by simp) h5.size, fun k hk bV => (h5.block k (by simp; omega) bV).trans (Below.heap_alloc wr _ k hk), fun k hk => ?_⟩
  rcases h5.own k hk with h6 | h6
  ·exact .inl h6
  exact .inr (by simp at h6; omega)
 exact h v' w1 (OwnS.snoc KK h1 h2 h3 iK h4 bJ) bJ
end
theorem Jqg (A : Option Addr) (n c B : Nat) (l : List Rat) (u : Rat) (V : Value) (w : World) (h : ReadsR w B A n l) (hV : IsQ w B V u) (hB : B <= w.heap.size) (hn : n <= 1000) (hq : ∀ x ∈ l, QS 1000000 x) (hu : QS 1000000 u) :
  Calls Tryz.prog 28 #[.slice A n c, V] w fun e w' => ∃ v, e = .returned v /\ (∃ A c, v = .slice A n c) /\ OwnR w' v (Jpf u l) /\ Below w.heap.size w w' := by
 have dZ := h.len
 obtain ⟨ng, A7, l7, d7, A7', l7', d7', rfl⟩ := hV.shape
 have H := lh h
 have HV := lh hV
 have HQ := lh hq
 have HLS : Hid ((Jpf u l).length = n) := lh (by unfold Jpf; rw [List.length_map]; exact dZ)
 clear h hV hq
 obtain ⟨b0, hB, hZ⟩ := bx1 w 56 #[.bool ng, .slice A7 l7 d7, .slice A7' l7' d7']
 go_enter Tryz.func28, Tryz.ntmps28
 have HZ := lh (And.intro b0 hB)
 have HBB := lh ‹B <= w.heap.size›
 clear b0 hB
 go_wp2_with fail
 generalize (w.alloc (.cells #[.bool ng, .slice A7 l7 d7, .slice A7' l7' d7'] 56)) = W at *
 go_loopw [5, 6] (fun v p wr => ∃ k : Nat, k <= n /\ p = .int .i64 (k : Int) /\ OwnR wr v ((Jpf u l).take k) /\ (∀ b, v.ownBlock = some b -> w.heap.size + 1 <= b) /\ Blk wr w.heap.size 56 #[.bool ng, .slice A7 l7 d7, .slice A7' l7' d7'] /\ Below w.heap.size w wr) (fun _ p _ => n - (intOf p).toNat)
 case atStart => exact ⟨0, by omega, rfl, OwnR.nil _, (fun b h => by cases h), HZ.out.1, HZ.out.2⟩
 case round =>
  obtain ⟨k, hk, rfl, ho, e9, fP, e8⟩ := hrel
  rename World => wr
  by_cases aS : k < n
  ·have k1 : (k : Int) < (n : Int) := by omega
   obtain ⟨x, hx⟩ : ∃ x, l[k]? = some x := ⟨_, List.getElem?_eq_getElem (by omega)⟩
   have gG := nt HBB.out e8.size
   obtain ⟨ad, gx, ox, r, rfl, eG, eH, b1w, iq1w⟩ := H.out.at_ hx aS
   have b1 := b1w.below (e8.mono HBB.out) eH
   have iq1 := iq1w.below (e8.mono HBB.out)
   have gH := (HV.out.below (e8.mono HBB.out))
   have fQ := fun w' (hb : Below wr.heap.size wr w') => Jnc x u w'.heap.size _ _ w' (((iq1.more gG).next zd hb).more hb.size) (((gH.more gG).next zd hb).more hb.size) zd ((HQ.out x (List.mem_of_getElem? hx)).mono (by omega)) (hu.mono (by omega))
   have x8 : (Jpf u l).take (k + 1) = (Jpf u l).take k ++ [x * u] := by
    rw [List.take_add_one]
    unfold Jpf
    rw [List.getElem?_map, hx]
    rfl
   generalize x * u = q at *
   obtain ⟨rg, rA, rl, rc, rA', rl', rc'⟩ := r
   unfold RC.v at fQ
   simp only [] at b1 fQ
   have HMU := lh fQ
   have HSN := lh x8
   have HO := lh ho
   have HFR := lh e9
   have HBW := lh e8
   have HLK := lh (show ((Jpf u l).take k).length <= 1000000 by rw [List.length_take]; omega)
   have D0 := lh fP
   have D1 := lh b1w
   have b0 := fP
   have ne0 : Hid (w.heap.size < w.heap.size + 1) := lh (by omega)
   clear fQ x8 ho e9 e8 hx iq1 gH eH fP iq1w b1w
   go_upto_region 5 with fail
   obtain ⟨fX, fY, fZ⟩ := b0.c3; have c0 := b0.drew; have fA := c0.lt; obtain ⟨bA, bB, cJ⟩ := b1.c3; have c1 := b1.drew; have aA := c1.lt; have hc := Ji wr; go_region_held3 (fun w' => w'.cell? ⟨w.heap.size, 0, none⟩ = some (.bool ng) /\ w'.cell? ⟨w.heap.size, 1, none⟩ = some (.slice A7 l7 d7) /\ w'.cell? ⟨w.heap.size, 2, none⟩ = some (.slice A7' l7' d7') /\ w'.cell? ⟨gx, ox, none⟩ = some (.bool rg) /\ w'.cell? ⟨gx, ox + 1, none⟩ = some (.slice rA rl rc) /\ w'.cell? ⟨gx, ox + 2, none⟩ = some (.slice rA' rl' rc')) (go_keep) (first | (go_at_call 30; (with_reducible refine (HMU.out _ hc).mono ?_); rintro e w1 ⟨v1, rfl, aJ, j0⟩; obtain ⟨g1, A1, l1, c1c, A1', l1', c1c', aU⟩ := aJ.shape; subst aU; (try clear eW eX eY); obtain ⟨c0, eW, eX, eY⟩ := c0.zc3 j0; (try clear fA); have fA := c0.lt; (try clear o9 p7 aM); obtain ⟨c1, o9, p7, aM⟩ := c1.zc3 j0; (try clear aA); have aA := c1.lt; have hc := Ja hc j0) | (refine Jo1 rfl (.tmp 13) (.tmp 20) rfl w1 _ ((Jpf u l).take k) q g1 A1 l1 c1c A1' l1' c1c' (by simp [Act.eval, Act.put]) (HO.out.next hc) aJ (by simp [Act.eval, Act.put]) HLK.out ?_; intro v7 w7 bG aC; have h0 := HBW.out.trans (hc.mono HBW.out.size); have h7 := h0.trans (aC.below h0.size (fun b hb => Nat.le_of_succ_le (HFR.out b hb))); have HO7 := lh bG; have HF7 := lh (aC.fresh (nt (Nat.succ_le_of_lt D0.out.lt) hc.size) HFR.out); have H7 := lh h7; clear eW eX eY o9 p7 aM; have c0 := c0.grewm aC (fun e => by have := HFR.out _ e.symm; omega); have c1 := D1.out.below h7 D1.out.lt; obtain ⟨eW, eX, eY⟩ := c0.c3; obtain ⟨o9, p7, aM⟩ := c1.c3; clear bG aC h7 h0))
   all_goals
    go_wp2
    exact ⟨⟨k + 1, by omega, by go_num, by rw [HSN.out]; exact HO7.out, HF7.out, c0, H7.out⟩, by simp [intOf]; omega⟩
  obtain rfl : k = n := by omega
  have k1 : ¬ (k : Int) < (k : Int) := by omega
  rw [List.take_of_length_le (by rw [HLS.out]; omega)] at ho
  obtain ⟨Az, cz, gI, -, -⟩ := OwnR.form ho
  rw [HLS.out] at gI
  subst gI
  have HO := lh ho
  have HBW := lh e8
  clear ho e9 e8 fP
  go_wp2
  go_ret
  exact ⟨_, rfl, ⟨Az, cz, rfl⟩, HO.out, HBW.out⟩
theorem MD.with_ {w : World} {B n n' wd m mx c : Nat} {A A' Af : Option Addr} {f x : List (List Rat)} (h : MD w B A A' n n' wd m f x) (hmx : 1 <= mx) (hsm : n' * (mx + 1) + 65 <= m) (hsx : ∀ l ∈ x, ∀ y ∈ l, QS mx y) (i : Nat) (ho : Zs w (.slice Af n c) (Qj wd x f i)) : MD w w.heap.size Af A' n n' wd m (Qj wd x f i) x := by
 have hx := h.hx.len
 refine ⟨OwnS.readS (fun h => OwnR.reads_ h) ho, h.hx.more Xf h.hB, Nat.le_refl _, h.hn, h.hn2, h.hn', h.hwd, Jb0 h.hlf i, h.hlx, h.hm, h.hm2, ?_, h.hsx⟩
 exact Jb2 hmx (by have := h.hn'; omega) (by rw [hx]; exact hsm) hsx h.hsf i
def PA (kv v : Value) : Prop := ∀ k, kv.ownBlock = some k -> v.ownBlock ≠ some k
theorem OwnRP.grown {w w' : World} {kv kv' v : Value} {ks : List Rat} {f : List (List Rat)} (h : OwnRP (PA kv) w v f) (hk : OwnR w kv ks) (hg : Grew w w' kv kv') : OwnRP (PA kv') w' v f := by
 obtain ⟨rl, h1, h2, h3⟩ := h
 obtain ⟨kl, k1, k2⟩ := hk
 refine ⟨rl, h1.kept hg (fun k hv bM => Jmu k1 h1 (by decide) k bM hv), h2, fun i r b hr hb => ?_⟩
 obtain ⟨h4, h5⟩ := h3 i r b hr hb
 refine ⟨OwnR.other h4 ⟨kl, k1, k2⟩ hg.size (fun k hk bV => hg.block k hk bV) (fun k hv bM => h5 k bM hv), fun k bM hv => ?_⟩
 rcases hg.own k bM with e | e
 ·exact h5 k e hv
 have := OwnR.lt h4 k hv
 omega
theorem Jne (A A' : Option Addr) (n c n' c' wd B m mx most : Nat) (f x : List (List Rat)) (w : World) (h : MD w B A A' n n' wd m f x) (o7 : Zs w (.slice A n c) f) (bP : 1 <= n') (hmx : 1 <= mx) (hsm : n' * (mx + 1) + 65 <= m) (hsx : ∀ l ∈ x, ∀ y ∈ l, QS mx y) (dY : most <= 200) :
  Calls Tryz.prog 21 #[.slice A' n' c', .slice A n c, .int .i64 (most : Int)] w fun e w' => ∃ v k, e = .returned (.tuple #[v, k]) /\ Zs w' v (Qj wd x f most) /\ OwnR w' k (Ze wd x f most) /\ Below w.heap.size w w' := by
 have hlf := h.hf.len
 have HC0 := lh (Jdr A A' n c n' c' wd B m f x w h)
 have H := lh h
 have HOW := lh o7
 have HSX := lh hsx
 clear h o7 hsx
 obtain ⟨q0, cQ⟩ : ∃ q, Zk f x = q := ⟨_, rfl⟩
 rw [cQ] at HC0
 have HQ0 := lh cQ
 clear cQ
 go_enter Tryz.func21, Tryz.ntmps21
 go_wp2_with fail
 refine HC0.out.mono ?_
 rintro e w1 ⟨V, rfl, hR, aP⟩
 obtain ⟨g9, A9, l9, c9, A9', l9', c9', rfl⟩ := hR.shape
 have HK : Hid (OwnR (w1.alloc (.cells #[.bool g9, .slice A9 l9 c9, .slice A9' l9' c9'] 56)) (.slice (some ⟨w1.heap.size, 0, none⟩) 1 1) (Ze wd x f 0)) := lh (by
  have := Jhw w1 ⟨g9, A9, l9, c9, A9', l9', c9'⟩ q0 hR
  show OwnR _ _ [Zk f x]
  rw [HQ0.out]
  exact this)
 have j6 := Ja aP (Jb w1 (.cells #[.bool g9, .slice A9 l9 c9, .slice A9' l9' c9'] 56))
 have HM0 : Hid (OwnRP (PA (.slice (some ⟨w1.heap.size, 0, none⟩) 1 1)) (w1.alloc (.cells #[.bool g9, .slice A9 l9 c9, .slice A9' l9' c9'] 56)) (.slice A n c) f) := lh (OwnS.next (Jcl _) (OwnRP.of HOW.out fun v hv k hk cS => by
  have e : w1.heap.size = k := by simpa [Value.ownBlock] using hk
  have := hv k cS
  have := aP.size
  omega) j6)
 have HB2 := lh j6
 have eT := aP.size
 clear hR aP j6 HC0
 go_wp2_with fail
 go_loopw [1, 8, 9] (fun mv kv p wr => ∃ (i : Nat) (A c : _), i <= most /\ p = .int .i64 (i : Int) /\ mv = .slice A n c /\ OwnRP (PA kv) wr (.slice A n c) (Qj wd x f i) /\ OwnR wr kv (Ze wd x f i) /\ (∀ b, kv.ownBlock = some b -> w.heap.size <= b) /\ Below w.heap.size w wr) (fun _ _ p _ => most - (intOf p).toNat)
 case atStart => exact ⟨0, A, c, by omega, rfl, rfl, HM0.out, HK.out, (fun b h => by have e : w1.heap.size = b := (by simpa [Value.ownBlock] using h); omega), HB2.out⟩
 case round =>
  obtain ⟨i, Ai, ci, hi, rfl, rfl, aW, bN, e9, e8⟩ := hrel
  rename World => wr
  clear HK HM0 HB2
  by_cases eU : i < most
  ·have k1 : (i : Int) < (most : Int) := by omega
   have t7 := (H.out.next e8).with_ hmx hsm HSX.out i (OwnRP.plain aW)
   have HST := lh (Jho Ai A' n ci n' c' wd wr.heap.size m mx (Qj wd x f i) x wr t7 (PA u8) (fun v hv k hk cS => by
    have h1 := OwnR.lt bN k hk
    have h2 := hv k cS
    omega) aW bP hmx hsm HSX.out)
   obtain ⟨M, hM⟩ : ∃ M, Zq wd (Qj wd x f i) x = M := ⟨_, rfl⟩
   rw [hM] at HST
   have HM := lh hM
   have HOM := lh aW
   have HOK := lh bN
   have HFR := lh e9
   have HBW := lh e8
   clear aW bN e9 e8 t7 hM
   go_wp2_with fail
   refine HST.out.mono ?_
   rintro e w2 ⟨v2, rfl, s9, -, j6⟩
   obtain ⟨A2, c2, aL⟩ := OwnS.form s9
   rw [Jaq, Jb1, hlf] at aL
   subst aL
   have HB2 := lh (HBW.out.trans (j6.mono HBW.out.size))
   have HO2 := lh s9
   have HOK2 := lh (OwnR.next HOK.out j6)
   have HOM2 := lh (OwnS.next (Jcl _) HOM.out j6)
   clear s9 j6 HST HOK HBW HOM
   by_cases bU : M = 0
   ·subst bU
    have hs := Jcp HM.out most (by omega)
    have HZ : Hid (Zs w2 (.slice Ai n ci) (Qj wd x f most) /\ OwnR w2 u8 (Ze wd x f most)) := lh (by rw [hs.1, hs.2]; exact ⟨OwnRP.plain HOM2.out, HOK2.out⟩)
    clear hs HO2 HOM2 HOK2
    go_wp2
    go_returns
    exact ⟨_, _, rfl, HZ.out.1, HZ.out.2, HB2.out⟩
   have q1 : ((M : Int) == 0) = false := by simp; omega
   have q2 : ¬ (M : Int) = 0 := by omega
   have hC : Qj wd x f (i + 1) = Xr wd (Qj wd x f i) x := if_neg (by rw [HM.out]; exact bU)
   have hK : Ze wd x f (i + 1) = Ze wd x f i ++ [Zk (Qj wd x f (i + 1)) x] := by rw [hC]; exact if_neg (by rw [HM.out]; exact bU)
   have HO3 : Hid (OwnRP (PA u8) w2 (.slice A2 n c2) (Qj wd x f (i + 1))) := lh (by rw [hC]; exact HO2.out)
   have bO := (H.out.next HB2.out).with_ hmx hsm HSX.out (i + 1) (OwnRP.plain HO3.out)
   have HCO := lh (Jdr A2 A' n c2 n' c' wd w2.heap.size m (Qj wd x f (i + 1)) x w2 bO)
   obtain ⟨q, hq⟩ : ∃ q, Zk (Qj wd x f (i + 1)) x = q := ⟨_, rfl⟩
   rw [hq] at HCO hK
   have HK2 := lh hK
   have dL := Jag (wd := wd) (x := x) (f := f) i
   have HLK : Hid ((Ze wd x f i).length <= 1000000) := lh (by omega)
   clear hC hK bO hq HO2 HOM2 HM bU dL
   go_wp2_with fail
   refine HCO.out.mono ?_
   rintro e w3 ⟨V3, rfl, cT, o8⟩
   obtain ⟨g3, A3, l3, c3, A3', l3', c3', rfl⟩ := cT.shape
   have HR3 := lh cT
   have HB3 := lh (HB2.out.trans (o8.mono HB2.out.size))
   have HOK3 := lh (OwnR.next HOK2.out o8)
   have HO4 := lh (OwnS.next (Jcl _) HO3.out o8)
   clear cT o8 HB2 HOK2 HO3 HCO
   go_wp2_with (at_builtin; refine Joo rfl (.tmp 32) (.tmp 36) rfl w3 _ (Ze wd x f i) q g3 A3 l3 c3 A3' l3' c3' rfl HOK3.out HR3.out rfl HLK.out ?_; intro v7 w7 bG aC)
   have bQ := HB3.out.trans (aC.below HB3.out.size HFR.out)
   have cU := aC.fresh HB3.out.size HFR.out
   have eP := OwnRP.grown HO4.out HOK3.out aC
   rw [<- HK2.out] at bG
   exact ⟨⟨i + 1, A2, c2, by omega, by go_num, rfl, eP, bG, cU, bQ⟩, by simp [intOf]; omega⟩
  obtain rfl : i = most := by omega
  have k1 : ¬ (i : Int) < (i : Int) := by omega
  have HZ := lh (And.intro (OwnRP.plain aW) (And.intro bN e8))
  clear aW bN e9 e8
  go_wp2
  go_returns
  exact ⟨_, _, rfl, HZ.out.1, HZ.out.2.1, HZ.out.2.2⟩
theorem Jpj (A : Option Addr) (n1 c1 : Nat) (zl : List Int) (A' : Option Addr) (n2 c2 : Nat) (zc : List Int) (zn zw : Int) (kk : Nat) (w : World) (h1 : ArgZ w A n1 c1 zl) (h2 : ArgZ w A' n2 c2 zc) (hn : I64 zn) (hw : I64 zw) (iL : kk < 5) :
  ∃ nn wd : Nat, nn < 8 /\ 1 <= wd /\ wd <= 3 /\
   Calls Tryz.prog 13 #[.slice A n1 c1, .slice A' n2 c2, .int .i64 zn, .int .i64 (kk : Int), .int .i64 zw, .int .i64 0] w fun e w' => ∃ Ax cx Am cm, e = .returned (.tuple #[.slice Ax nn cx, .slice Am kk cm]) /\ Zs w' (.slice Ax nn cx) (Qp zl wd nn) /\ Zs w' (.slice Am kk cm) (Qp zc wd kk) /\ Below w.heap.size w w' := by
 obtain ⟨k3, iU, cO⟩ := Ue zw 3 w hw.1 hw.2 (by omega) (by omega)
 have gJ : ∀ w, Calls Tryz.prog 14 #[.int .i64 0, .int .i64 6] w fun e w' => e = .returned (.int .i64 0) /\ w = w' := fun w => by
  have := Jcn 0 6 w (by omega) (by omega) (by omega) (by omega)
  exact this
 obtain ⟨nn, eS, gK⟩ := Ue zn 8 w hn.1 hn.2 (by omega) (by omega)
 have gL : ∀ w, Calls Tryz.prog 14 #[.int .i64 (kk : Int), .int .i64 5] w fun e w' => e = .returned (.int .i64 (kk : Int)) /\ w = w' := fun w => by
  have := Jcn (kk : Int) 5 w (by omega) (by omega) (by omega) (by omega)
  rw [show (kk : Int) % ((5 : Nat) : Int) = (kk : Int) by omega] at this
  exact this
 obtain ⟨wd, hwd⟩ : ∃ wd, k3 + 1 = wd := ⟨_, rfl⟩
 refine ⟨nn, wd, eS, by omega, by omega, ?_⟩
 have e2 : (k3 : Int) + 1 = (wd : Int) := by omega
 have e3 : IntKind.i64.wrap (wd : Int) = (wd : Int) := IntWalk.i64_in _ (by omega)
 have aH := Jcm A n1 c1 w.heap.size zl nn wd w ⟨h1.rd.1, h1.rd.2⟩ zd h1.cap h1.most (by omega) (by omega)
 have fE := fun w' (hb : Below w.heap.size w w') => Jcm A' n2 c2 w.heap.size zc kk wd w' ⟨(h2.rd.below hb).1, h2.rd.2⟩ hb.size h2.cap h2.most (by omega) (by omega)
 have l1 := Xp zl wd nn
 have l2 := Xp zc wd kk
 generalize Qp zl wd nn = x at *
 generalize Qp zc wd kk = f at *
 have HP3 := lh cO
 have HP6 := lh gJ
 have HP8 := lh gK
 have HP5 := lh gL
 have HR1 := lh aH
 have HR2 := lh fE
 have HL := lh (And.intro l1 l2)
 clear cO gJ gK gL aH fE l1 l2 h1 h2 hn hw
 go_enter Tryz.func13, Tryz.ntmps13
 go_wp2_with fail
 refine (HP3.out _).mono ?_
 rintro e w1 ⟨rfl, rfl⟩
 go_wp2_with fail
 refine (HP6.out _).mono ?_
 rintro e w1 ⟨rfl, rfl⟩
 go_wp2_with fail
 refine (HP8.out _).mono ?_
 rintro e w1 ⟨rfl, rfl⟩
 go_wp2_with fail
 refine HR1.out.mono ?_
 rintro e w1 ⟨v1, rfl, fF, -, aP⟩
 obtain ⟨A1, d1, aU⟩ := OwnS.form fF
 rw [HL.out.1] at aU
 subst aU
 have HO1 := lh fF
 have HB1 := lh aP
 clear fF aP HR1
 go_wp2_with fail
 refine (HP5.out _).mono ?_
 rintro e w2 ⟨rfl, rfl⟩
 go_wp2_with fail
 refine (HR2.out _ HB1.out).mono ?_
 rintro e w2 ⟨v2, rfl, s9, -, j6⟩
 obtain ⟨A2, d2, aL⟩ := OwnS.form s9
 rw [HL.out.2] at aL
 subst aL
 have HO2 := lh s9
 have HO3 := lh (OwnS.next Tryz.kindRR HO1.out j6)
 have HB2 := lh (Ja HB1.out j6)
 clear s9 j6 HR2 HO1 HB1
 go_wp2
 go_returns
 exact ⟨A1, d1, A2, d2, rfl, HO3.out, HO2.out, HB2.out⟩
theorem Jgf {xl : List (List Rat)} {n wd k : Nat} (hn : xl.length = n) (hn2 : n <= 1000) (hwd : wd <= 1000) (h1 : ∀ l ∈ xl, l.length = wd) (hs : ∀ l ∈ xl, ∀ y ∈ l, QS k y) (hk : k <= 549755813888) (w : World) (A : Option Addr) (c : Nat) (h : Zs w (.slice A n c) xl) (hT : Tab w) :
  Calls Tryz.prog 17 #[.slice A n c] w fun e w' => ∃ A c, e = .returned (.agg #[.slice A n c]) /\ OwnQQ w' (.slice A n c) xl /\ Below w.heap.size w w' := by
 refine (Jjb A n c w.heap.size xl w (OwnS.readS (fun h => OwnR.reads_ h) h) zd hn2 (fun l hl => ⟨by rw [h1 l hl]; omega, fun y hy => (hs l hl y hy).mono hk⟩) hT).mono ?_
 rintro e w' ⟨v, rfl, ho, -, hb⟩
 obtain ⟨A, c, hv⟩ := OwnS.form ho
 rw [hn] at hv
 subst hv
 exact ⟨A, c, rfl, ho, hb⟩
theorem Jgt {xl : List (List Rat)} {n wd k : Nat} (hn : xl.length = n) (hn2 : n <= 1000) (hwd : wd <= 1000) (h1 : ∀ l ∈ xl, l.length = wd) (hs : ∀ l ∈ xl, ∀ y ∈ l, QS k y) (hk : k <= 549755813888) (w : World) (A : Option Addr) (c : Nat) (h : Zs w (.slice A n c) xl) (hT : Tab w) :
  Calls Tryz.prog 16 #[.slice A n c] w fun e w' => ∃ A c, e = .returned (.slice A n c) /\ OwnQQ w' (.slice A n c) xl /\ Below w.heap.size w w' := by
 refine (Jaf A n c w.heap.size xl w (OwnS.readS (fun h => OwnR.reads_ h) h) zd hn2 (fun l hl => ⟨by rw [h1 l hl]; omega, fun y hy => (hs l hl y hy).mono hk⟩) hT).mono ?_
 rintro e w' ⟨v, rfl, ho, -, hb⟩
 obtain ⟨A, c, hv⟩ := OwnS.form ho
 rw [hn] at hv
 subst hv
 exact ⟨A, c, rfl, ho, hb⟩
theorem Jgq (A A' : Option Addr) (n c n' c' B : Nat) (z : Int) (f x : List (List Rat)) (w : World) (h : Xa w B A n f) (h' : Xa w B A' n' x) (hB : B <= w.heap.size) (hn : n <= 1000) (hn' : n' <= 1000) (fO : -1 <= z) (fW : z <= 200) (r : Nat) (hr : (if Xd f ≠ 0 \/ z < 0 then 1 else Qt f x) = r) (bY : r ≠ 0) :
  Calls Tryz.prog 15 #[.slice A' n' c', .agg #[.slice A n c], .int .i64 z] w (Ret (.tuple #[.agg #[.slice none 0 0, .slice none 0 0, .slice none 0 0], .int .i64 (r : Int)]) w) := by
 have HCK := lh (fun w' (hb : Below w.heap.size w w') => Yb A n c B f w' (h.below Xh (hb.mono hB)) (nt hB hb.size) hn)
 have HRF := lh (fun w' (hb : Below w.heap.size w w') => Zb A A' n c n' c' B f x w' (h.below Xh (hb.mono hB)) (h'.below Xh (hb.mono hB)) (nt hB hb.size) hn hn')
 have q9 : ¬ (200 : Int) < z := by omega
 obtain ⟨k, hk⟩ : ∃ k, Xd f = k := ⟨_, rfl⟩
 rw [hk] at HCK hr
 have HR := lh hr
 clear h h' hB hk hr
 obtain ⟨b0, b1, hB, hZ⟩ := bx2 w 30 #[.slice A n c] 33 #[.slice none 0 0, .slice none 0 0, .slice none 0 0]
 go_enter Tryz.func15, Tryz.ntmps15
 have x0 := b0.c1
 have HB0 := lh hB
 clear hB hZ
 by_cases dG : k = 0
 ·subst dG
  by_cases hz : z < 0
  ·have aH := HR.out
   rw [if_pos (.inr hz)] at aH
   subst aH
   go_wp2_with fail
   generalize ((w.alloc (.cells #[.slice A n c] 30)).alloc (.cells #[.slice none 0 0, .slice none 0 0, .slice none 0 0] 33)) = W at *
   refine (HCK.out _ HB0.out).mono ?_
   rintro e w1 ⟨rfl, aP⟩
   have b1 := b1.below aP b1.lt
   have HB1 := lh (HB0.out.trans (aP.mono HB0.out.size))
   clear x0 aP HB0 HCK HRF
   obtain ⟨s0, s1, s2, s3, s4, s5, s6, s7, s8⟩ := b1.f3
   go_wp2
   refine bodyPost_ret (v := .tuple #[.agg #[.slice none 0 0, .slice none 0 0, .slice none 0 0], .int .i64 1]) (by simp [results, Tryz.results15, go_sem, s6, s7, s8]) rfl ?_
   exact ⟨rfl, Jeg HB1.out (show w.heap.size <= w.heap.size + 1 by omega) _ _ _⟩
  have aH := HR.out
  rw [if_neg (by rintro (h | h); exact h rfl; exact hz h)] at aH
  rw [aH] at HRF
  have q1 : ((r : Int) != 0) = true := by simp; omega
  have q2 : ¬ (r : Int) = 0 := by omega
  have q3 : ((r : Int) == 0) = false := by simp; omega
  clear aH
  go_wp2_with fail
  generalize ((w.alloc (.cells #[.slice A n c] 30)).alloc (.cells #[.slice none 0 0, .slice none 0 0, .slice none 0 0] 33)) = W at *
  refine (HCK.out _ HB0.out).mono ?_
  rintro e w1 ⟨rfl, aP⟩
  have b0 := b0.below aP b0.lt
  have b1 := b1.below aP b1.lt
  have HB1 := lh (HB0.out.trans (aP.mono HB0.out.size))
  clear x0 aP HB0 HCK
  have x0 := b0.c1
  go_wp2_with fail
  refine (HRF.out _ HB1.out).mono ?_
  rintro e w2 ⟨rfl, j6⟩
  have b1 := b1.below j6 b1.lt
  have HB2 := lh (HB1.out.trans (j6.mono HB1.out.size))
  clear x0 j6 HB1 HRF
  obtain ⟨s0, s1, s2, s3, s4, s5, s6, s7, s8⟩ := b1.f3
  go_wp2
  refine bodyPost_ret (v := .tuple #[.agg #[.slice none 0 0, .slice none 0 0, .slice none 0 0], .int .i64 (r : Int)]) (by simp [results, Tryz.results15, go_sem, s6, s7, s8]) rfl ?_
  exact ⟨rfl, Jeg HB2.out (show w.heap.size <= w.heap.size + 1 by omega) _ _ _⟩
 have aH := HR.out
 rw [if_pos (.inl dG)] at aH
 subst aH
 have q1 : ((k : Int) != 0) = true := by simp; omega
 have q2 : ¬ (k : Int) = 0 := by omega
 have q3 : ((k : Int) == 0) = false := by simp; omega
 go_wp2_with fail
 generalize ((w.alloc (.cells #[.slice A n c] 30)).alloc (.cells #[.slice none 0 0, .slice none 0 0, .slice none 0 0] 33)) = W at *
 refine (HCK.out _ HB0.out).mono ?_
 rintro e w1 ⟨rfl, aP⟩
 have b1 := b1.below aP b1.lt
 have HB1 := lh (HB0.out.trans (aP.mono HB0.out.size))
 clear x0 aP HB0 HCK HRF
 obtain ⟨s0, s1, s2, s3, s4, s5, s6, s7, s8⟩ := b1.f3
 go_wp2
 refine bodyPost_ret (v := .tuple #[.agg #[.slice none 0 0, .slice none 0 0, .slice none 0 0], .int .i64 1]) (by simp [results, Tryz.results15, go_sem, s6, s7, s8]) rfl ?_
 exact ⟨rfl, Jeg HB1.out (show w.heap.size <= w.heap.size + 1 by omega) _ _ _⟩
theorem Jea {wd : Nat} {x f : List (List Rat)} {y : Rat} : ∀ i, y ∈ Ze wd x f i -> ∃ j, y = Zk (Qj wd x f j) x
 | 0, h => ⟨0, List.mem_singleton.1 h⟩
 | i + 1, h => by
  unfold Ze at h
  split at h
  ·exact Jea i h
  rename_i hm
  rcases List.mem_append.1 h with h | h
  ·exact Jea i h
  refine ⟨i + 1, ?_⟩
  rw [List.mem_singleton.1 h]
  show Zk _ x = Zk (if _ then _ else _) x
  rw [if_neg hm]
theorem Je3 (A : Option Addr) (n1 c1 : Nat) (zl : List Int) (A' : Option Addr) (n2 c2 : Nat) (zc : List Int) (zn zk zw zo zm : Int) (w : World) (h1 : ArgZ w A n1 c1 zl) (h2 : ArgZ w A' n2 c2 zc) (hn : I64 zn) (hk : I64 zk) (hw : I64 zw) (ho : I64 zo) (fH : I64 zm) (hT : Tab w) :
  Calls Tryz.prog 3 #[.slice A n1 c1, .slice A' n2 c2, .int .i64 zn, .int .i64 zk, .int .i64 zw, .int .i64 zo, .int .i64 zm] w (Ret (.bool true) w) := by
 obtain ⟨k12, iM, fI⟩ := Ue zm 12 w fH.1 fH.2 (by omega) (by omega)
 have HP12 := lh fI
 obtain ⟨z, hz⟩ : ∃ z : Int, (k12 : Int) - 1 = z := ⟨_, rfl⟩
 have fW : -1 <= z /\ z <= 10 := by omega
 have ez : IntKind.i64.wrap z = z := IntWalk.i64_in _ (by omega)
 obtain ⟨nn, kk, wd, v, eS, iL, hwd1, iN, hv, gM⟩ := Jck A n1 c1 zl A' n2 c2 zc zn zk zw zo w h1 h2 hn hk hw ho
 have hx : ∀ l ∈ Qp zl wd nn, l.length = wd /\ ∀ y ∈ l, QS 5 y := fun l hl => by
  obtain ⟨zs', rfl⟩ := Zz hl
  exact ⟨Zf zs' wd, Zm zs' wd⟩
 have hf : ∀ l ∈ Qp zc v kk, l.length = v /\ ∀ y ∈ l, QS 5 y := fun l hl => by
  obtain ⟨zs', rfl⟩ := Zz hl
  exact ⟨Zf zs' v, Zm zs' v⟩
 have fR := Xp zl wd nn
 have fS := Xp zc v kk
 generalize Qp zl wd nn = x at *
 generalize Qp zc v kk = f at *
 have gN := Vz fR fS (fun l hl => (hx l hl).1) (fun l hl => (hf l hl).1) hwd1 (by omega) (by omega) (by omega) (by omega) (by omega)
 have HX := lh hx
 have HF := lh hf
 have HL := lh (And.intro fR fS)
 have HRF := lh gN
 have HDR := lh gM
 have HT := lh hT
 have HOF := lh (Jgf (wd := v) (k := 5) fS (by omega) (by omega) (fun l hl => (hf l hl).1) (fun l hl => (hf l hl).2) (by omega))
 have HIN := lh (Jgt (wd := wd) (k := 5) fR (by omega) (by omega) (fun l hl => (hx l hl).1) (fun l hl => (hx l hl).2) (by omega))
 clear hx hf fR fS gN gM hT h1 h2 hn hk hw ho fH fI
 go_enter Tryz.func3, Tryz.ntmps3
 go_wp2_with fail
 refine HDR.out.mono ?_
 rintro e w1 ⟨Ax, cx, Am, cm, rfl, fF, s9, aP⟩
 have HO1 := lh fF
 have HO2 := lh s9
 have HB1 := lh aP
 clear fF s9 aP HDR
 go_wp2_with fail
 refine (HP12.out _).mono ?_
 rintro e w2 ⟨rfl, rfl⟩
 go_wp2_with fail
 refine (HIN.out _ _ _ HO1.out (HT.out.next HB1.out)).mono ?_
 rintro e w2 ⟨A4, c4, rfl, gO, j6⟩
 have HO4a := lh gO
 have HX2 := lh (OwnS.next Tryz.kindRR HO1.out j6)
 have HF2 := lh (OwnS.next Tryz.kindRR HO2.out j6)
 have HB2 := lh (Ja HB1.out j6)
 clear gO j6 HB1 HO1 HO2
 go_wp2_with fail
 refine (HOF.out _ _ _ HF2.out (HT.out.next HB2.out)).mono ?_
 rintro e w3 ⟨A3, c3, rfl, aF, o8⟩
 have HO3 := lh aF
 have HO4 := lh (OwnS.next Tryz.kindQQ HO4a.out o8)
 have HX3 := lh (OwnS.next Tryz.kindRR HX2.out o8)
 have HF3 := lh (OwnS.next Tryz.kindRR HF2.out o8)
 have HB3 := lh (Ja HB2.out o8)
 clear aF o8 HB2 HX2 HF2 HO4a hz
 have HWR := lh (fun w' (hb : Below w3.heap.size w3 w') => Jcj Ax Am nn cx kk cm w3.heap.size wd v x f w' ((OwnS.readS (fun h => OwnR.reads_ h) HX3.out).below Xf hb) ((OwnS.readS (fun h => OwnR.reads_ h) HF3.out).below Xf hb) hb.size (by omega) (by omega) hwd1 (by omega) (by omega) (by omega) (fun l hl => (HX.out l hl).1) (fun l hl => (HF.out l hl).1))
 have HKN := lh (fun w' (hb : Below w3.heap.size w3 w') => Ug w' (HT.out.next (Ja HB3.out hb)))
 have HCM := lh (fun w' (hb : Below w3.heap.size w3 w') => Yz Am kk cm w3.heap.size v f w' ((OwnS.readS (fun h => OwnR.reads_ h) HF3.out).below Xf hb) hb.size (by omega) (by omega) (by omega) (fun l hl => (HF.out l hl).1))
 obtain ⟨u, hu, gP, gQ⟩ : ∃ u : Nat, (u = 0 \/ u = 5) /\ Xd f = u /\ (if 1 <= kk /\ kk <= 12 then (0 : Int) else 5) = (u : Int) := by
  have h := Vo HL.out.2 (fun l hl => (HF.out l hl).1) (by omega) (by omega) (show kk <= 12 by omega)
  by_cases fD : 1 <= kk
  ·exact ⟨0, .inl rfl, by rw [h, if_pos fD], by rw [if_pos ⟨fD, by omega⟩]; rfl⟩
  exact ⟨5, .inr rfl, by rw [h, if_neg fD], by rw [if_neg (by omega)]; rfl⟩
 rw [gQ] at HCM
 have HU1 := lh gP
 clear gP gQ
 obtain ⟨r, hr⟩ : ∃ r, Ko nn kk wd v = r := ⟨_, rfl⟩
 rw [hr] at HRF HWR
 have HR := lh hr
 clear hr
 obtain ⟨s, hs⟩ : ∃ s, (if Xd f ≠ 0 \/ z < 0 then 1 else r) = s := ⟨_, rfl⟩
 by_cases iO : s = 0
 ·have gA : u = 0 /\ 0 <= z /\ r = 0 := by
   rw [HU1.out] at hs
   split at hs
   ·omega
   rename_i h
   refine ⟨?_, ?_, by omega⟩
   ·by_cases h0 : u = 0
    ·exact h0
    exact absurd (.inl h0) h
   by_cases h0 : z < 0
   ·exact absurd (.inr h0) h
   omega
  obtain ⟨rfl, fO, rfl⟩ := gA
  clear hu hs
  have gS := HU1.out
  have fJ : 1 <= kk /\ 1 <= nn /\ wd = v := by
   have h := HR.out
   unfold Ko at h
   split at h
   ·cases h
   rename_i h1
   split at h
   ·cases h
   rename_i h2
   omega
  obtain ⟨fD, bP, rfl⟩ := fJ
  obtain ⟨mo, fH⟩ := Int.eq_ofNat_of_zero_le fO
  subst fH
  have iP : mo <= 10 := by omega
  have gT : MF w3 w3.heap.size A3 A4 kk nn wd 200 5 f x := ⟨⟨OwnS.readS (fun h => OwnQ.reads_ h) HO3.out, OwnS.readS (fun h => OwnQ.reads_ h) HO4.out, Nat.le_refl _, fD, by omega, by omega, by omega, fun l hl => (HF.out l hl).1, fun l hl => (HX.out l hl).1, by omega, by omega, fun l hl y hy => ((HF.out l hl).2 y hy).mono (by omega), fun l hl y hy => ((HX.out l hl).2 y hy).mono (by omega), HT.out.next HB3.out⟩, by omega, by have := Nat.mul_le_mul (show nn <= 8 by omega) (show 5 + 1 <= 6 by omega); omega, fun l hl => (HX.out l hl).2, hwd1⟩
  have t7 : MD w3 w3.heap.size Am Ax kk nn wd 200 f x := ⟨OwnS.readS (fun h => OwnR.reads_ h) HF3.out, OwnS.readS (fun h => OwnR.reads_ h) HX3.out, Nat.le_refl _, fD, by omega, by omega, by omega, fun l hl => (HF.out l hl).1, fun l hl => (HX.out l hl).1, by omega, by omega, fun l hl y hy => ((HF.out l hl).2 y hy).mono (by omega), fun l hl y hy => ((HX.out l hl).2 y hy).mono (by omega)⟩
  have hsm : nn * (5 + 1) + 65 <= 200 := by have := Nat.mul_le_mul (show nn <= 8 by omega) (show 5 + 1 <= 6 by omega); omega
  have fK := Jfj A3 A4 kk c3 nn c4 wd w3.heap.size 200 5 mo f x w3 gT (by omega) gS HRF.out
  have gB : ∀ i, ∀ l ∈ Qj wd x f i, ∀ y ∈ l, QS 200 y := Jb2 (mx := 5) (by omega) (by have := HL.out.1; omega) (by rw [HL.out.1]; exact hsm) (fun l hl => (HX.out l hl).2) (fun l hl y hy => ((HF.out l hl).2 y hy).mono (by omega))
  have gC : ∀ i, ∀ l ∈ Qj wd x f i, l.length = wd := Jb0 (fun l hl => (HF.out l hl).1)
  have gD : ∀ i, (Qj wd x f i).length = kk := fun i => by rw [Jb1]; exact HL.out.2
  have bR : ∀ y ∈ Ze wd x f mo, QS 1099511627776 y := fun y hy => by
   obtain ⟨j, rfl⟩ := Jea mo hy
   refine (Uz (m := 200) (wd := wd) (by omega) (gB j) (fun l hl y hy => ((HX.out l hl).2 y hy).mono (by omega)) (gC j) (by rw [gD]; exact fD) x.length zd).mono ?_
   have h1 := HL.out.1
   have := Nat.mul_le_mul (show x.length <= 8 by omega) (show wd * (4 * 200 + 3) + 2 <= 2411 by omega)
   omega
  have gU := fun w' (hb : Below w3.heap.size w3 w') => Jne Am Ax kk cm nn cx wd w3.heap.size 200 5 mo f x w' (t7.next hb) (OwnS.next Tryz.kindRR HF3.out hb) bP (by omega) hsm (fun l hl => (HX.out l hl).2) (by omega)
  have cL : (Jl (Qj wd x f mo) x).length = nn := by unfold Jl; rw [List.length_map]; exact HL.out.1
  have gV := fun w' (A : Option Addr) (c : Nat) (hb : Below w3.heap.size w3 w') (h : Zs w' (.slice A kk c) (Qj wd x f mo)) => Jbe A Ax kk c nn cx wd w'.heap.size 200 (Qj wd x f mo) x w' ((t7.next hb).with_ (mx := 5) (by omega) hsm (fun l hl => (HX.out l hl).2) mo h)
  have iQ := Jag (wd := wd) (x := x) (f := f) mo
  obtain ⟨nk, fJ⟩ : ∃ nk, (Ze wd x f mo).length = nk := ⟨_, rfl⟩
  rw [fJ] at iQ
  have gW := gB mo
  have gY := gC mo
  have gZ := gD mo
  generalize Qj wd x f mo = F at *
  generalize Ze wd x f mo = K at *
  have hJ := fun (w' : World) (A A' : Option Addr) (c c' : Nat) (h : OwnQQ w' (.slice A kk c) F) (h' : Zs w' (.slice A' kk c') F) => Jfb A A' kk c c' w'.heap.size w'.heap.size F w' (OwnS.readS (fun h => OwnQ.reads_ h) h) (OwnS.readS (fun h => OwnR.reads_ h) h') zd zd (by omega) (fun l hl => ⟨by rw [gY l hl]; omega, fun y hy => (gW l hl y hy).mono (by omega)⟩)
  have iA := fun (w' : World) (A A' : Option Addr) (c c' : Nat) (h : OwnQ w' (.slice A nk c) K) (h' : OwnR w' (.slice A' nk c') K) => Jhk A A' nk c c' w'.heap.size w'.heap.size K w' (OwnQ.reads_ h) (OwnR.reads_ h') zd zd (by omega) bR
  have HSR := lh hJ
  have HSK := lh iA
  have HSL := lh gZ
  have HNK := lh fJ
  have HGL := lh cL
  have HRG := lh gV
  have HRS := lh gU
  have HMS := lh fK
  have q0 : ¬ (mo : Int) < 0 := by omega
  clear gT t7 fK gB gC gD bR gU cL gV fJ gW gY gZ hJ iA gS hsm
  go_wp2_with fail
  refine HMS.out.mono ?_
  rintro e w4 ⟨gd, gg, kv, rfl, fN, aW, bN, gE, aR⟩
  obtain ⟨Ak, ck, bM⟩ := OwnQ.formNm bN HNK.out
  subst bM
  have fL := Jb w4 (.cells #[.slice (some ⟨gd, 0, none⟩) kk kk, .slice (some ⟨gg, 0, none⟩) nn nn, .slice Ak nk ck] 33)
  have HO6 : Hid (OwnQQ _ (.slice (some ⟨gd, 0, none⟩) kk kk) F) := lh (OwnS.next Tryz.kindQQ aW.plain fL)
  have HG6 := lh (gE.below fL gE.lt)
  have HK6 := lh (OwnW.next bN fL)
  have HX6 := lh (Blk.new w4 33 #[.slice (some ⟨gd, 0, none⟩) kk kk, .slice (some ⟨gg, 0, none⟩) nn nn, .slice Ak nk ck])
  have HB6 := lh (Ja aR fL)
  clear aW bN gE aR fL HMS HO3 HO4
  go_wp2_with fail
  refine (HWR.out _ HB6.out).mono ?_
  rintro e w8 ⟨rfl, fB⟩
  have HO8 := lh (OwnS.next Tryz.kindQQ HO6.out fB)
  have HG8 := lh (HG6.out.below fB HG6.out.lt)
  have HK8 := lh (OwnW.next HK6.out fB)
  have HX8 := lh (HX6.out.below fB HX6.out.lt)
  have HB8 := lh (Ja HB6.out fB)
  clear fB HB6 HO6 HG6 HK6 HX6
  go_wp2_with fail
  refine (HCM.out _ HB8.out).mono ?_
  rintro e w9 ⟨rfl, fC⟩
  have HO9 := lh (OwnS.next Tryz.kindQQ HO8.out fC)
  have HG9 := lh (HG8.out.below fC HG8.out.lt)
  have HK9 := lh (OwnW.next HK8.out fC)
  have HX9 := lh (HX8.out.below fC HX8.out.lt)
  have HB9 := lh (Ja HB8.out fC)
  clear fC HB8 HO8 HG8 HK8 HX8
  go_wp2_with fail
  refine (HRS.out _ HB9.out).mono ?_
  rintro e w10 ⟨v10, k10, rfl, gF, bN, eZ⟩
  obtain ⟨A9, c9, iB⟩ := OwnS.form gF
  obtain ⟨A9', c9', fM, -, -⟩ := OwnR.form bN
  rw [HSL.out] at iB
  rw [HNK.out] at fM
  subst iB fM
  have HV10 := lh gF
  have HW10 := lh bN
  have HO10 := lh (OwnS.next Tryz.kindQQ HO9.out eZ)
  have HG10 := lh (HG9.out.below eZ HG9.out.lt)
  have HK10 := lh (OwnW.next HK9.out eZ)
  have b0 := HX9.out.below eZ HX9.out.lt
  have HB10 := lh (Ja HB9.out eZ)
  clear eZ gF bN HB9 HO9 HG9 HK9 HX9
  have HKN2 := lh (fun w' (hb : Below w10.heap.size w10 w') => HKN.out w' (Ja HB10.out hb))
  have HSR2 := lh (fun w' (hb : Below w10.heap.size w10 w') => HSR.out w' _ _ _ _ (OwnS.next Tryz.kindQQ HO10.out hb) (OwnS.next Tryz.kindRR HV10.out hb))
  have HSK2 := lh (fun w' (hb : Below w10.heap.size w10 w') => HSK.out w' _ _ _ _ (OwnW.next HK10.out hb) (OwnR.next HW10.out hb))
  have HRG2 := lh (fun w' (hb : Below w10.heap.size w10 w') => (HRG.out w' _ _ (Ja HB10.out hb) (OwnS.next Tryz.kindRR HV10.out hb)).mono (by
   rintro e w'' ⟨v, rfl, ho, iR⟩
   obtain ⟨A, c, hv, -, -⟩ := ho.form
   rw [HGL.out] at hv
   refine ⟨v, rfl, ⟨A, c, hv⟩, ho, iR⟩ : ∀ e w'', _ -> ∃ v, e = Ending.returned v /\ (∃ A c, v = Value.slice A nn c) /\ Own w'' 3 iv v (Jl F x) /\ Below w'.heap.size w' w''))
  have HSI := lh (fun w' (hb : Below w10.heap.size w10 w') (A : Option Addr) (c : Nat) (h : Own w' 3 iv (.slice A nn c) (Jl F x)) => (Jfc (some ⟨gg, 0, none⟩) A nn nn c (Jl F x) w'.heap.size w'.heap.size w' (by have := (HG10.out.below hb HG10.out.lt).reads; rw [HGL.out] at this; exact this) (by have := h.reads; rw [HGL.out] at this; exact this) (by omega)).mono (by
   rintro e w'' ⟨rfl, k, rfl⟩
   exact ⟨rfl, Jy (Below.refl _ _) k⟩ : ∀ e w'', _ -> e = Ending.returned (Value.bool true) /\ Below w'.heap.size w' w''))
  obtain ⟨gr, bJ⟩ : ∃ gr, w4.heap.size = gr := ⟨_, rfl⟩
  rw [bJ] at b0
  rw [bJ]
  clear bJ HRG HRS HSR HSK HO10 HG10 HK10 HV10 HW10 HX3 HF3 HOF HIN HWR HCM HKN
  go_upto_region 10 with fail
  obtain ⟨fX, fY, fZ⟩ := b0.c3; have c0 := b0.drew; have fA := c0.lt; have hc := Ji w10; go_region_held3 (fun w' => w'.cell? ⟨gr, 0, none⟩ = some (.slice (some ⟨gd, 0, none⟩) kk kk) /\ w'.cell? ⟨gr, 1, none⟩ = some (.slice (some ⟨gg, 0, none⟩) nn nn) /\ w'.cell? ⟨gr, 2, none⟩ = some (.slice Ak nk ck)) (go_keep) (first | (go_at_call 20; (with_reducible refine (HKN2.out _ hc).mono ?_); rintro e w1 ⟨rfl, j0⟩; (try clear eW eX eY); obtain ⟨c0, eW, eX, eY⟩ := c0.zc3 j0; (try clear fA); have fA := c0.lt; have hc := Ja hc j0) | (go_at_call 22; (with_reducible refine (HSR2.out _ hc).mono ?_); rintro e w2 ⟨rfl, bS⟩; (try clear eW eX eY); obtain ⟨c0, eW, eX, eY⟩ := c0.zc3 bS; (try clear fA); have fA := c0.lt; have hc := Ja hc bS) | (go_at_call 23; (with_reducible refine (HSK2.out _ hc).mono ?_); rintro e w3 ⟨rfl, iC⟩; (try clear eW eX eY); obtain ⟨c0, eW, eX, eY⟩ := c0.zc3 iC; (try clear fA); have fA := c0.lt; have hc := Ja hc iC) | (go_at_call 25; (with_reducible refine (HRG2.out _ hc).mono ?_); rintro e w4 ⟨v4, rfl, ⟨A4, c4c, iS⟩, iT, iD⟩; subst iS; (try clear eW eX eY); obtain ⟨c0, eW, eX, eY⟩ := c0.zc3 iD; (try clear fA); have fA := c0.lt; have hc := Ja hc iD) | (go_at_call 24; (with_reducible refine (HSI.out _ hc _ _ iT).mono ?_); rintro e w5 ⟨rfl, iE⟩; (try clear eW eX eY); obtain ⟨c0, eW, eX, eY⟩ := c0.zc3 iE; (try clear fA); have fA := c0.lt; have hc := Ja hc iE))
  all_goals
   go_wp2
   go_ret
   exact ⟨rfl, Ja (Ja HB3.out HB10.out) hc⟩
 have fK := Jgq A3 A4 kk c3 nn c4 w3.heap.size z f x w3 (OwnS.readS (fun h => OwnQ.reads_ h) HO3.out) (OwnS.readS (fun h => OwnQ.reads_ h) HO4.out) zd (by omega) (by omega) (by omega) (by omega) s (by rw [HRF.out]; exact hs) iO
 have HMS := lh fK
 have q1 : ((s : Int) != 0) = true := by simp; omega
 have q2 : ¬ (s : Int) = 0 := by omega
 have q3 : ((s : Int) == 0) = false := by simp; omega
 have q4 : ((s : Int) == (s : Int)) = true := by simp
 have HS := lh hs
 clear fK hs
 go_wp2_with fail
 refine HMS.out.mono ?_
 rintro e w4 ⟨rfl, aR⟩
 have HX6 := lh (Blk.new w4 33 #[.slice none 0 0, .slice none 0 0, .slice none 0 0])
 have HB6 := lh (Ja aR (Jb w4 (.cells #[.slice none 0 0, .slice none 0 0, .slice none 0 0] 33)))
 clear aR HMS HO3 HO4
 go_wp2_with fail
 refine (HWR.out _ HB6.out).mono ?_
 rintro e w8 ⟨rfl, fB⟩
 have HX8 := lh (HX6.out.below fB HX6.out.lt)
 have HB8 := lh (Ja HB6.out fB)
 clear fB HB6 HX6
 go_wp2_with fail
 refine (HCM.out _ HB8.out).mono ?_
 rintro e w9 ⟨rfl, fC⟩
 have b0 := HX8.out.below fC HX8.out.lt
 have HB9 := lh (Ja HB8.out fC)
 clear fC HB8 HX8
 have HKN2 := lh (fun w' (hb : Below w9.heap.size w9 w') => HKN.out w' (Ja HB9.out hb))
 have fT : s = if u ≠ 0 \/ z < 0 then 1 else r := by rw [<- HS.out, HU1.out]
 have dX : (u = 0 /\ z < 0 /\ s = 1) \/ (u = 0 /\ ¬ z < 0 /\ s = r) \/ (u = 5 /\ s = 1) := by
  rcases hu with rfl | rfl
  ·by_cases hz : z < 0
   ·exact .inl ⟨rfl, hz, fT.trans (if_pos (.inr hz))⟩
   exact .inr (.inl ⟨rfl, hz, fT.trans (if_neg (by rintro (h | h); exact h rfl; exact hz h))⟩)
  exact .inr (.inr ⟨rfl, fT.trans (if_pos (.inl (by omega)))⟩)
 clear fT hu
 rcases dX with ⟨rfl, hz, rfl⟩ | ⟨rfl, hz, rfl⟩ | ⟨rfl, rfl⟩
 all_goals
  go_wp2_with fail
  refine (HKN2.out _ (Below.refl _ _)).mono ?_
  rintro e w10 ⟨rfl, eZ⟩
  have b0 := b0.below eZ b0.lt
  have HB10 := lh (Ja HB9.out eZ)
  obtain ⟨x0, x1, x2⟩ := b0.c3
  clear eZ b0
  go_wp2
  go_ret
  exact ⟨rfl, Ja HB3.out HB10.out⟩
