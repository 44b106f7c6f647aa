import Derived.Test.YtacbcaebaomglaaGreatDoorFarsD
namespace Go.Proofs.YtacbcaebaomglaaGreatDoor
set_option maxRecDepth 100000
set_option maxHeartbeats 4000000
open Go.RowKit
set_option linter.all false
def Ui (l : List (List Rat)) : Bool := l.all fun r => decide (r.length = (l.getD 0 []).length) && decide (1 <= r.length) && decide (r.length <= 20)
theorem Jk8 {l : List (List Rat)} {k : Nat} {r : List Rat} (hr : l[k]? = some r) (h : r.length ≠ (l.getD 0 []).length \/ r.length < 1 \/ 20 < r.length) : Ui l = false := by
 unfold Ui
 rw [List.all_eq_false]
 refine ⟨r, List.mem_of_getElem? hr, ?_⟩
 simp
 rcases h with h | h | h
 ·intro e; exact absurd e h
 ·intro _ h2; omega
 intro _ _; exact h
theorem Jig {l : List (List Rat)} (h : ∀ (k : Nat) (r : List Rat), l[k]? = some r -> r.length = (l.getD 0 []).length /\ 1 <= r.length /\ r.length <= 20) : Ui l = true := by
 unfold Ui
 rw [List.all_eq_true]
 intro r hr
 obtain ⟨k, hk, e⟩ := List.mem_iff_getElem.1 hr
 have := h k r (by rw [List.getElem?_eq_getElem hk, e])
 rw [decide_eq_true this.1, decide_eq_true this.2.1, decide_eq_true this.2.2]
 rfl
def Xd (m : List (List Rat)) : Nat := if m.length < 1 \/ 12 < m.length \/ Ui m = false then 5 else 0
theorem Jcr {m : List (List Rat)} (h : Xd m = 0) : 1 <= m.length /\ m.length <= 12 /\ Ui m = true := by
 unfold Xd at h
 split at h
 ·cases h
 rename_i h2
 refine ⟨by omega, by omega, ?_⟩
 cases h3 : Ui m with
 | true => rfl
 | false => exact absurd (.inr (.inr h3)) h2
def Qt (m x : List (List Rat)) : Nat := if Xd m ≠ 0 then 1 else if x.length < 1 \/ 300 < x.length \/ Ui x = false \/ (x.getD 0 []).length ≠ (m.getD 0 []).length then 5 else 0
def Zi (m : List (List Rat)) (x : List Rat) : Nat -> Nat
 | 0 => 0
 | i + 1 => if Xk (m.getD i []) x < Xk (m.getD (Zi m x i) []) x then i else Zi m x i
def Qk (m : List (List Rat)) (x : List Rat) : Nat := Zi m x m.length
def Xs (m : List (List Rat)) (x : List Rat) : Rat := Xk (m.getD (Qk m x) []) x
theorem Jfg (m : List (List Rat)) (x : List Rat) : ∀ i, 1 <= i -> Zi m x i < i
 | 0, h => by omega
 | i + 1, _ => by
  unfold Zi
  split
  ·omega
  rcases Nat.eq_zero_or_pos i with h | h
  ·subst h; unfold Zi; omega
  have := Jfg m x i h; omega
theorem Jfh (m : List (List Rat)) (x : List Rat) {i n : Nat} (h : i <= n) (hn : 1 <= n) : Zi m x i < n := by
 rcases Nat.eq_zero_or_pos i with h0 | h0
 ·subst h0; exact hn
 have := Jfg m x i h0; omega
def Jl (m x : List (List Rat)) : List Nat := x.map (Qk m)
def Kw (m x : List (List Rat)) : Nat -> Rat
 | 0 => 0
 | i + 1 => Kw m x i + Xs m (x.getD i [])
def Zk (m x : List (List Rat)) : Rat := Kw m x x.length
theorem Jfk (A : Option Addr) (n c B : Nat) (f : List (List Rat)) (w : World) (h : Xa w B A n f) (hB : B <= w.heap.size) (hn : n <= 1000) :
  Calls Tryz.prog 93 #[.slice A n c] w (Ret (.bool (Ui f)) w) := by
 have o8 := h.len
 have H := lh h
 clear h
 go_enter Tryz.func93, Tryz.ntmps93
 go_wp2_with fail
 go_loopw [7] (fun i wr => ∃ k : Nat, k <= n /\ i = .int .i64 (k : Int) /\ wr = w /\ Hid (∀ (j : Nat) (l : List Rat), j < k -> f[j]? = some l -> l.length = (f.getD 0 []).length /\ 1 <= l.length /\ l.length <= 20)) (fun i _ => n - (intOf i).toNat)
 case atStart => exact ⟨0, by omega, rfl, rfl, lh (fun j l hj => absurd hj (by omega))⟩
 case round =>
  obtain ⟨k, hk, rfl, rfl, o9⟩ := hrel
  rename World => w
  by_cases aJ : k < n
  ·have k3 : (k : Int) < (n : Int) := by omega
   have k0 : (0 : Int) < (n : Int) := by omega
   obtain ⟨l, hl⟩ : ∃ l, f[k]? = some l := ⟨_, List.getElem?_eq_getElem (by omega)⟩
   obtain ⟨l0, o6⟩ : ∃ l, f[0]? = some l := ⟨_, List.getElem?_eq_getElem (by omega)⟩
   obtain ⟨ad, A1, m1, c1, rfl, o7, o0, j6⟩ := H.out.at_ hl
   obtain ⟨ad2, A2, m2, c2, bR, p7, aF, aG⟩ := H.out.at_ o6
   obtain rfl := Option.some.inj bR
   rw [Addr.add_zero'] at aF
   have j9 : l.length = m1 := j6.len
   have hm2 : l0.length = m2 := aG.len
   have hd : f.getD 0 [] = l0 := by rw [List.getD_eq_getElem?_getD, o6]; rfl
   by_cases hg : m1 = m2 /\ 1 <= m1 /\ m1 <= 20
   ·obtain ⟨rfl, aU, fK⟩ := hg
    have q1 : ((m1 : Int) != (m1 : Int)) = false := by simp
    have q2 : ¬ (m1 : Int) < 1 := by omega
    have q3 : ¬ (20 : Int) < (m1 : Int) := by omega
    have aV : Hid (∀ (j : Nat) (l : List Rat), j < k + 1 -> f[j]? = some l -> l.length = (f.getD 0 []).length /\ 1 <= l.length /\ l.length <= 20) := lh fun j l' hj cS => by
     by_cases dR : j = k
     ·subst dR
      obtain rfl := Option.some.inj (hl.symm.trans cS)
      rw [hd]
      omega
     exact o9.out j l' (by omega) cS
    clear o9 j6 aG hl o6 j9 hm2 o7 p7 hd
    go_wp2
    exact ⟨⟨k + 1, by omega, by go_num, by first | rfl | trivial, aV⟩, by simp [intOf]; omega⟩
   have HE := lh (Jk8 hl (by rw [hd]; omega))
   by_cases h1 : m1 = m2
   ·subst h1
    have q1 : ((m1 : Int) != (m1 : Int)) = false := by simp
    by_cases h2 : m1 < 1
    ·have q2 : (m1 : Int) < 1 := by omega
     clear o9 j6 aG hl o6 j9 hm2 o7 p7 hd hg
     go_wp2
     go_ret
     exact ⟨by rw [HE.out]; rfl, Below.refl _ _⟩
    have q2 : ¬ (m1 : Int) < 1 := by omega
    have q3 : (20 : Int) < (m1 : Int) := by omega
    clear o9 j6 aG hl o6 j9 hm2 o7 p7 hd hg
    go_wp2
    go_ret
    exact ⟨by rw [HE.out]; rfl, Below.refl _ _⟩
   have q1 : ¬ (m1 : Int) = (m2 : Int) := by omega
   have q2 : ((m1 : Int) == (m2 : Int)) = false := by simp; omega
   have q3 : ((m1 : Int) != (m2 : Int)) = true := by simp; omega
   clear o9 j6 aG hl o6 j9 hm2 o7 p7 hd hg
   go_wp2
   go_ret
   exact ⟨by rw [HE.out]; rfl, Below.refl _ _⟩
  obtain rfl : k = n := by omega
  have k3 : ¬ (k : Int) < (k : Int) := by omega
  have HR : Hid (Ui f = true) := lh (Jig fun j l hl => o9.out j l (by have := (List.getElem?_eq_some_iff.1 hl).1; omega) hl)
  clear o9
  go_wp2
  go_ret
  exact ⟨by rw [HR.out]; rfl, Below.refl _ _⟩
theorem Yb (A : Option Addr) (n c B : Nat) (f : List (List Rat)) (w : World) (h : Xa w B A n f) (hB : B <= w.heap.size) (hn : n <= 1000) :
  Calls Tryz.prog 45 #[.agg #[.slice A n c]] w (Ret (.int .i64 (Xd f : Int)) w) := by
 have o8 := h.len
 have HE := fun w' (hb : Below w.heap.size w w') => Jfk A n c B f w' (h.below Xh (hb.mono hB)) (nt hB hb.size) hn
 have H := lh h
 clear h
 obtain ⟨b0, hB, hZ⟩ := bx1 w 30 #[.slice A n c]
 go_enter Tryz.func45, Tryz.ntmps45
 have HEV := lh (HE _ hB)
 have HBW := lh hB
 clear HE
 have x0 := b0.c1
 by_cases h1 : n < 1
 ·have k1 : (n : Int) < 1 := by omega
  rw [show Xd f = 5 from if_pos (.inl (by omega))]
  go_wp2_with fail
  generalize (w.alloc (.cells #[.slice A n c] 30)) = W at *
  go_wp2
  go_ret
  exact ⟨rfl, HBW.out⟩
 have k1 : ¬ (n : Int) < 1 := by omega
 by_cases h2 : 12 < n
 ·have k2 : (12 : Int) < (n : Int) := by omega
  rw [show Xd f = 5 from if_pos (.inr (.inl (by omega)))]
  go_wp2_with fail
  generalize (w.alloc (.cells #[.slice A n c] 30)) = W at *
  go_wp2
  go_ret
  exact ⟨rfl, HBW.out⟩
 have k2 : ¬ (12 : Int) < (n : Int) := by omega
 cases he : Ui f with
 | false =>
  rw [show Xd f = 5 from if_pos (.inr (.inr he))]
  rw [he] at HEV
  go_wp2_with fail
  generalize (w.alloc (.cells #[.slice A n c] 30)) = W at *
  refine HEV.out.mono ?_
  rintro e w1 ⟨rfl, e9⟩
  go_wp2
  go_ret
  exact ⟨rfl, Ja HBW.out e9⟩
 | true =>
  rw [show Xd f = 0 from if_neg (by rintro (h | h | h); omega; omega; rw [he] at h; cases h)]
  rw [he] at HEV
  go_wp2_with fail
  generalize (w.alloc (.cells #[.slice A n c] 30)) = W at *
  refine HEV.out.mono ?_
  rintro e w1 ⟨rfl, e9⟩
  go_wp2
  go_ret
  exact ⟨rfl, Ja HBW.out e9⟩
theorem Zb (A A' : Option Addr) (n c n' c' B : Nat) (f x : List (List Rat)) (w : World) (h : Xa w B A n f) (h' : Xa w B A' n' x) (hB : B <= w.heap.size) (hn : n <= 1000) (hn' : n' <= 1000) :
  Calls Tryz.prog 57 #[.agg #[.slice A n c], .slice A' n' c'] w (Ret (.int .i64 (Qt f x : Int)) w) := by
 have o8 := h.len
 have aH := h'.len
 have HCC := lh (fun w' (hb : Below w.heap.size w w') => Yb A n c B f w' (h.below Xh (hb.mono hB)) (nt hB hb.size) hn)
 have HE := lh (fun w' (hb : Below w.heap.size w w') => Jfk A' n' c' B x w' (h'.below Xh (hb.mono hB)) (nt hB hb.size) hn')
 have H := lh h
 have H' := lh h'
 have HBB := lh hB
 clear h h' hB
 obtain ⟨b0, hB, hZ⟩ := bx1 w 30 #[.slice A n c]
 go_enter Tryz.func57, Tryz.ntmps57
 have x0 := b0.c1
 have HBW := lh hB
 clear hB
 by_cases bI : Xd f ≠ 0
 ·rw [show Qt f x = 1 from if_pos bI]
  obtain ⟨k, hk⟩ : ∃ k, Xd f = k := ⟨_, rfl⟩
  rw [hk] at bI HCC
  have q1 : ((k : Int) != 0) = true := by simp; omega
  have q2 : ¬ (k : Int) = 0 := by omega
  have q3 : ((k : Int) == 0) = false := by simp; omega
  clear hk
  go_wp2_with fail
  generalize (w.alloc (.cells #[.slice A n c] 30)) = W at *
  refine (HCC.out _ HBW.out).mono ?_
  rintro e w1 ⟨rfl, e9⟩
  go_wp2
  go_ret
  exact ⟨rfl, Ja HBW.out e9⟩
 have h0 : Xd f = 0 := by omega
 obtain ⟨dS, dT, dU⟩ := Jcr h0
 have bS : Qt f x = if x.length < 1 \/ 300 < x.length \/ Ui x = false \/ (x.getD 0 []).length ≠ (f.getD 0 []).length then 5 else 0 := if_neg bI
 obtain ⟨R, hR⟩ : ∃ R, Qt f x = R := ⟨_, rfl⟩
 rw [hR]
 rw [hR, aH] at bS
 have HRE := lh bS
 rw [h0] at HCC
 clear bS bI h0 dT dU hR
 go_wp2_with fail
 generalize (w.alloc (.cells #[.slice A n c] 30)) = W at *
 refine (HCC.out _ HBW.out).mono ?_
 rintro e w1 ⟨rfl, e9⟩
 have b0 : At1 w1 w.heap.size 0 (.slice A n c) := At1.mk' (b0.below e9 b0.lt).c1
 have HB1 := lh (HBW.out.trans (e9.mono HBW.out.size))
 have HEV := lh (fun w' (bT : Below w1.heap.size w1 w') => HE.out w' (HB1.out.trans (bT.mono HB1.out.size)))
 clear HBW HCC x0 HE e9 hZ
 go_upto_region 3 with fail
 by_cases h1 : n' < 1
 ·have f1 : decide ((n' : Int) < 1) = true := decide_eq_true (by omega)
  obtain ⟨y9, aA⟩ := b0.c2; have c0 := b0.drew; have x8 := c0.lt; have hc := Ji w1; refine Yj (S := (fun w' => w'.cell? ⟨w.heap.size, 0, none⟩ = some (.slice A n c))) (by kernel_rfl) (by first | (dsimp only; go_keep) | go_keep) (fun j0 => ?_); (iterate 25 ((first | (refine Jw (v := ?_) (by simp only [List.getElem?_toArray, List.getElem?_cons_succ, List.getElem?_cons_zero]; first | done | rfl) (by kernel_rfl) (by exact fun _ _ _ h => h) (Or.inl ⟨by rfl, ?_⟩) (by assumption) ?_; rotate_left; (focus (intro w p8; (try dsimp only at p8); go_simp; try with_reducible rfl))) | (refine Jw (v := undef) (by simp only [List.getElem?_toArray, List.getElem?_cons_succ, List.getElem?_cons_zero]; first | done | rfl) (by kernel_rfl) (by exact fun _ _ _ h => h) (Or.inr ⟨by rfl, rfl⟩) (by assumption) ?_)); (try simp only [Act.put, List.setIfInBounds_toArray, List.set_cons_zero, List.set_cons_succ, Nat.reduceAdd]))); refine Kf (by kernel_rfl) ?_
  go_wp2
  go_ret
  exact ⟨by rw [HRE.out, if_pos (.inl h1)]; rfl, HB1.out.trans (hc.mono HB1.out.size)⟩
 have f1 : decide ((n' : Int) < 1) = false := decide_eq_false (by omega)
 by_cases h2 : 300 < n'
 ·have f2 : decide ((300 : Int) < (n' : Int)) = true := decide_eq_true (by omega)
  obtain ⟨y9, aA⟩ := b0.c2; have c0 := b0.drew; have x8 := c0.lt; have hc := Ji w1; refine Yj (S := (fun w' => w'.cell? ⟨w.heap.size, 0, none⟩ = some (.slice A n c))) (by kernel_rfl) (by first | (dsimp only; go_keep) | go_keep) (fun j0 => ?_); (iterate 25 ((first | (refine Jw (v := ?_) (by simp only [List.getElem?_toArray, List.getElem?_cons_succ, List.getElem?_cons_zero]; first | done | rfl) (by kernel_rfl) (by exact fun _ _ _ h => h) (Or.inl ⟨by rfl, ?_⟩) (by assumption) ?_; rotate_left; (focus (intro w p8; (try dsimp only at p8); go_simp; try with_reducible rfl))) | (refine Jw (v := undef) (by simp only [List.getElem?_toArray, List.getElem?_cons_succ, List.getElem?_cons_zero]; first | done | rfl) (by kernel_rfl) (by exact fun _ _ _ h => h) (Or.inr ⟨by rfl, rfl⟩) (by assumption) ?_)); (try simp only [Act.put, List.setIfInBounds_toArray, List.set_cons_zero, List.set_cons_succ, Nat.reduceAdd]))); refine Kf (by kernel_rfl) ?_
  go_wp2
  go_ret
  exact ⟨by rw [HRE.out, if_pos (.inr (.inl h2))]; rfl, HB1.out.trans (hc.mono HB1.out.size)⟩
 have f2 : decide ((300 : Int) < (n' : Int)) = false := decide_eq_false (by omega)
 cases he : Ui x with
 | false =>
  rw [he] at HEV
  obtain ⟨y9, aA⟩ := b0.c2; have c0 := b0.drew; have x8 := c0.lt; have hc := Ji w1; refine Yj (S := (fun w' => w'.cell? ⟨w.heap.size, 0, none⟩ = some (.slice A n c))) (by kernel_rfl) (by first | (dsimp only; go_keep) | go_keep) (fun j0 => ?_); (iterate 10 ((first | (refine Jw (v := ?_) (by simp only [List.getElem?_toArray, List.getElem?_cons_succ, List.getElem?_cons_zero]; first | done | rfl) (by kernel_rfl) (by exact fun _ _ _ h => h) (Or.inl ⟨by rfl, ?_⟩) (by assumption) ?_; rotate_left; (focus (intro w p8; (try dsimp only at p8); go_simp; try with_reducible rfl))) | (refine Jw (v := undef) (by simp only [List.getElem?_toArray, List.getElem?_cons_succ, List.getElem?_cons_zero]; first | done | rfl) (by kernel_rfl) (by exact fun _ _ _ h => h) (Or.inr ⟨by rfl, rfl⟩) (by assumption) ?_)); (try simp only [Act.put, List.setIfInBounds_toArray, List.set_cons_zero, List.set_cons_succ, Nat.reduceAdd]))); refine Uy (by simp only [List.getElem?_toArray, List.getElem?_cons_succ, List.getElem?_cons_zero]; first | done | rfl) (by kernel_rfl) (fun K hK => ?_); go_simp; (go_at_call 93; (with_reducible refine (HEV.out _ hc).mono ?_); rintro e w1 ⟨rfl, j7⟩; (try clear s9 t7); obtain ⟨c0, s9, t7⟩ := c0.zc2 j7; (try clear x8); have x8 := c0.lt; have hc := Ja hc j7); (try go_wp2_with fail); clear j0; refine hK.out _ _ (by first | (dsimp only; go_keep) | go_keep) (fun j0 => ?_); clear hK K; (try simp only [Act.put, List.setIfInBounds_toArray, List.set_cons_zero, List.set_cons_succ, Nat.reduceAdd]); (iterate 14 ((first | (refine Jw (v := ?_) (by simp only [List.getElem?_toArray, List.getElem?_cons_succ, List.getElem?_cons_zero]; first | done | rfl) (by kernel_rfl) (by exact fun _ _ _ h => h) (Or.inl ⟨by rfl, ?_⟩) (by assumption) ?_; rotate_left; (focus (intro w p8; (try dsimp only at p8); go_simp; try with_reducible rfl))) | (refine Jw (v := undef) (by simp only [List.getElem?_toArray, List.getElem?_cons_succ, List.getElem?_cons_zero]; first | done | rfl) (by kernel_rfl) (by exact fun _ _ _ h => h) (Or.inr ⟨by rfl, rfl⟩) (by assumption) ?_)); (try simp only [Act.put, List.setIfInBounds_toArray, List.set_cons_zero, List.set_cons_succ, Nat.reduceAdd]))); refine Kf (by kernel_rfl) ?_
  go_wp2
  go_ret
  exact ⟨by rw [HRE.out, if_pos (.inr (.inr (.inl he)))]; rfl, HB1.out.trans (hc.mono HB1.out.size)⟩
 | true =>
  rw [he] at HEV
  obtain ⟨l, hl⟩ : ∃ l, f[0]? = some l := ⟨_, List.getElem?_eq_getElem (by omega)⟩
  obtain ⟨l0, o6⟩ : ∃ l, x[0]? = some l := ⟨_, List.getElem?_eq_getElem (by omega)⟩
  obtain ⟨ad, A1, m1, cp1, rfl, o7, o0, j6⟩ := H.out.at_ hl
  obtain ⟨ad2, A2, m2, cp2, rfl, p7, aF, aG⟩ := H'.out.at_ o6
  rw [Addr.add_zero'] at o0 aF
  have j9 : l.length = m1 := j6.len
  have hm2 : l0.length = m2 := aG.len
  have cT : f.getD 0 [] = l := by rw [List.getD_eq_getElem?_getD, hl]; rfl
  have cU : x.getD 0 [] = l0 := by rw [List.getD_eq_getElem?_getD, o6]; rfl
  obtain ⟨g4, o4, cV, dV⟩ := Xy (k := 0) (by rw [Addr.add_zero']; exact o0)
  obtain ⟨g5, o5, cW, dW⟩ := Xy (k := 0) (by rw [Addr.add_zero']; exact aF)
  rw [Addr.add_zero'] at cV cW
  subst cV cW
  have b1 : At1 w1 g4 o4 (.slice A1 m1 cp1) := (At1.mk' o0).below (HB1.out.mono HBB.out) o7
  have b2 : At1 w1 g5 o5 (.slice A2 m2 cp2) := (At1.mk' aF).below (HB1.out.mono HBB.out) p7
  have p1 : (0 : Int) < (n : Int) := by omega
  have p2 : (0 : Int) < (n' : Int) := by omega
  have cZ : (⟨g4, o4, none⟩ : Addr).add 0 = ⟨g4, o4, none⟩ := Addr.add_zero' _
  have dA : (⟨g5, o5, none⟩ : Addr).add 0 = ⟨g5, o5, none⟩ := Addr.add_zero' _
  have p3 : ¬ n = 0 := by omega
  have p4 : 0 < n := by omega
  have p5 : ¬ n' = 0 := by omega
  have p6 : 0 < n' := by omega
  have HRE := lh HRE.out
  rw [cT, cU, j9, hm2] at HRE
  rw [he] at HRE
  have HN := lh (And.intro h1 h2)
  clear hl o6 o7 p7 o0 aF j6 aG j9 hm2 cT cU dV dW dS o8 aH h1 h2
  by_cases bJ : m2 = m1
  ·have f3 : ((m2 : Int) == (m1 : Int)) = true := by simp; omega
   have f4 : ((m2 : Int) != (m1 : Int)) = false := by simp; omega
   have HI := lh (show (if n' < 1 \/ 300 < n' \/ true = false \/ m2 ≠ m1 then 5 else 0) = 0 from if_neg (by have := HN.out; rintro (h | h | h | h); exact this.1 h; exact this.2 h; cases h; exact h bJ))
   clear bJ
   obtain ⟨y9, aA⟩ := b0.c2; have c0 := b0.drew; have x8 := c0.lt; obtain ⟨bU, bV⟩ := b1.c2; have c1 := b1.drew; have aW := c1.lt; obtain ⟨bW, bX⟩ := b2.c2; have c2 := b2.drew; have aX := c2.lt; have hc := Ji w1; refine Yj (S := (fun w' => w'.cell? ⟨w.heap.size, 0, none⟩ = some (.slice (some ⟨g4, o4, none⟩) n c) /\ w'.cell? ⟨g4, o4, none⟩ = some (.slice A1 m1 cp1) /\ w'.cell? ⟨g5, o5, none⟩ = some (.slice A2 m2 cp2))) (by kernel_rfl) (by first | (dsimp only; go_keep) | go_keep) (fun j0 => ?_); (iterate 10 ((first | (refine Jw (v := ?_) (by simp only [List.getElem?_toArray, List.getElem?_cons_succ, List.getElem?_cons_zero]; first | done | rfl) (by kernel_rfl) (by exact fun _ _ _ h => h) (Or.inl ⟨by rfl, ?_⟩) (by assumption) ?_; rotate_left; (focus (intro w p8; (try dsimp only at p8); go_simp; try with_reducible rfl))) | (refine Jw (v := undef) (by simp only [List.getElem?_toArray, List.getElem?_cons_succ, List.getElem?_cons_zero]; first | done | rfl) (by kernel_rfl) (by exact fun _ _ _ h => h) (Or.inr ⟨by rfl, rfl⟩) (by assumption) ?_)); (try simp only [Act.put, List.setIfInBounds_toArray, List.set_cons_zero, List.set_cons_succ, Nat.reduceAdd]))); refine Uy (by simp only [List.getElem?_toArray, List.getElem?_cons_succ, List.getElem?_cons_zero]; first | done | rfl) (by kernel_rfl) (fun K hK => ?_); go_simp; (go_at_call 93; (with_reducible refine (HEV.out _ hc).mono ?_); rintro e w1 ⟨rfl, j7⟩; (try clear s9 t7); obtain ⟨c0, s9, t7⟩ := c0.zc2 j7; (try clear x8); have x8 := c0.lt; (try clear t8 u4); obtain ⟨c1, t8, u4⟩ := c1.zc2 j7; (try clear aW); have aW := c1.lt; (try clear aB aC); obtain ⟨c2, aB, aC⟩ := c2.zc2 j7; (try clear aX); have aX := c2.lt; have hc := Ja hc j7); (try go_wp2_with fail); clear j0; refine hK.out _ _ (by first | (dsimp only; go_keep) | go_keep) (fun j0 => ?_); clear hK K; (try simp only [Act.put, List.setIfInBounds_toArray, List.set_cons_zero, List.set_cons_succ, Nat.reduceAdd]); (iterate 14 ((first | (refine Jw (v := ?_) (by simp only [List.getElem?_toArray, List.getElem?_cons_succ, List.getElem?_cons_zero]; first | done | rfl) (by kernel_rfl) (by exact fun _ _ _ h => h) (Or.inl ⟨by rfl, ?_⟩) (by assumption) ?_; rotate_left; (focus (intro w p8; (try dsimp only at p8); go_simp; try with_reducible rfl))) | (refine Jw (v := undef) (by simp only [List.getElem?_toArray, List.getElem?_cons_succ, List.getElem?_cons_zero]; first | done | rfl) (by kernel_rfl) (by exact fun _ _ _ h => h) (Or.inr ⟨by rfl, rfl⟩) (by assumption) ?_)); (try simp only [Act.put, List.setIfInBounds_toArray, List.set_cons_zero, List.set_cons_succ, Nat.reduceAdd]))); refine Kf (by kernel_rfl) ?_
   go_wp2
   go_ret
   exact ⟨by rw [HRE.out, HI.out]; rfl, HB1.out.trans (hc.mono HB1.out.size)⟩
  have f3 : ((m2 : Int) == (m1 : Int)) = false := by simp; omega
  have f4 : ((m2 : Int) != (m1 : Int)) = true := by simp; omega
  have HI := lh (show (if n' < 1 \/ 300 < n' \/ true = false \/ m2 ≠ m1 then 5 else 0) = 5 from if_pos (.inr (.inr (.inr bJ))))
  clear bJ
  obtain ⟨y9, aA⟩ := b0.c2; have c0 := b0.drew; have x8 := c0.lt; obtain ⟨bU, bV⟩ := b1.c2; have c1 := b1.drew; have aW := c1.lt; obtain ⟨bW, bX⟩ := b2.c2; have c2 := b2.drew; have aX := c2.lt; have hc := Ji w1; refine Yj (S := (fun w' => w'.cell? ⟨w.heap.size, 0, none⟩ = some (.slice (some ⟨g4, o4, none⟩) n c) /\ w'.cell? ⟨g4, o4, none⟩ = some (.slice A1 m1 cp1) /\ w'.cell? ⟨g5, o5, none⟩ = some (.slice A2 m2 cp2))) (by kernel_rfl) (by first | (dsimp only; go_keep) | go_keep) (fun j0 => ?_); (iterate 10 ((first | (refine Jw (v := ?_) (by simp only [List.getElem?_toArray, List.getElem?_cons_succ, List.getElem?_cons_zero]; first | done | rfl) (by kernel_rfl) (by exact fun _ _ _ h => h) (Or.inl ⟨by rfl, ?_⟩) (by assumption) ?_; rotate_left; (focus (intro w p8; (try dsimp only at p8); go_simp; try with_reducible rfl))) | (refine Jw (v := undef) (by simp only [List.getElem?_toArray, List.getElem?_cons_succ, List.getElem?_cons_zero]; first | done | rfl) (by kernel_rfl) (by exact fun _ _ _ h => h) (Or.inr ⟨by rfl, rfl⟩) (by assumption) ?_)); (try simp only [Act.put, List.setIfInBounds_toArray, List.set_cons_zero, List.set_cons_succ, Nat.reduceAdd]))); refine Uy (by simp only [List.getElem?_toArray, List.getElem?_cons_succ, List.getElem?_cons_zero]; first | done | rfl) (by kernel_rfl) (fun K hK => ?_); go_simp; (go_at_call 93; (with_reducible refine (HEV.out _ hc).mono ?_); rintro e w1 ⟨rfl, j7⟩; (try clear s9 t7); obtain ⟨c0, s9, t7⟩ := c0.zc2 j7; (try clear x8); have x8 := c0.lt; (try clear t8 u4); obtain ⟨c1, t8, u4⟩ := c1.zc2 j7; (try clear aW); have aW := c1.lt; (try clear aB aC); obtain ⟨c2, aB, aC⟩ := c2.zc2 j7; (try clear aX); have aX := c2.lt; have hc := Ja hc j7); (try go_wp2_with fail); clear j0; refine hK.out _ _ (by first | (dsimp only; go_keep) | go_keep) (fun j0 => ?_); clear hK K; (try simp only [Act.put, List.setIfInBounds_toArray, List.set_cons_zero, List.set_cons_succ, Nat.reduceAdd]); (iterate 14 ((first | (refine Jw (v := ?_) (by simp only [List.getElem?_toArray, List.getElem?_cons_succ, List.getElem?_cons_zero]; first | done | rfl) (by kernel_rfl) (by exact fun _ _ _ h => h) (Or.inl ⟨by rfl, ?_⟩) (by assumption) ?_; rotate_left; (focus (intro w p8; (try dsimp only at p8); go_simp; try with_reducible rfl))) | (refine Jw (v := undef) (by simp only [List.getElem?_toArray, List.getElem?_cons_succ, List.getElem?_cons_zero]; first | done | rfl) (by kernel_rfl) (by exact fun _ _ _ h => h) (Or.inr ⟨by rfl, rfl⟩) (by assumption) ?_)); (try simp only [Act.put, List.setIfInBounds_toArray, List.set_cons_zero, List.set_cons_succ, Nat.reduceAdd]))); refine Kf (by kernel_rfl) ?_
  go_wp2
  go_ret
  exact ⟨by rw [HRE.out, HI.out]; rfl, HB1.out.trans (hc.mono HB1.out.size)⟩
theorem Blk.put5 {w : World} {g : Nat} {t : TypeId} {a b c d e : Value} (h : Blk w g t #[a, b, c, d, e]) (x y z u v : Value) : Blk (((((w.setCell ⟨g, 0, none⟩ x).setCell ⟨g, 1, none⟩ y).setCell ⟨g, 2, none⟩ z).setCell ⟨g, 3, none⟩ u).setCell ⟨g, 4, none⟩ v) g t #[x, y, z, u, v] := by
 simpa using ((((h.set_ 0 x).set_ 1 y).set_ 2 z).set_ 3 u).set_ 4 v
theorem Blk.fars5 {w : World} {g g' : Nat} {t : TypeId} {cs : Array Value} (h : Blk w g t cs) (x9 : g ≠ g') (x y z u v : Value) : Blk (((((w.setCell ⟨g', 0, none⟩ x).setCell ⟨g', 1, none⟩ y).setCell ⟨g', 2, none⟩ z).setCell ⟨g', 3, none⟩ u).setCell ⟨g', 4, none⟩ v) g t cs :=
 ((((h.far (p := ⟨g', 0, none⟩) x9 x).far (p := ⟨g', 1, none⟩) x9 y).far (p := ⟨g', 2, none⟩) x9 z).far (p := ⟨g', 3, none⟩) x9 u).far (p := ⟨g', 4, none⟩) x9 v
theorem Jii (x y : Rat) : Vq x y < 0 ↔ x < y := by
 unfold Vq
 by_cases h : x < y
 ·rw [if_pos h]
  exact ⟨fun _ => h, fun _ => by omega⟩
 rw [if_neg h]
 refine ⟨fun e => ?_, fun e => absurd e h⟩
 split at e <;> omega
def Jkb (w : World) (g7 : Nat) (A : Option Addr) (n c : Nat) (f : List (List Rat)) (x : List Rat) (k i : Nat) (q : Rat) (wr : World) : Prop :=
 Hid (Zi f x k = i /\ Xk (f.getD i []) x = q) /\ Blk wr g7 65 #[.bool (decide (q.num < 0)), .int .u64 (lo q.num.natAbs : Int), .string (mo q.num.natAbs), .int .u64 (lo ((qden q)) : Int), .string (mo ((qden q)))] /\ Blk wr (w.heap.size + 1) 65 #[.bool false, .int .u64 0, .string ⟨#[]⟩, .int .u64 0, .string ⟨#[]⟩] /\ Below w.heap.size w wr /\ w.heap.size + 1 < g7
theorem Jbu (A A' : Option Addr) (n c wd c' B m : Nat) (f : List (List Rat)) (x : List Rat) (w : World) (h : Xa w B A n f) (h' : ReadsQ w B A' wd x) (hB : B <= w.heap.size) (hn : 1 <= n) (hn2 : n <= 1000) (hwd : wd <= 20) (hl : ∀ l ∈ f, l.length = wd) (hm : 1 <= m) (hm2 : m <= 1000000) (hs : ∀ l ∈ f, ∀ y ∈ l, QS m y) (hx : ∀ y ∈ x, QS m y) (hT : Tab w) :
  Calls Tryz.prog 88 #[.agg #[.slice A n c], .slice A' wd c'] w (Ret (.tuple #[.int .i64 (Qk f x : Int), qV (Xs f x)]) w) := by
 have o8 := h.len
 have hlx := h'.len
 have HFAR : Hid (∀ (w' : World) (A1 : Option Addr) (c1 : Nat) (l : List Rat), Below w.heap.size w w' -> ReadsQ w B A1 wd l -> l ∈ f -> Calls Tryz.prog 97 #[.slice A1 wd c1, .slice A' wd c'] w' (Ret (qV (Xk l x)) w')) :=
  lh fun w' A1 c1 l hb hr hlf => Jkv A1 A' wd c1 c' B m l x w' (hr.below (hb.mono hB)) (h'.below (hb.mono hB)) (nt hB hb.size) (by omega) hm (by omega) (hs l hlf) hx (hT.next hb)
 have HSZ : Hid (∀ l ∈ f, QS 200000000 (Xk l x)) := lh fun l hlf => by
  have := Yq (hs l hlf) hx hm l.length
  refine QS.mono (show QS _ (Xk l x) from this) ?_
  have h1 := hl l hlf
  have := Nat.mul_le_mul (show l.length <= 20 by omega) (show 4 * m + 3 <= 4000003 by omega)
  omega
 have H := lh h
 have HL := lh hl
 have HBB := lh hB
 clear h h' hs hx hT hl hB
 obtain ⟨l0, o6⟩ : ∃ l, f[0]? = some l := ⟨_, List.getElem?_eq_getElem (by omega)⟩
 obtain ⟨ad, A0, m0, c0, rfl, bY, dB, bZ⟩ := H.out.at_ o6
 have dC : l0.length = m0 := bZ.len
 obtain rfl : m0 = wd := by rw [<- dC]; exact HL.out l0 (List.mem_of_getElem? o6)
 rw [Addr.add_zero'] at dB
 have dD : f.getD 0 [] = l0 := by rw [List.getD_eq_getElem?_getD, o6]; rfl
 have HF0 := lh (fun w' hb => HFAR.out w' A0 c0 l0 hb bZ (List.mem_of_getElem? o6))
 obtain ⟨q0, hq⟩ : ∃ q, Xk l0 x = q := ⟨_, rfl⟩
 rw [hq] at HF0
 have HST : Hid (Zi f x 0 = 0 /\ Xk (f.getD 0 []) x = q0) := lh ⟨rfl, by rw [dD]; exact hq⟩
 unfold qV at HF0
 have p1 : (0 : Int) < (n : Int) := by omega
 clear hq dD dC bZ o6
 obtain ⟨b0, b1, hB, hZ⟩ := bx2 w 30 #[.slice (some ad) n c] 65 #[.bool false, .int .u64 0, .string ⟨#[]⟩, .int .u64 0, .string ⟨#[]⟩]
 go_enter Tryz.func88, Tryz.ntmps88
 have x0 := b0.c1
 have aY := hB.cell (p := ad) (Nat.lt_of_lt_of_le bY HBB.out)
 rw [dB] at aY
 have HBW := lh hB
 clear hB
 go_upto_region 1 with fail
 generalize ((w.alloc (.cells #[.slice (some ad) n c] 30)).alloc (.cells #[.bool false, .int .u64 0, .string ⟨#[]⟩, .int .u64 0, .string ⟨#[]⟩] 65)) = W at *
 go_cut [6, 7] (fun v6 v wc => v6 = .int .i64 0 /\ Vr W 65 #[.bool (decide (q0.num < 0)), .int .u64 (lo q0.num.natAbs : Int), .string (mo q0.num.natAbs), .int .u64 (lo ((qden q0)) : Int), .string (mo ((qden q0)))] v wc)
 case first =>
  go_wp2_with fail
  refine (HF0.out _ HBW.out).mono ?_
  rintro e w1 ⟨rfl, e9⟩
  go_wp2
  go_meet
  refine ⟨rfl, ?_⟩
  first | with_reducible exact Va e9 | with_reducible exact Jge (Ja e9 (Jb _ _)) (Blk.new _ _ _) e9.size
 case rest =>
  obtain ⟨rfl, g7, rfl, dX, b7, bK⟩ := hcut
  rename World => W2
  have e0 := b0.below bK b0.lt
  have e1 := b1.below bK b1.lt
  have HB2 := lh (HBW.out.trans (bK.mono HBW.out.size))
  have lg7 : w.heap.size + 1 < g7 := by have := hZ.out; omega
  have HR : Hid (Jkb w g7 (some ad) n c f x 0 0 q0 W2) := lh ⟨HST, b7, e1, HB2.out, lg7⟩
  have x0 := e0.c1
  clear b0 b1 b7 e1 bK HBW hZ dX HST HF0 aY
  go_wp2_with fail
  clear x0 e0
  go_loopw [6, 20] (fun v p wr => ∃ (k i : Nat) (q : Rat), k <= n /\ i < n /\ v = .int .i64 (i : Int) /\ p = .int .i64 (k : Int) /\ Jkb w g7 (some ad) n c f x k i q wr) (fun _ p _ => n - (intOf p).toNat)
  case atStart => exact ⟨0, 0, q0, by omega, by omega, rfl, rfl, HR.out⟩
  case round =>
   obtain ⟨k, i, q, hk, hi, rfl, rfl, j8, c7, c1, e8, -⟩ := hrel
   clear HR
   rename World => wr
   by_cases aJ : k < n
   ·have k1 : (k : Int) < (n : Int) := by omega
    obtain ⟨l, x7⟩ : ∃ l, f[k]? = some l := ⟨_, List.getElem?_eq_getElem (by omega)⟩
    obtain ⟨ad2, A1, m1, cp1, bR, cA, o0, j6⟩ := H.out.at_ x7
    obtain rfl := Option.some.inj bR
    have j9 : l.length = m1 := j6.len
    obtain rfl : m1 = m0 := by rw [<- j9]; exact HL.out l (List.mem_of_getElem? x7)
    have p9 := Xq (e8.mono HBB.out) o0 cA
    have cB : f.getD k [] = l := by rw [List.getD_eq_getElem?_getD, x7]; rfl
    have aD := fun w' (hb : Below w.heap.size w w') => HFAR.out w' A1 cp1 l hb j6 (List.mem_of_getElem? x7)
    have cC := HSZ.out l (List.mem_of_getElem? x7)
    obtain ⟨q', y8⟩ : ∃ q', Xk l x = q' := ⟨_, rfl⟩
    rw [y8] at aD cC
    have dE : QS 200000000 q := by
     rw [<- j8.out.2]
     exact HSZ.out _ (by rw [List.getD_eq_getElem?_getD, List.getElem?_eq_getElem (by omega)]; exact List.getElem_mem _)
    have aK := fun w => Jie q' q w (cC.mono (by omega)) (dE.mono (by omega))
    have bL := Jii q' q
    have aZ : Zi f x (k + 1) = if q' < q then k else i := by
     show (if Xk (f.getD k []) x < Xk (f.getD (Zi f x k) []) x then k else Zi f x k) = _
     rw [j8.out.1, cB, j8.out.2, y8]
    have HN := lh aZ
    have HK := lh (show Xk (f.getD k []) x = q' by rw [cB]; exact y8)
    have HI := lh j8.out.2
    generalize Vq q' q = r at *
    unfold qV at aD aK
    have HFR := lh aD
    have HCM := lh aK
    have HBW := lh e8
    have g0 := c7.lt
    have g1 := c1.lt
    clear aD aK cC dE y8 cB x7 j9 j6 j8 aZ o0 e8
    go_upto_region 5 with fail
    go_cut [10] (fun v wc => Vr wr 65 #[.bool (decide (q'.num < 0)), .int .u64 (lo q'.num.natAbs : Int), .string (mo q'.num.natAbs), .int .u64 (lo ((qden q')) : Int), .string (mo ((qden q')))] v wc)
    case first =>
     go_wp2_with fail
     refine (HFR.out _ HBW.out).mono ?_
     rintro e w1 ⟨rfl, e9⟩
     go_wp2
     go_meet
     first | with_reducible exact Va e9 | with_reducible exact Jge (Ja e9 (Jb _ _)) (Blk.new _ _ _) e9.size
    case rest =>
     obtain ⟨g10, rfl, dY, b10, aE⟩ := hcut
     rename World => w3
     have b7 := c7.below aE g0
     have b1 := c1.below aE g1
     have HB3 := lh (HBW.out.trans (aE.mono HBW.out.size))
     clear c7 c1 HBW HFR aE p9
     obtain ⟨x0, x1, x2, x3, x4⟩ := b10.c5
     obtain ⟨y0, y1, y2, y3, y4⟩ := b7.c5
     go_wp2_with fail
     refine (HCM.out _).mono ?_
     rintro e w4 ⟨rfl, bA⟩
     have b10 := b10.below bA b10.lt
     have b7 := b7.below bA b7.lt
     have b1 := b1.below bA b1.lt
     have HB4 := lh (HB3.out.trans (bA.mono HB3.out.size))
     clear x0 x1 x2 x3 x4 y0 y1 y2 y3 y4 HB3 bA
     by_cases hr : r < 0
     ·have HN2 := lh (HN.out.trans (if_pos (bL.1 hr)))
      obtain ⟨x0, x1, x2, x3, x4⟩ := b10.c5
      obtain ⟨dZ, eA, eB, eC, eD, eE, eF, eG, eH, eI, eJ, eK, eL, eM, eN⟩ := b7.f5
      clear bL
      go_upto_region 7 with fail
      go_region
      all_goals
       go_wp2
       have f7 := b7.put5 (.bool (decide (q'.num < 0))) (.int .u64 (lo q'.num.natAbs : Int)) (.string (mo q'.num.natAbs)) (.int .u64 (lo (qden q') : Int)) (.string (mo (qden q')))
       have f1 := b1.fars5 (show w.heap.size + 1 ≠ g7 by omega) (.bool (decide (q'.num < 0))) (.int .u64 (lo q'.num.natAbs : Int)) (.string (mo q'.num.natAbs)) (.int .u64 (lo (qden q') : Int)) (.string (mo (qden q')))
       have dF := Kl (i := 0) (j := 1) (m := 2) (p := 3) (q := 4) HB4.out (show w.heap.size <= g7 by omega) (.bool (decide (q'.num < 0))) (.int .u64 (lo q'.num.natAbs : Int)) (.string (mo q'.num.natAbs)) (.int .u64 (lo (qden q') : Int)) (.string (mo (qden q')))
       exact ⟨⟨k + 1, k, q', by omega, by omega, rfl, by go_num, lh ⟨HN2.out, HK.out⟩, f7.drew, f1.drew, dF.trans ((Ji _).mono dF.size), lg7⟩, by simp [intOf]; omega⟩
     have HN2 := lh (HN.out.trans (if_neg fun h => hr (bL.2 h)))
     clear bL
     go_wp2
     exact ⟨⟨k + 1, i, q, by omega, by omega, rfl, by go_num, lh ⟨HN2.out, HI.out⟩, b7, b1, HB4.out, lg7⟩, by simp [intOf]; omega⟩
   obtain rfl : k = n := by omega
   have cD : ¬ (k : Int) < (k : Int) := by omega
   have HE1 : Hid (Qk f x = i) := lh (by unfold Qk; rw [o8]; exact j8.out.1)
   have HE2 : Hid (Xs f x = q) := lh (by unfold Xs; rw [HE1.out]; exact j8.out.2)
   have HBW := lh e8
   clear j8 e8
   obtain ⟨y0, y1, y2, y3, y4⟩ := c7.c5
   obtain ⟨t8, u4, cE, cF, cG, cH, cI, cJ, cK, cL, aL, aM, aN, aO, aP⟩ := c1.f5
   go_upto_region 9 with fail
   go_region
   all_goals
    go_wp2
    refine bodyPost_ret (v := .tuple #[.int .i64 (i : Int), .agg #[.bool (decide (q.num < 0)), .int .u64 (lo q.num.natAbs : Int), .string (mo q.num.natAbs), .int .u64 (lo ((qden q)) : Int), .string (mo ((qden q)))]]) (by simp [results, Tryz.results88, go_sem, aL, aM, aN, aO, aP]) rfl ?_
    exact ⟨by rw [HE1.out, HE2.out]; rfl, Kl (HBW.out.trans ((Ji _).mono HBW.out.size)) (by omega) _ _ _ _ _⟩
section
variable {α : Type} {n i : Nat} {r z : Nat -> α}
def Ys (n : Nat) (r z : Nat -> α) (i : Nat) : List α := (List.range n).map fun k => if k < i then r k else z k
theorem Jeb (n : Nat) (r z : Nat -> α) : Ys n r z 0 = (List.range n).map z := by
 unfold Ys
 exact List.map_congr_left fun i _ => by rw [if_neg (Nat.not_lt_zero _)]
theorem Jec (n : Nat) (r z : Nat -> α) : Ys n r z n = (List.range n).map r := by
 unfold Ys
 refine List.map_congr_left fun i hi => ?_
 rw [if_pos (List.mem_range.1 hi)]
theorem Jk5 (n : Nat) (r z : Nat -> α) (i : Nat) : (Ys n r z i).length = n := by simp [Ys]
theorem Jif (hi : i < n) : (Ys n r z i)[i]? = some (z i) := by
 unfold Ys
 rw [List.getElem?_map, List.getElem?_range hi]
 simp
theorem Jfu {x : α} (hx : r i = x) : (Ys n r z i).set i x = Ys n r z (i + 1) := by
 unfold Ys
 refine List.ext_getElem (by simp) fun k h1 h2 => ?_
 rw [List.getElem_set]
 simp only [List.getElem_map, List.getElem_range]
 by_cases aS : i = k
 ·subst aS; rw [if_pos rfl, if_pos (by omega), hx]
 rw [if_neg aS]
 by_cases o7 : k < i
 ·rw [if_pos o7, if_pos (show k < i + 1 by omega)]
 rw [if_neg o7, if_neg (show ¬ k < i + 1 by omega)]
end
theorem Jfm {α : Type} {P : Program} (f : α -> Value) (a : α) (t e : TypeId) (bytes : Nat) (ht : P.underlying t = some (.slice e)) (bB : (P.info? e).map (fun i => (i.zero, i.size, i.bytes)) = some (some (f a), 1, bytes)) (eO : (f a).cells = #[f a])
  (n c : Nat) (dG : n <= c) (cM : bytes * c <= 281474976710656) (dH : c <= maxLen) (w : World) :
  ∃ w', (Instr.makeSlice t (.int .i64 (n : Int)) (.int .i64 (c : Int))).run P w = .ok (.slice (some ⟨w.heap.size, 0, none⟩) n c) w' /\ Own w' e f (.slice (some ⟨w.heap.size, 0, none⟩) n c) (List.replicate n a) /\ Below w.heap.size w w' := by
 obtain ⟨i0, eP, eQ, eR, bM⟩ := info_parts bB
 have cN : (c : Int) <= 9223372036854775807 := by unfold maxLen at dH; omega
 have bT : (i0.bytes : Int) * (c : Int) <= 281474976710656 := by
  have h : ((i0.bytes * c : Nat) : Int) <= 281474976710656 := by rw [bM]; omega
  rwa [Int.natCast_mul] at h
 have hr := run_make (P := P) w t e i0 (f a) ht eP eQ .i64 .i64 (n : Int) (c : Int) (by omega) (by omega) bT cN
 simp only [Int.toNat_natCast, eR, Nat.mul_one] at hr
 refine ⟨_, hr, ?_, Jb _ _⟩
 unfold Own
 rw [List.length_replicate, eO]
 refine ⟨by simp, .inr ⟨w.heap.size, c, madeCells #[f a] c, rfl, Nat.zero_le _, heap_alloc_new w _, dG, dH, by simp [size_madeCells], ?_⟩⟩
 rw [Jbv, Nat.mul_one]
 simp [Nat.min_eq_left dG]
theorem Own.putm {α : Type} {w : World} {e : TypeId} {f : α -> Value} {g n c : Nat} {l : List α} (h : Own w e f (.slice (some ⟨g, 0, none⟩) n c) l) (i : Nat) (x : α) : Own (w.setCell ⟨g, i, none⟩ (f x)) e f (.slice (some ⟨g, 0, none⟩) n c) (l.set i x) := by
 have hn : n = l.length := by
  obtain ⟨A', c', h4, _, _⟩ := Own.form h
  injection h4
 subst hn
 have j8 := World.ownsRow.stored h i (f x)
 unfold Own
 rw [List.length_set, List.map_set]
 exact j8.1
theorem Own.frozm {α : Type} {w : World} {e : TypeId} {f : α -> Value} {g n c : Nat} {l : List α} (h : Own w e f (.slice (some ⟨g, 0, none⟩) n c) l) (j : Nat) : w.frozen? ⟨g, j, none⟩ = false := by
 have hn : n = l.length := by
  obtain ⟨A', c', h4, _, _⟩ := Own.form h
  injection h4
 subst hn
 exact World.ownsRow.frozenAt h j
theorem Je4 (f x : List (List Rat)) : Jl f x = (List.range x.length).map fun k => Qk f (x.getD k []) := by
 unfold Jl
 refine List.ext_getElem (by simp) fun k h1 h2 => ?_
 simp only [List.getElem_map, List.getElem_range]
 rw [List.getD_eq_getElem?_getD, List.getElem?_eq_getElem (by simpa using h1)]
 rfl
structure MX (w : World) (B : Nat) (A A' : Option Addr) (n n' wd m : Nat) (f x : List (List Rat)) : Prop where
 hf : Xa w B A n f
 hx : Xa w B A' n' x
 hB : B <= w.heap.size
 hn : 1 <= n
 hn2 : n <= 12
 hn' : n' <= 300
 hwd : wd <= 20
 hlf : ∀ l ∈ f, l.length = wd
 hlx : ∀ l ∈ x, l.length = wd
 hm : 1 <= m
 hm2 : m <= 1000000
 hsf : ∀ l ∈ f, ∀ y ∈ l, QS m y
 hsx : ∀ l ∈ x, ∀ y ∈ l, QS m y
 hT : Tab w
section
variable {w w' : World} {B : Nat} {A A' : Option Addr} {n n' wd m : Nat} {f x : List (List Rat)}
theorem MX.next (h : MX w B A A' n n' wd m f x) (hb : Below w.heap.size w w') : MX w' B A A' n n' wd m f x :=
 ⟨h.hf.below Xh (hb.mono h.hB), h.hx.below Xh (hb.mono h.hB), nt h.hB hb.size, h.hn, h.hn2, h.hn', h.hwd, h.hlf, h.hlx, h.hm, h.hm2, h.hsf, h.hsx, h.hT.next hb⟩
theorem MX.near (h : MX w B A A' n n' wd m f x) (c : Nat) {A1 : Option Addr} {c1 : Nat} {r : List Rat} (hr : ReadsQ w B A1 wd r) (hx : r ∈ x) : ∀ w', Below w.heap.size w w' ->
  Calls Tryz.prog 88 #[.agg #[.slice A n c], .slice A1 wd c1] w' (Ret (.tuple #[.int .i64 (Qk f r : Int), qV (Xs f r)]) w') := fun w' hb =>
 Jbu A A1 n c wd c1 B m f r w' (h.hf.below Xh (hb.mono h.hB)) (hr.below (hb.mono h.hB)) (nt h.hB hb.size) h.hn (by have := h.hn2; omega) h.hwd h.hlf h.hm h.hm2 h.hsf (h.hsx r hx) (h.hT.next hb)
end
theorem Jdb {m wd : Nat} {f : List (List Rat)} {r : List Rat} (hm : 1 <= m) (hsf : ∀ l ∈ f, ∀ y ∈ l, QS m y) (hr : ∀ y ∈ r, QS m y) (hlf : ∀ l ∈ f, l.length = wd) (hn : 1 <= f.length) : QS (wd * (4 * m + 3) + 1) (Xs f r) := by
 unfold Xs
 have hi : Qk f r < f.length := Jfh f r zd hn
 have aQ : f.getD (Qk f r) [] ∈ f := by rw [List.getD_eq_getElem?_getD, List.getElem?_eq_getElem hi]; exact List.getElem_mem _
 generalize f.getD (Qk f r) [] = l at *
 have := Yq (hsf l aQ) hr hm l.length
 rw [hlf l aQ] at this
 show QS _ (Qq l r l.length)
 rw [hlf l aQ]
 exact this
theorem Vk (A A' : Option Addr) (n c n' c' wd B m : Nat) (f x : List (List Rat)) (w : World) (h : MX w B A A' n n' wd m f x) :
  Calls Tryz.prog 61 #[.agg #[.slice A n c], .slice A' n' c'] w fun e w' => ∃ g, e = .returned (.slice (some ⟨g, 0, none⟩) n' n') /\ w.heap.size <= g /\ Own w' 3 iv (.slice (some ⟨g, 0, none⟩) n' n') (Jl f x) /\ Below w.heap.size w w' := by
 have hlx := h.hx.len
 have hn' := h.hn'
 have H := lh h
 clear h
 obtain ⟨r, hr⟩ : ∃ r, (fun k => Qk f (x.getD k [])) = r := ⟨_, rfl⟩
 have dI : Jl f x = (List.range n').map r := by rw [Je4, hlx, hr]
 rw [dI]
 have HR : Hid (∀ k l, x[k]? = some l -> r k = Qk f l) := lh fun k l hl => by
  rw [<- hr]
  show Qk f (x.getD k []) = _
  rw [List.getD_eq_getElem?_getD, hl]
  rfl
 clear hr dI
 obtain ⟨b0, hB, hZ⟩ := bx1 w 30 #[.slice A n c]
 obtain ⟨w1, bC, q8, e9⟩ := Jfm (P := Tryz.prog) iv 0 22 3 8 (Tryz.eltIntR).under (Tryz.eltIntR).info rfl n' n' zd (by omega) (by unfold maxLen; omega) (w.alloc (.cells #[.slice A n c] 30))
 go_enter Tryz.func61, Tryz.ntmps61
 go_upto_region 1 with fail
 generalize (w.alloc (.cells #[.slice A n c] 30)) = W at *
 obtain ⟨gs, dJ⟩ : ∃ gs, W.heap.size = gs := ⟨_, rfl⟩
 have eS : w.heap.size < gs := by have := hZ.out; omega
 rw [dJ] at bC q8
 rw [show List.replicate n' 0 = Ys n' r (fun _ => 0) 0 by rw [Jeb]; exact List.ext_getElem (by simp) fun a h1 h2 => by simp] at q8
 have HO1 := lh q8
 have HB1 := lh (hB.trans (e9.mono hB.size))
 have HC := lh (b0.below e9 b0.lt)
 clear q8 e9 dJ hB hZ b0
 go_wp2_with fail
 clear bC
 go_loopw [13] (fun p wr => ∃ k : Nat, k <= n' /\ p = .int .i64 (k : Int) /\ Own wr 3 iv (.slice (some ⟨gs, 0, none⟩) n' n') (Ys n' r (fun _ => 0) k) /\ Blk wr w.heap.size 30 #[.slice A n c] /\ Below w.heap.size w wr) (fun p _ => n' - (intOf p).toNat)
 case atStart => exact ⟨0, by omega, rfl, HO1.out, HC.out, HB1.out⟩
 case round =>
  obtain ⟨k, hk, rfl, ho, c0, e8⟩ := hrel
  rename World => wr
  clear HO1 HC HB1
  by_cases aJ : k < n'
  ·have k1 : (k : Int) < (n' : Int) := by omega
   obtain ⟨l, hl⟩ : ∃ l, x[k]? = some l := ⟨_, List.getElem?_eq_getElem (by omega)⟩
   obtain ⟨ad, A1, m1, c1, rfl, o7, o0, j6⟩ := H.out.hx.at_ hl
   have j9 : l.length = m1 := j6.len
   have bD : m1 = wd := by rw [<- j9]; exact H.out.hlx l (List.mem_of_getElem? hl)
   subst bD
   have p9 := Xq (e8.mono H.out.hB) o0 o7
   have aI := H.out.near (c1 := c1) c j6 (List.mem_of_getElem? hl)
   have bN := HR.out k l hl
   rw [<- bN] at aI
   generalize hq : Xs f l = q at *
   unfold qV at aI
   have HN := lh aI
   have HBW := lh e8
   have HO := lh ho
   have x0 := c0.c1
   clear aI e8 ho o0 j6 hl j9 bN hq
   go_wp2_with fail
   refine (HN.out _ HBW.out).mono ?_
   rintro e w1 ⟨rfl, e9⟩
   have ho := HO.out.below e9 HO.out.lt
   have c0 := c0.below e9 c0.lt
   have HB2 := lh (HBW.out.trans (e9.mono HBW.out.size))
   have eT := ho.frozm k
   have j8 := ho.putm k (r k)
   have bO := Own.cellf (by rw [Jk5]; exact ho) (Jif aJ)
   rw [Jfu rfl] at j8
   unfold iv at j8 bO
   have HST := lh j8
   have aF := c0.far (p := ⟨gs, k, none⟩) (by simp; omega) (.int .i64 (r k : Int))
   clear ho j8 HBW HO e9 HN
   go_wp2
   exact ⟨⟨k + 1, by omega, by go_num, HST.out, aF, HB2.out.setCell (show w.heap.size <= gs from by omega) _⟩, by simp [intOf]; omega⟩
  obtain rfl : k = n' := by omega
  have cD : ¬ (k : Int) < (k : Int) := by omega
  rw [Jec] at ho
  have HO := lh ho
  have HBW := lh e8
  clear ho e8
  go_wp2
  go_ret
  exact ⟨gs, rfl, by omega, HO.out, HBW.out⟩
theorem Uz {m wd : Nat} {f x : List (List Rat)} (hm : 1 <= m) (hsf : ∀ l ∈ f, ∀ y ∈ l, QS m y) (hsx : ∀ l ∈ x, ∀ y ∈ l, QS m y) (hlf : ∀ l ∈ f, l.length = wd) (hn : 1 <= f.length) : ∀ k, k <= x.length -> QS (k * (wd * (4 * m + 3) + 2) + 1) (Kw f x k)
 | 0, _ => QS.zero _ (by omega)
 | k + 1, hk => by
  have ih := Uz hm hsf hsx hlf hn k (by omega)
  have h1 : QS (wd * (4 * m + 3) + 1) (Xs f (x.getD k [])) := Jdb hm hsf (fun y hy => hsx _ (by rw [List.getD_eq_getElem?_getD, List.getElem?_eq_getElem (by omega)]; exact List.getElem_mem _) y hy) hlf hn
  refine (ih.add h1).mono ?_
  rw [Nat.add_mul]
  omega
theorem Jbh (A A' : Option Addr) (n c n' c' wd B m : Nat) (f x : List (List Rat)) (w : World) (h : MX w B A A' n n' wd m f x) :
  Calls Tryz.prog 59 #[.agg #[.slice A n c], .slice A' n' c'] w (Ret (qV (Zk f x)) w) := by
 have hlx := h.hx.len
 have hn' := h.hn'
 have HS : Hid (∀ k, k <= n' -> QS 40000000000 (Kw f x k)) := lh fun k hk => by
  refine (Uz h.hm h.hsf h.hsx h.hlf (by rw [h.hf.len]; exact h.hn) k (by omega)).mono ?_
  have h1 := h.hwd
  have h2 := h.hm2
  have h3 := Nat.mul_le_mul h1 (show 4 * m + 3 <= 4000003 by omega)
  have h4 := Nat.mul_le_mul (show k <= 300 by omega) (show wd * (4 * m + 3) + 2 <= 80000062 by omega)
  omega
 have HSN : Hid (∀ l ∈ x, QS 200000000 (Xs f l)) := lh fun l hl => by
  refine (Jdb h.hm h.hsf (h.hsx l hl) h.hlf (by rw [h.hf.len]; exact h.hn)).mono ?_
  have h1 := h.hwd
  have h2 := h.hm2
  have h3 := Nat.mul_le_mul h1 (show 4 * m + 3 <= 4000003 by omega)
  omega
 have H := lh h
 clear h
 obtain ⟨b0, b1, b2, hB, hZ⟩ := bx3 w 30 #[.slice A n c] 65 #[.bool false, .int .u64 0, .string ⟨#[]⟩, .int .u64 0, .string ⟨#[]⟩] 65 #[.bool false, .int .u64 0, .string ⟨#[]⟩, .int .u64 0, .string ⟨#[]⟩]
 go_enter Tryz.func59, Tryz.ntmps59
 go_upto_region 2 with fail
 generalize (((w.alloc (.cells #[.slice A n c] 30)).alloc (.cells #[.bool false, .int .u64 0, .string ⟨#[]⟩, .int .u64 0, .string ⟨#[]⟩] 65)).alloc (.cells #[.bool false, .int .u64 0, .string ⟨#[]⟩, .int .u64 0, .string ⟨#[]⟩] 65)) = W at *
 have HZ := lh hZ.out
 have HB0 := lh hB
 have HC := lh (And.intro b0 (And.intro b1 b2))
 clear b0 b1 b2 hB hZ
 go_wp2_with fail
 go_loopw [12] (fun p wr => ∃ (k : Nat) (s : Rat), k <= n' /\ p = .int .i64 (k : Int) /\ Hid (Kw f x k = s) /\ Blk wr w.heap.size 30 #[.slice A n c] /\ Blk wr (w.heap.size + 1) 65 #[.bool false, .int .u64 0, .string ⟨#[]⟩, .int .u64 0, .string ⟨#[]⟩] /\ Blk wr (w.heap.size + 1 + 1) 65 #[.bool (decide (s.num < 0)), .int .u64 (lo s.num.natAbs : Int), .string (mo s.num.natAbs), .int .u64 (lo ((qden s)) : Int), .string (mo ((qden s)))] /\ Below w.heap.size w wr) (fun p _ => n' - (intOf p).toNat)
 case atStart => exact ⟨0, 0, by omega, rfl, lh rfl, HC.out.1, HC.out.2.1, HC.out.2.2, HB0.out⟩
 case round =>
  obtain ⟨k, s, hk, rfl, j8, c0, c1, c2, e8⟩ := hrel
  rename World => wr
  clear HC HB0 HZ
  by_cases aJ : k < n'
  ·have k1 : (k : Int) < (n' : Int) := by omega
   obtain ⟨l, hl⟩ : ∃ l, x[k]? = some l := ⟨_, List.getElem?_eq_getElem (by omega)⟩
   obtain ⟨ad, A1, m1, cp1, rfl, o7, o0, j6⟩ := H.out.hx.at_ hl
   have j9 : l.length = m1 := j6.len
   have bD : m1 = wd := by rw [<- j9]; exact H.out.hlx l (List.mem_of_getElem? hl)
   subst bD
   have p9 := Xq (e8.mono H.out.hB) o0 o7
   have aI := H.out.near (c1 := cp1) c j6 (List.mem_of_getElem? hl)
   have dK : QS 40000000000 s := by rw [<- j8.out]; exact HS.out k hk
   have dL := HSN.out l (List.mem_of_getElem? hl)
   have aZ : Kw f x (k + 1) = s + Xs f l := by
    show Kw f x k + Xs f (x.getD k []) = _
    rw [j8.out, List.getD_eq_getElem?_getD, hl]
    rfl
   generalize hi : Qk f l = i at *
   generalize hq : Xs f l = q at *
   have aR := fun w (hT : Tab w) => Jbz s q w (dK.mono (by omega)) (dL.mono (by omega)) hT
   generalize s + q = s' at *
   have HNX := lh aZ
   unfold qV at aI aR
   have HN := lh aI
   have HAD := lh aR
   have HBW := lh e8
   have tT := H.out.hT.next e8
   have x0 := c0.c1
   have l0 := c0.lt
   have l1 := c1.lt
   have l2 := c2.lt
   clear aI e8 o0 j6 hl j9 hi hq dK dL aR aZ j8
   go_upto_region 5 with fail
   go_cut [9] (fun v wc => Vr wr 65 #[.bool (decide (q.num < 0)), .int .u64 (lo q.num.natAbs : Int), .string (mo q.num.natAbs), .int .u64 (lo ((qden q)) : Int), .string (mo ((qden q)))] v wc)
   case first =>
    go_wp2_with fail
    refine (HN.out _ HBW.out).mono ?_
    rintro e w1 ⟨rfl, e9⟩
    go_wp2
    go_meet
    first | with_reducible exact Va e9 | with_reducible exact Jge (Ja e9 (Jb _ _)) (Blk.new _ _ _) e9.size
   case rest =>
    obtain ⟨g9, rfl, fL, b9, aT⟩ := hcut
    rename World => w2
    have c0 := c0.below aT l0
    have c1 := c1.below aT l1
    have c2 := c2.below aT l2
    have tT := tT.next aT
    have HB2 := lh (HBW.out.trans (aT.mono HBW.out.size))
    clear HBW HN x0 p9 aT
    obtain ⟨x0, x1, x2, x3, x4⟩ := b9.c5
    obtain ⟨y0, y1, y2, y3, y4⟩ := c2.c5
    go_wp2_with fail
    refine (HAD.out _ tT).mono ?_
    rintro e w3 ⟨rfl, bE⟩
    have c0 := c0.below bE c0.lt
    have c1 := c1.below bE c1.lt
    have c2 := c2.below bE c2.lt
    have HB3 := lh (HB2.out.trans (bE.mono HB2.out.size))
    clear HB2 x0 x1 x2 x3 x4 y0 y1 y2 y3 y4 bE b9 tT HAD
    obtain ⟨aB, aC, eU, eV, eW, eX, eY, eZ, fA, fB, fC, fD, fE, fF, fG⟩ := c2.f5
    go_wp2
    have f2 := c2.put5 (.bool (decide (s'.num < 0))) (.int .u64 (lo s'.num.natAbs : Int)) (.string (mo s'.num.natAbs)) (.int .u64 (lo (qden s') : Int)) (.string (mo (qden s')))
    have f1 := c1.fars5 (show w.heap.size + 1 ≠ w.heap.size + 1 + 1 by omega) (.bool (decide (s'.num < 0))) (.int .u64 (lo s'.num.natAbs : Int)) (.string (mo s'.num.natAbs)) (.int .u64 (lo (qden s') : Int)) (.string (mo (qden s')))
    have f0 := c0.fars5 (show w.heap.size ≠ w.heap.size + 1 + 1 by omega) (.bool (decide (s'.num < 0))) (.int .u64 (lo s'.num.natAbs : Int)) (.string (mo s'.num.natAbs)) (.int .u64 (lo (qden s') : Int)) (.string (mo (qden s')))
    exact ⟨⟨k + 1, s', by omega, by go_num, HNX, f0, f1, f2, Kl HB3.out (show w.heap.size <= w.heap.size + 1 + 1 by omega) _ _ _ _ _⟩, by simp [intOf]; omega⟩
  obtain rfl : k = n' := by omega
  have cD : ¬ (k : Int) < (k : Int) := by omega
  have HE : Hid (Zk f x = s) := lh (by unfold Zk; rw [hlx]; exact j8.out)
  have HBW := lh e8
  clear e8 j8
  obtain ⟨y0, y1, y2, y3, y4⟩ := c2.c5
  obtain ⟨t8, u4, cE, cF, cG, cH, cI, cJ, cK, cL, aL, aM, aN, aO, aP⟩ := c1.f5
  go_wp2
  refine bodyPost_ret (v := .agg #[.bool (decide (s.num < 0)), .int .u64 (lo s.num.natAbs : Int), .string (mo s.num.natAbs), .int .u64 (lo ((qden s)) : Int), .string (mo ((qden s)))]) (by simp [results, Tryz.results59, go_sem, aL, aM, aN, aO, aP]) rfl ?_
  exact ⟨by rw [HE.out]; rfl, Kl HBW.out (show w.heap.size <= w.heap.size + 1 by omega) _ _ _ _ _⟩
theorem Jkq (w : World) : OwnQ (w.alloc (.cells #[] 65)) (.slice (some ⟨w.heap.size, 0, none⟩) 0 0) [] := by
 have h := World.ownsRow_made (base := 0) (size := 5) (e := 65) w #[] 0 (Nat.zero_le _) (Nat.zero_le _) rfl
 exact h
theorem Jnq (gb ob n c B : Nat) (l : List Rat) (w : World) (h : ReadsQ w B (some ⟨gb, ob, none⟩) n l) (hB : B <= w.heap.size) (hn : n <= 1000) :
  Calls Tryz.prog 104 #[.slice (some ⟨gb, ob, none⟩) n c] w fun e w' => ∃ A c, e = .returned (.slice A n c) /\ OwnQ w' (.slice A n c) l /\ (∀ b, (Value.slice A n c).ownBlock = some b -> w.heap.size <= b) /\ Below w.heap.size w w' := by
 have H := lh (ReadsW.alloc h hB (.cells #[] 65))
 have fH := h.len
 have HE := lh (Jkq w)
 have q22 : ∀ (w : World) (a : Option Addr) (n c n' c' : Nat), (binOp .eql 31 (.slice a n c) (.slice none n' c')).run Tryz.prog w = .ok (.bool a.isNone) w := fun w a n c n' c' => Lib.run_eql_slice_nil w _ _ a n c n' c' (Tryz.eltQ).under
 clear h
 go_enter Tryz.func104, Tryz.ntmps104
 go_wp2_with (at_builtin; refine Jon Tryz.eltQ (by omega) rfl (.tmp 5) (.tmp 6) rfl (w.alloc (.cells #[] 65)) _ [] B (some ⟨gb, ob, none⟩) n c l rfl HE.out rfl H.out Ji4 (by unfold maxLen; simp; omega) (by simp; omega) ?_; intro v' w1 q8 aU; have q8 := lh q8; have aU := lh aU)
 go_returns
 obtain ⟨A', c', hv, -⟩ := OwnW.form q8.out
 simp [fH] at hv
 subst hv
 refine ⟨A', c', rfl, by simpa using q8.out, fun b hb => ?_, ?_⟩
 ·rcases aU.out.own b hb with h1 | h1
  ·have e : w.heap.size = b := Option.some.inj h1
   omega
  rw [World.size_alloc] at h1
  omega
 exact (Jb w _).trans (aU.out.below (by simp) (fun k hk => by have e : w.heap.size = k := Option.some.inj hk; omega))
def Jc6 (w : World) (g n : Nat) (f : List (List Rat)) (wr : World) : Prop := OwnSA 31 OwnQ w.heap.size wr.heap.size wr (.slice (some ⟨g, 0, none⟩) n n) f
theorem Jfl (A : Option Addr) (n c wd B : Nat) (f : List (List Rat)) (w : World) (h : Xa w B A n f) (hB : B <= w.heap.size) (hn : n <= 1000) (hwd : 1 <= wd) (fI : wd <= 1000) (hl : ∀ l ∈ f, l.length = wd) :
  Calls Tryz.prog 58 #[.slice A n c] w fun e w' => ∃ g, e = .returned (.slice (some ⟨g, 0, none⟩) n n) /\ w.heap.size <= g /\ Jc6 w g n f w' /\ Below w.heap.size w w' := by
 have o8 := h.len
 have H := lh h
 have HL := lh hl
 clear h hl
 obtain ⟨r, hr⟩ : ∃ r, (fun k => f.getD k []) = r := ⟨_, rfl⟩
 have HF : Hid (f = Ys n r (fun _ => []) n) := lh (by
  rw [Jec, <- hr]
  refine List.ext_getElem (by simp [o8]) fun k h1 h2 => ?_
  simp only [List.getElem_map, List.getElem_range]
  rw [List.getD_eq_getElem?_getD, List.getElem?_eq_getElem h1]
  rfl)
 have HR : Hid (∀ k l, f[k]? = some l -> r k = l) := lh fun k l hl => by
  rw [<- hr]
  show f.getD k [] = _
  rw [List.getD_eq_getElem?_getD, hl]
  rfl
 clear hr
 have bC := Qf (P := Tryz.prog) SW.v ⟨none, 0, 0⟩ 28 31 24 (Tryz.eltQQ).under (Tryz.eltQQ).info rfl .i64 .i64 n (by omega) (by omega) w
 have cO := Jds (T := 31) (Qm (by decide)) (e := []) (fun w => OwnW.nil_ _ _ _ _) w.heap.size (w.heap.size + 1) n w (by unfold maxLen; omega)
 rw [show List.replicate n ([] : List Rat) = Ys n r (fun _ => []) 0 by rw [Jeb]; exact List.ext_getElem (by simp) fun a h1 h2 => by simp] at cO
 have e8 := Jb w (.cells ((List.replicate n (⟨none, 0, 0⟩ : SW)).map SW.v).toArray 31)
 have dM : (w.alloc (.cells ((List.replicate n (⟨none, 0, 0⟩ : SW)).map SW.v).toArray 31)).heap.size = w.heap.size + 1 := by simp
 generalize w.alloc (.cells ((List.replicate n (⟨none, 0, 0⟩ : SW)).map SW.v).toArray 31) = W at *
 obtain ⟨g6, cP⟩ : ∃ g6, w.heap.size = g6 := ⟨_, rfl⟩
 have HI : Hid (Jc6 w g6 n (Ys n r (fun _ => []) 0) W /\ Below w.heap.size w W) := lh ⟨by unfold Jc6; rw [dM, <- cP]; exact cO, e8⟩
 have dN : w.heap.size <= g6 := by omega
 rw [cP] at bC
 clear cO e8 dM cP
 go_enter Tryz.func58, Tryz.ntmps58
 go_wp2_with fail
 clear bC
 go_loopw [10] (fun p wr => ∃ k : Nat, k <= n /\ p = .int .i64 (k : Int) /\ Jc6 w g6 n (Ys n r (fun _ => []) k) wr /\ Below w.heap.size w wr) (fun p _ => n - (intOf p).toNat)
 case atStart => exact ⟨0, by omega, rfl, HI.out⟩
 case round =>
  obtain ⟨k, hk, rfl, ho, e8⟩ := hrel
  rename World => wr
  clear HI
  by_cases aJ : k < n
  ·have k1 : (k : Int) < (n : Int) := by omega
   obtain ⟨l, x7⟩ : ∃ l, f[k]? = some l := ⟨_, List.getElem?_eq_getElem (by omega)⟩
   obtain ⟨ad, A1, m1, c1, rfl, o7, o0, j6⟩ := H.out.at_ x7
   have j9 : l.length = m1 := j6.len
   have bD : m1 = wd := by rw [<- j9]; exact HL.out l (List.mem_of_getElem? x7)
   subst bD
   have p9 := Xq (e8.mono hB) o0 o7
   obtain ⟨y, hy⟩ : ∃ y, l[0]? = some y := ⟨_, List.getElem?_eq_getElem (by omega)⟩
   obtain ⟨ad1, g1, o1, rfl, dO, -, -⟩ := ReadsQ.at_ j6 hy
   rw [Nat.zero_mul, Addr.add_zero'] at dO
   subst dO
   have bO := Jnq g1 o1 m1 c1 B l wr (j6.below (e8.mono hB)) (nt hB e8.size) (by omega)
   have bN := HR.out k l x7
   have HCL := lh bO
   have HBW := lh e8
   have HO := lh ho
   clear bO e8 ho o0 j6 hy x7 j9
   go_wp2_with fail
   refine HCL.out.mono ?_
   rintro e w1 ⟨A9, c9, rfl, q8, dP, e9⟩
   have o1 := OwnSA.next (Qm (by decide)).toKind HO.out e9
   have eT := o1.frozen k
   obtain ⟨A8, m8, cp8, fM, -, -, -⟩ := OwnSA.at_ (Qm (T := 31) (by decide)) o1 (Jif aJ)
   have o2 := OwnSA.put (Qm (by decide)) (i := k) (B' := w1.heap.size) o1 q8 (fun y hy => ⟨dP y hy, OwnW.lt q8 _ hy⟩) e9.size HBW.out.size
   rw [Jfu bN] at o2
   have bF := (HBW.out.trans (e9.mono HBW.out.size)).setCell (p := ⟨g6, k, none⟩) dN (.slice A9 m1 c9)
   have bM : (w1.setCell ⟨g6, k, none⟩ (.slice A9 m1 c9)).heap.size = w1.heap.size := by simp
   have HI : Hid (Jc6 w g6 n (Ys n r (fun _ => []) (k + 1)) (w1.setCell ⟨g6, k, none⟩ (.slice A9 m1 c9)) /\ Below w.heap.size w (w1.setCell ⟨g6, k, none⟩ (.slice A9 m1 c9))) := lh ⟨by unfold Jc6; rw [bM]; exact o2, bF⟩
   clear o1 q8 o2 e9 bF bM HO HBW HCL dP p9
   go_wp2
   exact ⟨⟨k + 1, by omega, by go_num, HI.out⟩, by simp [intOf]; omega⟩
  obtain rfl : k = n := by omega
  have cD : ¬ (k : Int) < (k : Int) := by omega
  rw [<- HF.out] at ho
  have HO := lh ho
  have HBW := lh e8
  clear ho e8
  go_wp2
  go_ret
  exact ⟨g6, rfl, dN, HO.out, HBW.out⟩
theorem Jg0 (A A' : Option Addr) (n c c' B B' : Nat) (l l' : List Rat) (w : World) (h : ReadsQ w B A n l) (h' : ReadsQ w B' A' n l') (hB : B <= w.heap.size) (bP : B' <= w.heap.size) (hn : n <= 1000000) (hq : ∀ x ∈ l, QS 549755813888 x) (y8 : ∀ x ∈ l', QS 549755813888 x) :
  Calls Tryz.prog 96 #[.slice A n c, .slice A' n c', .func (.func 32) #[] #[]] w fun e w' => ∃ z : Int, e = .returned (.int .i64 z) /\ (z == 0) = decide (l = l') /\ Below w.heap.size w w' := by
 have H := lh h
 have H' := lh h'
 have HQ := lh hq
 have HQ' := lh y8
 have HLN := lh h.len
 have HLN' := lh h'.len
 clear h h' hq y8
 go_enter Tryz.func96, Tryz.ntmps96
 go_wp2_with fail
 go_loopw [13] (fun p wr => ∃ k : Nat, k <= n /\ p = .int .i64 (k : Int) /\ Hid (l.take k = l'.take k) /\ Below w.heap.size w wr) (fun p _ => n - (intOf p).toNat)
 case atStart => exact ⟨0, by omega, rfl, lh rfl, Below.refl _ _⟩
 case round =>
  obtain ⟨k, hk, rfl, bQ, e8⟩ := hrel
  rename World => wr
  by_cases aJ : k < n
  ·have k1 : (k : Int) < (n : Int) := by omega
   have k2 : ¬ (n : Int) <= (k : Int) := by omega
   obtain ⟨x, hx⟩ : ∃ x, l[k]? = some x := ⟨_, List.getElem?_eq_getElem (by have := HLN.out; omega)⟩
   obtain ⟨y, hy⟩ : ∃ y, l'[k]? = some y := ⟨_, List.getElem?_eq_getElem (by have := HLN'.out; omega)⟩
   obtain ⟨ad, gx, ox, rfl, hP, fN, dQ⟩ := ReadsQ.at_ (H.out.below (e8.mono hB)) hx
   obtain ⟨ad', gy, oy, rfl, fO, fJ, bG⟩ := ReadsQ.at_ (H'.out.below (e8.mono bP)) hy
   have bH := bG.alloc (.cells #[.bool (decide (x.num < 0)), .int .u64 (lo x.num.natAbs : Int), .string (mo x.num.natAbs), .int .u64 (lo ((qden x)) : Int), .string (mo ((qden x)))] 65)
   obtain ⟨x0, x1, x2, x3, x4⟩ := dQ.c5
   obtain ⟨y0, y1, y2, y3, y4⟩ := bH.c5
   have cQ := fun w => Jie x y w (HQ.out x (List.mem_of_getElem? hx)) (HQ'.out y (List.mem_of_getElem? hy))
   have hz := Jfy x y
   have HE : Hid (x = y -> l.take (k + 1) = l'.take (k + 1)) := lh fun e => by
    rw [List.take_add_one, List.take_add_one, bQ.out, hx, hy, e]
   have HNE : Hid (x ≠ y -> l ≠ l') := lh fun x9 e => by
    subst e
    exact x9 (Option.some.inj (hx.symm.trans hy))
   generalize Vq x y = r at *
   unfold qV at cQ
   have HCM := lh cQ
   have HB2 := lh (e8.trans ((Jj wr (.cells #[.bool (decide (x.num < 0)), .int .u64 (lo x.num.natAbs : Int), .string (mo x.num.natAbs), .int .u64 (lo ((qden x)) : Int), .string (mo ((qden x)))] 65) (.cells #[.bool (decide (y.num < 0)), .int .u64 (lo y.num.natAbs : Int), .string (mo y.num.natAbs), .int .u64 (lo ((qden y)) : Int), .string (mo ((qden y)))] 65)).mono e8.size))
   clear hx hy dQ bG bH cQ e8 bQ
   by_cases hr : r = 0
   ·subst hr
    have HT := lh (HE.out (hz.1 rfl))
    clear hz
    go_wp2_with fail
    refine (HCM.out _).mono ?_
    rintro e w1 ⟨rfl, j7⟩
    have HB3 := lh (Ja HB2.out j7)
    clear j7 x0 x1 x2 x3 x4 y0 y1 y2 y3 y4
    go_wp2
    exact ⟨⟨k + 1, by omega, by go_num, HT, HB3.out⟩, by simp [intOf]; omega⟩
   have HD : Hid ((r == 0) = decide (l = l')) := lh (by rw [decide_eq_false (HNE.out fun e => hr (hz.2 e))]; simp [hr])
   have q1 : (r == 0) = false := by simp [hr]
   have q2 : (r != 0) = true := by simp [hr]
   clear hz
   go_wp2_with fail
   refine (HCM.out _).mono ?_
   rintro e w1 ⟨rfl, j7⟩
   have HB3 := lh (Ja HB2.out j7)
   clear j7 x0 x1 x2 x3 x4 y0 y1 y2 y3 y4
   go_wp2
   go_ret
   exact ⟨r, rfl, HD.out, HB3.out⟩
  obtain rfl : k = n := by omega
  have k1 : ¬ (k : Int) < (k : Int) := by omega
  have HBW := lh e8
  have HD : Hid (((0 : Int) == 0) = decide (l = l')) := lh (by
   have h1 := bQ.out
   rw [List.take_of_length_le (by have := HLN.out; omega), List.take_of_length_le (by have := HLN'.out; omega)] at h1
   rw [decide_eq_true h1]
   rfl)
  clear e8 bQ
  go_wp2
  go_ret
  exact ⟨0, rfl, HD.out, HBW.out⟩
theorem Jjh (A A' : Option Addr) (n c c' B B' : Nat) (l l' : List Rat) (w : World) (h : ReadsQ w B A n l) (h' : ReadsQ w B' A' n l') (hB : B <= w.heap.size) (bP : B' <= w.heap.size) (hn : n <= 1000000) (hq : ∀ x ∈ l, QS 549755813888 x) (y8 : ∀ x ∈ l', QS 549755813888 x) :
  Calls Tryz.prog 48 #[.slice A n c, .slice A' n c'] w (Ret (.bool (decide (l = l'))) w) := by
 have HC := lh (Jg0 A A' n c c' B B' l l' w h h' hB bP hn hq y8)
 clear h h' hB bP hq y8
 go_enter Tryz.func48, Tryz.ntmps48
 go_wp2_with fail
 refine HC.out.mono ?_
 rintro e w1 ⟨z, rfl, hz, j7⟩
 have HZ := lh hz
 have HW := lh j7
 clear hz j7
 go_wp2
 go_ret
 exact ⟨by rw [<- HZ.out]; rfl, HW.out⟩
section
variable {α : Type}
theorem Uv {n i : Nat} {r r' : Nat -> α} {y : α} (hi : r' i = y) (ho : ∀ j, j ≠ i -> r' j = r j) : ((List.range n).map r).set i y = (List.range n).map r' := by
 refine List.ext_getElem (by simp) fun k h1 h2 => ?_
 rw [List.getElem_set]
 simp only [List.getElem_map, List.getElem_range]
 by_cases aS : i = k
 ·subst aS; rw [if_pos rfl, hi]
 rw [if_neg aS, ho k fun e => aS e.symm]
theorem Yn {n i : Nat} {r : Nat -> α} (hi : i < n) : ((List.range n).map r)[i]? = some (r i) := by
 rw [List.getElem?_map, List.getElem?_range hi]; rfl
end
def Xu (f x : List (List Rat)) (g : Nat) : Nat -> Nat
 | 0 => 0
 | k + 1 => if Qk f (x.getD k []) = g then Xu f x g k + 1 else Xu f x g k
def Xt (f x : List (List Rat)) (g c : Nat) : Nat -> Rat
 | 0 => 0
 | k + 1 => if Qk f (x.getD k []) = g then Xt f x g c k + (x.getD k []).getD c 0 else Xt f x g c k
theorem Jai (f x : List (List Rat)) (g : Nat) : ∀ k, Xu f x g k <= k
 | 0 => Nat.le_refl _
 | k + 1 => by unfold Xu; have := Jai f x g k; split <;> omega
theorem Jef {f x : List (List Rat)} {g c : Nat} : ∀ k, Xu f x g k = 0 -> Xt f x g c k = 0
 | 0, _ => rfl
 | k + 1, h => by
  unfold Xu at h
  unfold Xt
  split at h
  ·cases h
  rename_i h2
  rw [if_neg h2]
  exact Jef k h
theorem Jah {m : Nat} {f x : List (List Rat)} (hm : 1 <= m) (hs : ∀ l ∈ x, ∀ y ∈ l, QS m y) (g c : Nat) : ∀ k, QS (k * (m + 1) + 1) (Xt f x g c k)
 | 0 => QS.zero _ (by omega)
 | k + 1 => by
  have ih := Jah (f := f) hm hs g c k
  have h1 : QS m ((x.getD k []).getD c 0) := by
   refine QS.getD (fun y hy => ?_) hm c
   rw [List.getD_eq_getElem?_getD] at hy
   cases hx : x[k]? with
   | none => rw [hx] at hy; cases hy
   | some l => rw [hx] at hy; exact hs l (List.mem_of_getElem? hx) y hy
  unfold Xt
  split
  ·refine (ih.add h1).mono ?_
   rw [Nat.add_mul]
   omega
  refine ih.mono ?_
  rw [Nat.add_mul]
  omega
def Kr (wd : Nat) (f x : List (List Rat)) (g k j : Nat) : List Rat := (List.range wd).map fun c => if c < j then Xt f x g c (k + 1) else Xt f x g c k
def Vx (wd : Nat) (f x : List (List Rat)) (g k : Nat) : List Rat := if Xu f x g k = 0 then [] else (List.range wd).map fun c => Xt f x g c k
def Yf (wd : Nat) (f x : List (List Rat)) (n k : Nat) : List (List Rat) := (List.range n).map fun g => Vx wd f x g k
def Kh (f x : List (List Rat)) (n k : Nat) : List Nat := (List.range n).map fun g => Xu f x g k
section
variable {wd n k j g : Nat} {f x : List (List Rat)}
theorem Jhn : (Kr wd f x g k j).length = wd := by simp [Kr]
theorem Jlt (h : Xu f x g k = 0) : Kr wd f x g k 0 = List.replicate wd 0 := by
 unfold Kr
 refine List.ext_getElem (by simp) fun i h1 h2 => ?_
 simp only [List.getElem_map, List.getElem_range, List.getElem_replicate]
 rw [if_neg (by omega), Jef k h]
theorem Jls (h : ¬ Xu f x g k = 0) : Kr wd f x g k 0 = Vx wd f x g k := by
 unfold Kr Vx
 rw [if_neg h]
 exact List.map_congr_left fun i _ => by rw [if_neg (by omega)]
theorem Jj0 (hj : j < wd) : (Kr wd f x g k j)[j]? = some (Xt f x g j k) := by
 unfold Kr
 rw [Yn hj, if_neg (by omega)]
theorem Jlr (hg : Qk f (x.getD k []) = g) : (Kr wd f x g k j).set j (Xt f x g j k + (x.getD k []).getD j 0) = Kr wd f x g k (j + 1) := by
 unfold Kr
 refine Uv ?_ fun i hi => ?_
 ·rw [if_pos (by omega)]
  exact if_pos hg
 by_cases h : i < j
 ·rw [if_pos h, if_pos (by omega)]
 rw [if_neg h, if_neg (by omega)]
theorem Jis : Yf wd f x n 0 = List.replicate n [] := List.ext_getElem (by simp [Yf]) fun i h1 h2 => by simp [Yf, Vx, Xu]
theorem Jki (hg : Qk f (x.getD k []) = g) : (Yf wd f x n k).set g (Kr wd f x g k wd) = Yf wd f x n (k + 1) := by
 unfold Yf
 refine Uv ?_ fun i hi => ?_
 ·unfold Vx
  have h1 : ¬ Xu f x g (k + 1) = 0 := by unfold Xu; rw [if_pos hg]; omega
  rw [if_neg h1]
  unfold Kr
  exact List.map_congr_left fun c hc => by rw [if_pos (List.mem_range.1 hc)]
 have x9 : ¬ Qk f (x.getD k []) = i := fun e => hi (e.symm.trans hg)
 unfold Vx
 have h1 : Xu f x i (k + 1) = Xu f x i k := by show (if _ then _ else _) = _; rw [if_neg x9]
 have h2 : ∀ c, Xt f x i c (k + 1) = Xt f x i c k := fun c => by show (if _ then _ else _) = _; rw [if_neg x9]
 rw [h1]
 simp only [h2]
theorem Jla : Kh f x n 0 = List.replicate n 0 := List.ext_getElem (by simp [Kh]) fun i h1 h2 => by simp [Kh, Xu]
theorem Jmq (hg : Qk f (x.getD k []) = g) : (Kh f x n k).set g (Xu f x g k + 1) = Kh f x n (k + 1) := by
 unfold Kh
 refine Uv ?_ fun i hi => ?_
 ·show (if _ then _ else _) = _; rw [if_pos hg]
 show (if _ then _ else _) = _; rw [if_neg fun e => hi (e.symm.trans hg)]
end
def Kb (wd : Nat) (f x : List (List Rat)) (g : Nat) : List Rat := (List.range wd).map fun c => Xt f x g c x.length / ((Xu f x g x.length : Nat) : Rat)
def Xi (wd : Nat) (f x : List (List Rat)) (g : Nat) : List Rat := if Xu f x g x.length = 0 then f.getD g [] else Kb wd f x g
def Yh (wd : Nat) (f x : List (List Rat)) (n g : Nat) : List (List Rat) := (List.range n).map fun i => if i < g then Xi wd f x i else f.getD i []
def Xr (wd : Nat) (f x : List (List Rat)) : List (List Rat) := (List.range f.length).map (Xi wd f x)
def Xc (wd : Nat) (f x : List (List Rat)) : Nat -> Nat
 | 0 => 0
 | g + 1 => if Xi wd f x g = f.getD g [] then Xc wd f x g else Xc wd f x g + 1
def Zq (wd : Nat) (f x : List (List Rat)) : Nat := Xc wd f x f.length
def Vy (wd : Nat) (f x : List (List Rat)) (g j : Nat) : List Rat := (List.range wd).map fun c => if c < j then Xt f x g c x.length / ((Xu f x g x.length : Nat) : Rat) else (f.getD g []).getD c 0
section
variable {wd n g j : Nat} {f x : List (List Rat)}
theorem Jbg (wd : Nat) (f x : List (List Rat)) : ∀ g, Xc wd f x g <= g
 | 0 => Nat.le_refl _
 | g + 1 => by unfold Xc; have := Jbg wd f x g; split <;> omega
theorem Jkl (h : (f.getD g []).length = wd) : Vy wd f x g 0 = f.getD g [] := by
 unfold Vy
 refine List.ext_getElem (by rw [List.length_map, List.length_range, h]) fun i h1 h2 => ?_
 simp only [List.getElem_map, List.getElem_range]
 rw [if_neg (by omega), List.getD_eq_getElem?_getD, List.getElem?_eq_getElem h2]
 rfl
theorem Jkm : Vy wd f x g wd = Kb wd f x g := by
 unfold Vy Kb
 exact List.map_congr_left fun c hc => by rw [if_pos (List.mem_range.1 hc)]
theorem Jlq {y : Rat} (hy : Xt f x g j x.length / ((Xu f x g x.length : Nat) : Rat) = y) : (Vy wd f x g j).set j y = Vy wd f x g (j + 1) := by
 unfold Vy
 refine Uv ?_ fun i hi => ?_
 ·rw [if_pos (by omega), hy]
 by_cases h : i < j
 ·rw [if_pos h, if_pos (by omega)]
 rw [if_neg h, if_neg (by omega)]
theorem Jhm : (Vy wd f x g j).length = wd := by simp [Vy]
theorem Ji6 (hn : f.length = n) : Yh wd f x n 0 = f := by
 unfold Yh
 refine List.ext_getElem (by simp [hn]) fun i h1 h2 => ?_
 simp only [List.getElem_map, List.getElem_range]
 rw [if_neg (by omega), List.getD_eq_getElem?_getD, List.getElem?_eq_getElem h2]
 rfl
theorem Ji8 (hn : f.length = n) : Yh wd f x n n = Xr wd f x := by
 unfold Yh Xr
 rw [hn]
 exact List.map_congr_left fun c hc => by rw [if_pos (List.mem_range.1 hc)]
theorem Jlz (hg : g < n) : (Yh wd f x n g)[g]? = some (f.getD g []) := by
 unfold Yh
 rw [Yn hg, if_neg (by omega)]
theorem Jkr : (Yh wd f x n g).set g (Xi wd f x g) = Yh wd f x n (g + 1) := by
 unfold Yh
 refine Uv ?_ fun i hi => ?_
 ·rw [if_pos (by omega)]
 by_cases h : i < g
 ·rw [if_pos h, if_pos (by omega)]
 rw [if_neg h, if_neg (by omega)]
theorem Ji7 (h : Xi wd f x g = f.getD g []) : Yh wd f x n (g + 1) = Yh wd f x n g := by
 unfold Yh
 refine List.map_congr_left fun i _ => ?_
 by_cases hi : i = g
 ·subst hi; rw [if_pos (by omega), if_neg (by omega), h]
 by_cases h2 : i < g
 ·rw [if_pos h2, if_pos (by omega)]
 rw [if_neg h2, if_neg (by omega)]
end
