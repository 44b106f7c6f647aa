import Derived.Test.YtecnjlcfoobepaaGreatDoorRefJoins
namespace Go.Proofs.YtecnjlcfoobepaaGreatDoor
set_option maxRecDepth 100000
set_option maxHeartbeats 8000000
open Go.RowKit
set_option linter.all false
def Jak (n : Nat) (J : Nat -> Jn) (k : Nat) : List Int := (List.range (2 * n)).map (Zh n J k)
def Jav (n i : Nat) : List Int := (List.range (2 * n)).map fun j => if j < i then 1 else 0
theorem Jk4 (n : Nat) : Jav n 0 = List.replicate (2 * n) 0 := by
 unfold Jav
 refine List.ext_getElem (by simp) fun i h1 h2 => by simp
theorem Jns {n i : Nat} (h : i < 2 * n) : (Jav n i).set i 1 = Jav n (i + 1) := by
 unfold Jav
 refine List.ext_getElem (by simp) fun j h1 h2 => ?_
 rw [List.getElem_set]
 simp only [List.getElem_map, List.getElem_range]
 by_cases bS : i = j
 ·subst bS; simp
 rw [if_neg bS]
 by_cases h3 : j < i
 ·rw [if_pos h3, if_pos (by omega)]
 rw [if_neg h3, if_neg (by omega)]
theorem Jnt (n i : Nat) : (Jav n i).length = 2 * n := by simp [Jav]
theorem Jpu {n i : Nat} (h : i < 2 * n) : (Jav n i)[i]? = some 0 := by
 unfold Jav
 rw [List.getElem?_map, List.getElem?_range h]
 simp
theorem Jnu (n : Nat) (J : Nat -> Jn) : Jav n n = Jak n J 0 := rfl
theorem Ks (n : Nat) (J : Nat -> Jn) (k : Nat) : (Jak n J k).length = 2 * n := by simp [Jak]
theorem Yq {n k i : Nat} {J : Nat -> Jn} (h : i < 2 * n) : (Jak n J k)[i]? = some (Zh n J k i) := by
 unfold Jak
 rw [List.getElem?_map, List.getElem?_range h]
 rfl
theorem Jil {n k A B : Nat} {J : Nat -> Jn} (hA : (J k).a = (A : Int)) (hB : (J k).b = (B : Int)) (hk : n + k < 2 * n) (cM : A < n + k) (cN : B < n + k) :
  (((Jak n J k).set (n + k) (J k).size).set A 0).set B 0 = Jak n J (k + 1) := by
 refine List.ext_getElem? fun i => ?_
 by_cases hi : i < 2 * n
 ·rw [Yq hi]
  show _ = some (if i = n + k then (J k).size else if (i : Int) = (J k).a \/ (i : Int) = (J k).b then 0 else _)
  rw [hA, hB, List.getElem?_set, List.getElem?_set, List.getElem?_set, List.length_set, List.length_set, Ks, Yq hi]
  by_cases h1 : i = n + k
  ·rw [if_neg (by omega), if_neg (by omega), if_pos h1.symm, if_pos (by omega), if_pos h1]
  rw [if_neg h1]
  by_cases h2 : B = i
  ·rw [if_pos h2, if_pos (by omega), if_pos (.inr (by omega))]
  rw [if_neg h2]
  by_cases h3 : A = i
  ·rw [if_pos h3, if_pos (by omega), if_pos (.inl (by omega))]
  rw [if_neg h3, if_neg (fun e => h1 e.symm), if_neg (by omega)]
 rw [List.getElem?_eq_none (by simp [Ks]; omega), List.getElem?_eq_none (by rw [Ks]; omega)]
theorem Jd5 {n : Nat} {J : Nat -> Jn} (h : ∀ k, -1000 <= (J k).size /\ (J k).size <= 1000) : ∀ k i, -1000 <= Zh n J k i /\ Zh n J k i <= 1000 := by
 intro k
 induction k with
 | zero =>
  intro i
  show -1000 <= (if i < n then (1 : Int) else 0) /\ (if i < n then (1 : Int) else 0) <= 1000
  split <;> omega
 | succ k ih =>
  intro i
  show -1000 <= (if i = n + k then (J k).size else if (i : Int) = (J k).a \/ (i : Int) = (J k).b then 0 else Zh n J k i) /\ (if i = n + k then (J k).size else if (i : Int) = (J k).a \/ (i : Int) = (J k).b then 0 else Zh n J k i) <= 1000
  split
  ·exact h k
  split
  ·omega
  exact ih i
theorem Jnp {n : Nat} {J : Nat -> Jn} : ∀ k, (∀ i, i < k -> FineAt n J i) -> 0 <= Jat J k := by
 intro k
 induction k with
 | zero => intro _; exact Rat.le_refl
 | succ k ih =>
  intro h
  exact Rat.le_trans (ih fun i hi => h i (by omega)) (h k (by omega)).high
theorem Jo0 (A : Option Addr) (n len c B M : Nat) (l : List Jn) (w : World) (h : ReadsJR w B A len l) (hB : B <= w.heap.size) (cG : 1 <= n) (hn : n <= 64) (hM : M <= 100000000) (cH : len <= 1000) (hb : ∀ j ∈ l, JB M j) :
  Calls Tryz.prog 46 #[.int .i64 (n : Int), .slice A len c] w (Ret (.bool (Zk n l)) w) := by
 have bT : l.length = len := h.len
 have q1 : ¬ (n : Int) < 1 := by omega
 have q2 : ¬ (64 : Int) < (n : Int) := by omega
 obtain ⟨J, hJ⟩ : ∃ J, (fun i => l.getD i default) = J := ⟨_, rfl⟩
 obtain ⟨fb, aV⟩ : ∃ fb, Zk n l = fb := ⟨_, rfl⟩
 have HNOT : Hid (∀ k, k < len -> ¬ FineAt n J k -> fb = false) := lh fun k hk hf => by rw [<- aV]; exact Jgk (l := l) (k := k) (by omega) (by rw [hJ]; exact hf)
 have HALL : Hid (len + 1 = n -> (∀ k, k < len -> FineAt n J k) -> fb = true) := lh fun hl hk => by rw [<- aV]; exact Je1 cG hn (by omega) (fun k h => by rw [hJ]; exact hk k (by omega))
 have HLEN : Hid (len + 1 ≠ n -> fb = false) := lh fun hl => by rw [<- aV]; exact Jc7 (by omega)
 have HJ : Hid (∀ k j, l[k]? = some j -> J k = j) := lh fun k j hj => by
  rw [<- hJ]
  show l.getD k default = j
  rw [List.getD_eq_getElem?_getD, hj]
  rfl
 have HBD : Hid (∀ k, -1000 <= (J k).size /\ (J k).size <= 1000) := lh fun k => by
  rcases Nat.lt_or_ge k l.length with hk | hk
  ·have e : l[k]? = some l[k] := List.getElem?_eq_getElem hk
   rw [HJ.out k _ e]
   exact (hb _ (List.mem_of_getElem? e)).size
  rw [<- hJ]
  show -1000 <= (l.getD k default).size /\ (l.getD k default).size <= 1000
  rw [List.getD_eq_getElem?_getD, List.getElem?_eq_none hk]
  exact ⟨by decide, by decide⟩
 rw [aV]
 have H := lh h
 have HB := lh hb
 have HLL := lh bT
 clear h hb aV bT hJ
 obtain ⟨m2, aW⟩ : ∃ m2, 2 * n = m2 := ⟨_, rfl⟩
 have k2 : (2 : Int) * (n : Int) = (m2 : Int) := by omega
 have w2 : IntKind.i64.wrap (m2 : Int) = (m2 : Int) := IntWalk.i64_in _ (by omega)
 go_enter Tryz.func46, Tryz.ntmps46
 by_cases hl : len + 1 = n
 ·have k1 : (n : Int) - 1 = (len : Int) := by omega
  obtain ⟨w1, bB, bC, bU⟩ := Jap (P := Tryz.prog) zi 0 22 3 8 (Tryz.eltIntR).under (Tryz.eltIntR).info rfl m2 m2 zd (by omega) (by unfold maxLen; omega) w
  obtain ⟨gs, bV⟩ : ∃ gs, w.heap.size = gs := ⟨_, rfl⟩
  have aN : w.heap.size <= gs := by omega
  rw [<- aW, <- Jk4 n, aW] at bC
  rw [bV] at bB bC
  have HO1 := lh bC
  have HB1 := lh bU
  clear bC bU bV
  go_wp2_with fail
  clear bB
  go_loopw [6] (fun p wr => ∃ i : Nat, i <= n /\ p = .int .i64 (i : Int) /\ Own wr 3 zi (.slice (some ⟨gs, 0, none⟩) m2 m2) (Jav n i) /\ Below w.heap.size w wr) (fun p _ => n - (intOf p).toNat)
  case atStart => exact ⟨0, by omega, rfl, HO1.out, HB1.out⟩
  case round =>
   obtain ⟨i, hi, rfl, ho, aL⟩ := hrel
   rename World => wr
   clear HO1 HB1
   by_cases cO : i < n
   ·have q4 : (i : Int) < (n : Int) := by omega
    have q5 : (i : Int) < (m2 : Int) := by omega
    have bD := ho.putc i (1 : Int)
    have cP := ho.frozenc i
    have cI := Own.cellf (by rw [Jnt, aW]; exact ho) (Jpu (n := n) (i := i) (by omega))
    rw [Jns (by omega)] at bD
    unfold zi at bD cI
    have HST := lh bD
    have HBW := lh aL
    clear ho aL bD
    go_wp2
    exact ⟨⟨i + 1, by omega, by go_num, HST.out, HBW.out.setCell aN _⟩, by simp [intOf]; omega⟩
   obtain rfl : i = n := by omega
   have q4 : ¬ (i : Int) < (i : Int) := by omega
   rw [Jnu i J] at ho
   have HO := lh ho
   have HBW := lh aL
   clear ho aL
   go_wp2_with fail
   go_loopw [7] (fun p wr => ∃ k : Nat, k <= len /\ p = .int .i64 ((k : Nat) : Int) /\ Hid (∀ m, m < k -> FineAt i J m) /\ Own wr 3 zi (.slice (some ⟨gs, 0, none⟩) m2 m2) (Jak i J k) /\ Below w.heap.size w wr) (fun p _ => len - (intOf p).toNat)
   case atStart => exact ⟨0, by omega, rfl, lh fun m hm => absurd hm (by omega), HO.out, HBW.out⟩
   case round =>
    obtain ⟨k, hk, rfl, aR, ho, aL⟩ := hrel
    rename World => wa
    clear HO HBW q4
    by_cases cJ : k < len
    ·have q5 : (k : Int) < (len : Int) := by omega
     obtain ⟨j, hj⟩ : ∃ j, l[k]? = some j := ⟨_, List.getElem?_eq_getElem (by have := HLL.out; omega)⟩
     have bW := HJ.out k j hj
     have bE := HB.out j (List.mem_of_getElem? hj)
     have hR := H.out.below (aL.mono hB)
     obtain ⟨ad, g1, o1, r, rfl, hP, cQ, bX, aX⟩ := hR.at_ hj
     have bL : B <= wa.heap.size := nt hB aL.size
     have cR := ho.lt gs rfl
     obtain ⟨ja, jb, js, ⟨rg, rA, rl, rc, rA', rl', rc'⟩⟩ := r
     obtain ⟨xa, xb, xs, xq⟩ := j
     obtain rfl : ja = xa := aX.a
     obtain rfl : jb = xb := aX.b
     obtain rfl : js = xs := aX.s
     have bY : IsQ wa B (.agg #[.bool rg, .slice rA rl rc, .slice rA' rl' rc']) xq := aX.q
     have s1 : -1000 <= js := bE.size.1
     have s2 : js <= 1000 := bE.size.2
     have HIQ := lh bY
     have HR := lh hR
     have HJK := lh bW
     have HJQ := lh bE.high
     have HO := lh ho
     have HBW := lh aL
     obtain ⟨x0, x1, x2, x3, x4, x5⟩ := bX.c6
     (try simp only [] at x0 x1 x2 x3 x4 x5)
     clear aX bY hR bW bE ho aL hj bX
     go_upto_region 11 with fail
     go_cut [8] from 39 to 42 (fun v wc => ∃ gj, v = .pointer (some ⟨gj, 0, none⟩) /\ wa.heap.size <= gj /\ Blk wc gj 111 #[.int .i64 ja, .int .i64 jb, .int .i64 js, .bool rg, .slice rA rl rc, .slice rA' rl' rc'] /\ Below wa.heap.size wa wc)
     case first =>
      go_wp2
      go_meet
      exact ⟨wa.heap.size, rfl, Nat.le_refl _, Blk.new wa _ _, Jb wa _⟩
     case rest =>
      obtain ⟨gj, rfl, cS, bM, bN⟩ := hcut
      rename World => wc
      have HBC := lh bN
      have HBW2 := lh (HBW.out.trans (bN.mono HBW.out.size))
      clear x0 x1 x2 x3 x4 x5
      obtain ⟨x0, x1, x2, x3, x4, x5⟩ := bM.c6
      have HBJ := lh bM
      clear bN bM
      obtain ⟨N, hN⟩ : ∃ N, i + k = N := ⟨_, rfl⟩
      have eN : (i : Int) + (k : Int) = (N : Int) := by omega
      have wN : IntKind.i64.wrap (N : Int) = (N : Int) := IntWalk.i64_in _ (by omega)
      have HN := lh hN
      have cT : N < m2 := by omega
      clear hN
      have aY : B <= wc.heap.size := nt hB HBW2.out.size
      go_upto_region 12 with fail
      go_cut [114] from 43 to 114 (fun v wd => Below wc.heap.size wc wd /\ ((v = .bool true /\ Hid (¬ FineAt i J k)) \/ (v = .bool false /\ Hid (FineAt i J k))))
      case first =>
       by_cases ha : ja < 0
       ·have HZ : Hid (¬ FineAt i J k) := lh fun hf => by
         have e := hf.a0
         rw [HJK.out] at e
         have e : (0 : Int) <= ja := e
         omega
        as_aux_lemma =>
         go_region
         all_goals
          go_wp2
          go_meet
          exact ⟨by first | exact Jf _ | exact Below.refl _ _, .inl ⟨rfl, HZ⟩⟩
       obtain ⟨a1, rfl⟩ : ∃ a1 : Nat, ja = (a1 : Int) := ⟨ja.toNat, by omega⟩
       by_cases cU : jb <= (a1 : Int)
       ·have HZ : Hid (¬ FineAt i J k) := lh fun hf => by
         have e := hf.ab
         rw [HJK.out] at e
         have e : (a1 : Int) < jb := e
         omega
        have e1 : ¬ (a1 : Int) < jb := by omega
        as_aux_lemma =>
         go_region
         all_goals
          go_wp2
          go_meet
          exact ⟨by first | exact Jf _ | exact Below.refl _ _, .inl ⟨rfl, HZ⟩⟩
       obtain ⟨b1, rfl⟩ : ∃ b1 : Nat, jb = (b1 : Int) := ⟨jb.toNat, by omega⟩
       have e1 : (a1 : Int) < (b1 : Int) := by omega
       by_cases cV : N <= b1
       ·have HZ : Hid (¬ FineAt i J k) := lh fun hf => by
         have e := hf.bn
         rw [HJK.out, HN.out] at e
         have e : (b1 : Int) < (N : Int) := e
         omega
        have e2 : (N : Int) <= (b1 : Int) := by omega
        as_aux_lemma =>
         go_region
         all_goals
          go_wp2
          go_meet
          exact ⟨by first | exact Jf _ | exact Below.refl _ _, .inl ⟨rfl, HZ⟩⟩
       have e2 : ¬ (N : Int) <= (b1 : Int) := by omega
       have e4 : (a1 : Int) < (m2 : Int) := by omega
       have e5 : (b1 : Int) < (m2 : Int) := by omega
       have y8 := Ks i J k
       rw [aW] at y8
       have aK := HO.out.below HBC.out HO.out.lt
       have y1 := Own.cellf (by rw [y8]; exact aK) (Yq (n := i) (k := k) (i := a1) (J := J) (by omega))
       have y2 := Own.cellf (by rw [y8]; exact aK) (Yq (n := i) (k := k) (i := b1) (J := J) (by omega))
       unfold zi at y1 y2
       have bF : ∀ {za zb}, Zh i J k a1 = za -> Zh i J k b1 = zb -> FineAt i J k -> za ≠ 0 /\ zb ≠ 0 /\ js = za + zb /\ Jat J k <= xq := fun {za zb} h1 h2 hf => by
        have f1 := hf.sa
        have f2 := hf.sb
        have f3 := hf.size
        have f4 := hf.high
        rw [HJK.out] at f1 f2 f3 f4
        simp only [Int.toNat_natCast] at f1 f2 f3
        rw [h1] at f1 f3
        rw [h2] at f2 f3
        exact ⟨f1, f2, f3, f4⟩
       have bG : ∀ {za zb}, Zh i J k a1 = za -> Zh i J k b1 = zb -> za ≠ 0 -> zb ≠ 0 -> js = za + zb -> Jat J k <= xq -> FineAt i J k := fun {za zb} h1 h2 g1 g2 g3 g4 => by
        refine ⟨?_, ?_, ?_, ?_, ?_, ?_, ?_⟩ <;> rw [HJK.out]
        ·show (0 : Int) <= (a1 : Int)
         omega
        ·exact e1
        ·rw [HN.out]
         show (b1 : Int) < (N : Int)
         omega
        ·simp only [Int.toNat_natCast]; rw [h1]; exact g1
        ·simp only [Int.toNat_natCast]; rw [h2]; exact g2
        ·simp only [Int.toNat_natCast]; rw [h1, h2]; exact g3
        exact g4
       have z1 := Jd5 HBD.out (n := i) k a1
       have z2 := Jd5 HBD.out (n := i) k b1
       obtain ⟨za, bH⟩ : ∃ z, Zh i J k a1 = z := ⟨_, rfl⟩
       obtain ⟨zb, bI⟩ : ∃ z, Zh i J k b1 = z := ⟨_, rfl⟩
       have bF := bF bH bI
       have bG := bG bH bI
       rw [bH] at y1 z1
       rw [bI] at y2 z2
       have HFS := lh bF
       have HFI := lh bG
       obtain ⟨z1, z1'⟩ := z1
       obtain ⟨z2, z2'⟩ := z2
       clear bF bG y8 aK bH bI
       by_cases aS : za = 0
       ·have HZ : Hid (¬ FineAt i J k) := lh fun hf => (HFS.out hf).1 aS
        have f1 : (za == 0) = true := by simp [aS]
        clear aS
        as_aux_lemma =>
         go_region
         all_goals
          go_wp2
          go_meet
          exact ⟨by first | exact Jf _ | exact Below.refl _ _, .inl ⟨rfl, HZ⟩⟩
       have f1 : (za == 0) = false := by simp [aS]
       by_cases aT : zb = 0
       ·have HZ : Hid (¬ FineAt i J k) := lh fun hf => (HFS.out hf).2.1 aT
        have f2 : (zb == 0) = true := by simp [aT]
        clear aT
        as_aux_lemma =>
         go_region
         all_goals
          go_wp2
          go_meet
          exact ⟨by first | exact Jf _ | exact Below.refl _ _, .inl ⟨rfl, HZ⟩⟩
       have f2 : (zb == 0) = false := by simp [aT]
       have ws : IntKind.i64.wrap (za + zb) = za + zb := IntWalk.i64_in _ (by omega)
       by_cases hs : js = za + zb
       case neg =>
        have HZ : Hid (¬ FineAt i J k) := lh fun hf => hs (HFS.out hf).2.2.1
        have f3 : (js == za + zb) = false := by simp; omega
        have f4 : (js != za + zb) = true := by simp; omega
        as_aux_lemma =>
         go_region
         all_goals
          go_wp2
          go_meet
          exact ⟨by first | exact Jf _ | exact Below.refl _ _, .inl ⟨rfl, HZ⟩⟩
       have f3 : (js == za + zb) = true := by simp; omega
       have f4 : (js != za + zb) = false := by simp; omega
       have HFI := lh (HFI.out aS aT hs)
       have HFS := lh (fun hf => (HFS.out hf).2.2.2)
       have HS := lh hs
       clear aS aT hs
       have bZ := fun w' (hb : Below wc.heap.size wc w') => Jox xq B _ w' ((HIQ.out.below (HBC.out.mono bL)).below (hb.mono aY)) (nt aY hb.size)
       have cA := Jim xq
       generalize xq.num.sign = sg at *
       have HSG := lh bZ
       have HSN := lh cA
       have c0 := HBJ.out
       have c1 := At1.mk' y1
       have c2 := At1.mk' y2
       clear bZ cA x0 x1 x2 x3 x4 x5 y1 y2
       by_cases aO : sg < 0
       ·as_aux_lemma =>
         have HZ : Hid (¬ FineAt i J k) := lh fun hf => by
          have h1 := HFS.out hf
          have h2 := Jnp (n := i) k aR.out
          exact absurd (HSN.out.1 aO) (Rat.not_lt.2 (Rat.le_trans h2 h1))
         have f5 : decide (sg < 0) = true := decide_eq_true aO
         obtain ⟨j7, j8, j9, o0, o5, s9⟩ := c0.c6; have c0 := c0.drew; have aH := c0.lt; obtain ⟨t7, t8⟩ := c1.c2; have c1 := c1.drew; have aI := c1.lt; obtain ⟨x8, x9⟩ := c2.c2; have c2 := c2.drew; have aJ := c2.lt; have hc := Jf wc; refine Jbf (S := (fun w' => w'.cell? ⟨gj, 0, none⟩ = some (.int .i64 (a1 : Int)) /\ w'.cell? ⟨gj, 1, none⟩ = some (.int .i64 (b1 : Int)) /\ w'.cell? ⟨gj, 2, none⟩ = some (.int .i64 js) /\ w'.cell? ⟨gj, 3, none⟩ = some (.bool rg) /\ w'.cell? ⟨gj, 4, none⟩ = some (.slice rA rl rc) /\ w'.cell? ⟨gj, 5, none⟩ = some (.slice rA' rl' rc') /\ w'.cell? ⟨gs, a1, none⟩ = some (.int .i64 za) /\ w'.cell? ⟨gs, b1, none⟩ = some (.int .i64 zb))) (by kernel_rfl) (by first | (dsimp only; go_keep) | go_keep) (fun j6 => ?_); (iterate 53 ((first | (refine Qs (v := ?_) (by simp only [List.getElem?_toArray, List.getElem?_cons_succ, List.getElem?_cons_zero]; first | done | rfl) (by kernel_rfl) (by exact fun _ _ _ h => h) (Or.inl ⟨by rfl, ?_⟩) (by assumption) ?_; rotate_left; (focus (intro w aA; (try dsimp only at aA); go_simp; try with_reducible rfl))) | (refine Qs (v := undef) (by simp only [List.getElem?_toArray, List.getElem?_cons_succ, List.getElem?_cons_zero]; first | done | rfl) (by kernel_rfl) (by exact fun _ _ _ h => h) (Or.inr ⟨by rfl, rfl⟩) (by assumption) ?_)); (try simp only [Act.put, List.setIfInBounds_toArray, List.set_cons_zero, List.set_cons_succ, Nat.reduceAdd]))); refine Ve (by simp only [List.getElem?_toArray, List.getElem?_cons_succ, List.getElem?_cons_zero]; first | done | rfl) (by kernel_rfl) (fun K hK => ?_); go_simp; (go_at_call 56; (with_reducible refine (HSG.out _ hc).mono ?_); rintro e w1 ⟨rfl, y9⟩; (try clear j7 j8 j9 o0 o5 s9); obtain ⟨c0, j7, j8, j9, o0, o5, s9⟩ := c0.zc6 (j := .bool true) (k := .bool true) y9; (try clear aH); have aH := c0.lt; (try clear t7 t8); obtain ⟨c1, t7, t8⟩ := c1.zc2 y9; (try clear aI); have aI := c1.lt; (try clear x8 x9); obtain ⟨c2, x8, x9⟩ := c2.zc2 y9; (try clear aJ); have aJ := c2.lt; have hc := Ja hc y9); (try go_wp2_with fail); clear j6; refine hK.out _ _ (by first | (dsimp only; go_keep) | go_keep) (fun j6 => ?_); clear hK K; (try simp only [Act.put, List.setIfInBounds_toArray, List.set_cons_zero, List.set_cons_succ, Nat.reduceAdd]); (iterate 18 ((first | (refine Qs (v := ?_) (by simp only [List.getElem?_toArray, List.getElem?_cons_succ, List.getElem?_cons_zero]; first | done | rfl) (by kernel_rfl) (by exact fun _ _ _ h => h) (Or.inl ⟨by rfl, ?_⟩) (by assumption) ?_; rotate_left; (focus (intro w aA; (try dsimp only at aA); go_simp; try with_reducible rfl))) | (refine Qs (v := undef) (by simp only [List.getElem?_toArray, List.getElem?_cons_succ, List.getElem?_cons_zero]; first | done | rfl) (by kernel_rfl) (by exact fun _ _ _ h => h) (Or.inr ⟨by rfl, rfl⟩) (by assumption) ?_)); (try simp only [Act.put, List.setIfInBounds_toArray, List.set_cons_zero, List.set_cons_succ, Nat.reduceAdd]))); refine Jcj (by kernel_rfl) ?_
         go_wp2
         go_meet
         exact ⟨hc, .inl ⟨rfl, HZ⟩⟩
       have f5 : decide (sg < 0) = false := decide_eq_false aO
       have bO : Hid (0 <= xq) := lh (Rat.not_lt.1 fun h => aO (HSN.out.2 h))
       by_cases bP : k = 0
       ·as_aux_lemma =>
         have HZ : Hid (FineAt i J k) := lh (HFI.out (by rw [bP]; exact bO.out))
         have f6 : ((k : Int) > 0) = False := by simp; omega
         have f7 : decide ((0 : Int) < (k : Int)) = false := by simp; omega
         have f8 : ¬ (0 : Int) < (k : Int) := by omega
         have f10 : ¬ 0 < k := by omega
         have f11 : decide (0 < k) = false := decide_eq_false f10
         have f12 : (k == 0) = true := by simp [bP]
         clear bP
         obtain ⟨j7, j8, j9, o0, o5, s9⟩ := c0.c6; have c0 := c0.drew; have aH := c0.lt; obtain ⟨t7, t8⟩ := c1.c2; have c1 := c1.drew; have aI := c1.lt; obtain ⟨x8, x9⟩ := c2.c2; have c2 := c2.drew; have aJ := c2.lt; have hc := Jf wc; refine Jbf (S := (fun w' => w'.cell? ⟨gj, 0, none⟩ = some (.int .i64 (a1 : Int)) /\ w'.cell? ⟨gj, 1, none⟩ = some (.int .i64 (b1 : Int)) /\ w'.cell? ⟨gj, 2, none⟩ = some (.int .i64 js) /\ w'.cell? ⟨gj, 3, none⟩ = some (.bool rg) /\ w'.cell? ⟨gj, 4, none⟩ = some (.slice rA rl rc) /\ w'.cell? ⟨gj, 5, none⟩ = some (.slice rA' rl' rc') /\ w'.cell? ⟨gs, a1, none⟩ = some (.int .i64 za) /\ w'.cell? ⟨gs, b1, none⟩ = some (.int .i64 zb))) (by kernel_rfl) (by first | (dsimp only; go_keep) | go_keep) (fun j6 => ?_); (iterate 53 ((first | (refine Qs (v := ?_) (by simp only [List.getElem?_toArray, List.getElem?_cons_succ, List.getElem?_cons_zero]; first | done | rfl) (by kernel_rfl) (by exact fun _ _ _ h => h) (Or.inl ⟨by rfl, ?_⟩) (by assumption) ?_; rotate_left; (focus (intro w aA; (try dsimp only at aA); go_simp; try with_reducible rfl))) | (refine Qs (v := undef) (by simp only [List.getElem?_toArray, List.getElem?_cons_succ, List.getElem?_cons_zero]; first | done | rfl) (by kernel_rfl) (by exact fun _ _ _ h => h) (Or.inr ⟨by rfl, rfl⟩) (by assumption) ?_)); (try simp only [Act.put, List.setIfInBounds_toArray, List.set_cons_zero, List.set_cons_succ, Nat.reduceAdd]))); refine Ve (by simp only [List.getElem?_toArray, List.getElem?_cons_succ, List.getElem?_cons_zero]; first | done | rfl) (by kernel_rfl) (fun K hK => ?_); go_simp; (go_at_call 56; (with_reducible refine (HSG.out _ hc).mono ?_); rintro e w1 ⟨rfl, y9⟩; (try clear j7 j8 j9 o0 o5 s9); obtain ⟨c0, j7, j8, j9, o0, o5, s9⟩ := c0.zc6 (j := .bool true) (k := .bool true) y9; (try clear aH); have aH := c0.lt; (try clear t7 t8); obtain ⟨c1, t7, t8⟩ := c1.zc2 y9; (try clear aI); have aI := c1.lt; (try clear x8 x9); obtain ⟨c2, x8, x9⟩ := c2.zc2 y9; (try clear aJ); have aJ := c2.lt; have hc := Ja hc y9); (try go_wp2_with fail); clear j6; refine hK.out _ _ (by first | (dsimp only; go_keep) | go_keep) (fun j6 => ?_); clear hK K; (try simp only [Act.put, List.setIfInBounds_toArray, List.set_cons_zero, List.set_cons_succ, Nat.reduceAdd]); (iterate 18 ((first | (refine Qs (v := ?_) (by simp only [List.getElem?_toArray, List.getElem?_cons_succ, List.getElem?_cons_zero]; first | done | rfl) (by kernel_rfl) (by exact fun _ _ _ h => h) (Or.inl ⟨by rfl, ?_⟩) (by assumption) ?_; rotate_left; (focus (intro w aA; (try dsimp only at aA); go_simp; try with_reducible rfl))) | (refine Qs (v := undef) (by simp only [List.getElem?_toArray, List.getElem?_cons_succ, List.getElem?_cons_zero]; first | done | rfl) (by kernel_rfl) (by exact fun _ _ _ h => h) (Or.inr ⟨by rfl, rfl⟩) (by assumption) ?_)); (try simp only [Act.put, List.setIfInBounds_toArray, List.set_cons_zero, List.set_cons_succ, Nat.reduceAdd]))); refine Jcj (by kernel_rfl) ?_
         go_wp2
         go_meet
         exact ⟨hc, .inr ⟨rfl, HZ⟩⟩
       obtain ⟨k', cZ⟩ : ∃ k', k - 1 = k' := ⟨_, rfl⟩
       have cB : k = k' + 1 := by omega
       have ek : (k : Int) - 1 = (k' : Int) := by omega
       have wk : IntKind.i64.wrap (k' : Int) = (k' : Int) := IntWalk.i64_in _ (by omega)
       have p3 : (k' : Int) < (len : Int) := by omega
       have f8 : (0 : Int) < (k : Int) := by omega
       have f8' : decide ((0 : Int) < (k : Int)) = true := decide_eq_true f8
       have f10 : 0 < k := by omega
       have f11 : decide (0 < k) = true := decide_eq_true f10
       have f12 : ¬ k = 0 := by omega
       obtain ⟨y, hy⟩ : ∃ y, l[k']? = some y := ⟨_, List.getElem?_eq_getElem (by have := HLL.out; omega)⟩
       obtain ⟨ad', g2, o2, ry, cK, dA, dB, c3, cC⟩ := (HR.out.below (HBC.out.mono bL)).at_ hy
       obtain rfl := Option.some.inj cK
       have cD : Jat J k = y.high := by
        rw [cB]
        show (J k').high = y.high
        rw [HJ.out k' y hy]
       have cE := (HB.out y (List.mem_of_getElem? hy)).high
       obtain ⟨ya, yb, ys, ⟨yg, yA, yl, yc, yA', yl', yc'⟩⟩ := ry
       (try simp only [] at c3)
       have aZ : IsQ wc B (.agg #[.bool yg, .slice yA yl yc, .slice yA' yl' yc']) y.high := cC.q
       have cF := fun w' (hb : Below wc.heap.size wc w') => Jcb xq y.high B _ _ w' ((HIQ.out.below (HBC.out.mono bL)).below (hb.mono aY)) (aZ.below (hb.mono aY)) (nt aY hb.size) (HJQ.out.mono (by omega)) (cE.mono (by omega))
       have bQ := Je8 y.high xq
       generalize Yw xq y.high = cv at *
       rw [<- cD] at bQ
       have HCM := lh cF
       have HLT := lh bQ
       clear cF bQ cC aZ cE hy cD cB
       by_cases bJ : cv < 0
       ·as_aux_lemma =>
         have HZ : Hid (¬ FineAt i J k) := lh fun hf => by
          exact absurd (HLT.out.1 bJ) (Rat.not_lt.2 (HFS.out hf))
         have f9 : decide (cv < 0) = true := decide_eq_true bJ
         obtain ⟨j7, j8, j9, o0, o5, s9⟩ := c0.c6; have c0 := c0.drew; have aH := c0.lt; obtain ⟨t7, t8⟩ := c1.c2; have c1 := c1.drew; have aI := c1.lt; obtain ⟨x8, x9⟩ := c2.c2; have c2 := c2.drew; have aJ := c2.lt; obtain ⟨aB, aC, aD, aE, aF, aG⟩ := c3.c6; have c3 := c3.drew; have aP := c3.lt; have hc := Jf wc; refine Jbf (S := (fun w' => w'.cell? ⟨gj, 0, none⟩ = some (.int .i64 (a1 : Int)) /\ w'.cell? ⟨gj, 1, none⟩ = some (.int .i64 (b1 : Int)) /\ w'.cell? ⟨gj, 2, none⟩ = some (.int .i64 js) /\ w'.cell? ⟨gj, 3, none⟩ = some (.bool rg) /\ w'.cell? ⟨gj, 4, none⟩ = some (.slice rA rl rc) /\ w'.cell? ⟨gj, 5, none⟩ = some (.slice rA' rl' rc') /\ w'.cell? ⟨gs, a1, none⟩ = some (.int .i64 za) /\ w'.cell? ⟨gs, b1, none⟩ = some (.int .i64 zb) /\ w'.cell? ⟨g2, o2, none⟩ = some (.int .i64 ya) /\ w'.cell? ⟨g2, o2 + 1, none⟩ = some (.int .i64 yb) /\ w'.cell? ⟨g2, o2 + 2, none⟩ = some (.int .i64 ys) /\ w'.cell? ⟨g2, o2 + 3, none⟩ = some (.bool yg) /\ w'.cell? ⟨g2, o2 + 4, none⟩ = some (.slice yA yl yc) /\ w'.cell? ⟨g2, o2 + 5, none⟩ = some (.slice yA' yl' yc'))) (by kernel_rfl) (by first | (dsimp only; go_keep) | go_keep) (fun j6 => ?_); (iterate 53 ((first | (refine Qs (v := ?_) (by simp only [List.getElem?_toArray, List.getElem?_cons_succ, List.getElem?_cons_zero]; first | done | rfl) (by kernel_rfl) (by exact fun _ _ _ h => h) (Or.inl ⟨by rfl, ?_⟩) (by assumption) ?_; rotate_left; (focus (intro w aA; (try dsimp only at aA); go_simp; try with_reducible rfl))) | (refine Qs (v := undef) (by simp only [List.getElem?_toArray, List.getElem?_cons_succ, List.getElem?_cons_zero]; first | done | rfl) (by kernel_rfl) (by exact fun _ _ _ h => h) (Or.inr ⟨by rfl, rfl⟩) (by assumption) ?_)); (try simp only [Act.put, List.setIfInBounds_toArray, List.set_cons_zero, List.set_cons_succ, Nat.reduceAdd]))); refine Ve (by simp only [List.getElem?_toArray, List.getElem?_cons_succ, List.getElem?_cons_zero]; first | done | rfl) (by kernel_rfl) (fun K hK => ?_); go_simp; (go_at_call 56; (with_reducible refine (HSG.out _ hc).mono ?_); rintro e w1 ⟨rfl, y9⟩; (try clear j7 j8 j9 o0 o5 s9); obtain ⟨c0, j7, j8, j9, o0, o5, s9⟩ := c0.zc6 (j := .bool true) (k := .bool true) y9; (try clear aH); have aH := c0.lt; (try clear t7 t8); obtain ⟨c1, t7, t8⟩ := c1.zc2 y9; (try clear aI); have aI := c1.lt; (try clear x8 x9); obtain ⟨c2, x8, x9⟩ := c2.zc2 y9; (try clear aJ); have aJ := c2.lt; (try clear aB aC aD aE aF aG); obtain ⟨c3, aB, aC, aD, aE, aF, aG⟩ := c3.zc6 y9; (try clear aP); have aP := c3.lt; have hc := Ja hc y9); (try go_wp2_with fail); clear j6; refine hK.out _ _ (by first | (dsimp only; go_keep) | go_keep) (fun j6 => ?_); clear hK K; (try simp only [Act.put, List.setIfInBounds_toArray, List.set_cons_zero, List.set_cons_succ, Nat.reduceAdd]); (iterate 14 ((first | (refine Qs (v := ?_) (by simp only [List.getElem?_toArray, List.getElem?_cons_succ, List.getElem?_cons_zero]; first | done | rfl) (by kernel_rfl) (by exact fun _ _ _ h => h) (Or.inl ⟨by rfl, ?_⟩) (by assumption) ?_; rotate_left; (focus (intro w aA; (try dsimp only at aA); go_simp; try with_reducible rfl))) | (refine Qs (v := undef) (by simp only [List.getElem?_toArray, List.getElem?_cons_succ, List.getElem?_cons_zero]; first | done | rfl) (by kernel_rfl) (by exact fun _ _ _ h => h) (Or.inr ⟨by rfl, rfl⟩) (by assumption) ?_)); (try simp only [Act.put, List.setIfInBounds_toArray, List.set_cons_zero, List.set_cons_succ, Nat.reduceAdd]))); refine Ve (by simp only [List.getElem?_toArray, List.getElem?_cons_succ, List.getElem?_cons_zero]; first | done | rfl) (by kernel_rfl) (fun K hK => ?_); go_simp; (go_at_call 57; (with_reducible refine (HCM.out _ hc).mono ?_); rintro e w2 ⟨rfl, aM⟩; (try clear j7 j8 j9 o0 o5 s9); obtain ⟨c0, j7, j8, j9, o0, o5, s9⟩ := c0.zc6 (j := .bool true) (k := .bool true) aM; (try clear aH); have aH := c0.lt; (try clear t7 t8); obtain ⟨c1, t7, t8⟩ := c1.zc2 aM; (try clear aI); have aI := c1.lt; (try clear x8 x9); obtain ⟨c2, x8, x9⟩ := c2.zc2 aM; (try clear aJ); have aJ := c2.lt; (try clear aB aC aD aE aF aG); obtain ⟨c3, aB, aC, aD, aE, aF, aG⟩ := c3.zc6 aM; (try clear aP); have aP := c3.lt; have hc := Ja hc aM); (try go_wp2_with fail); clear j6; refine hK.out _ _ (by first | (dsimp only; go_keep) | go_keep) (fun j6 => ?_); clear hK K; (try simp only [Act.put, List.setIfInBounds_toArray, List.set_cons_zero, List.set_cons_succ, Nat.reduceAdd]); (iterate 3 ((first | (refine Qs (v := ?_) (by simp only [List.getElem?_toArray, List.getElem?_cons_succ, List.getElem?_cons_zero]; first | done | rfl) (by kernel_rfl) (by exact fun _ _ _ h => h) (Or.inl ⟨by rfl, ?_⟩) (by assumption) ?_; rotate_left; (focus (intro w aA; (try dsimp only at aA); go_simp; try with_reducible rfl))) | (refine Qs (v := undef) (by simp only [List.getElem?_toArray, List.getElem?_cons_succ, List.getElem?_cons_zero]; first | done | rfl) (by kernel_rfl) (by exact fun _ _ _ h => h) (Or.inr ⟨by rfl, rfl⟩) (by assumption) ?_)); (try simp only [Act.put, List.setIfInBounds_toArray, List.set_cons_zero, List.set_cons_succ, Nat.reduceAdd]))); refine Jcj (by kernel_rfl) ?_
         go_wp2
         go_meet
         exact ⟨hc, .inl ⟨rfl, HZ⟩⟩
       as_aux_lemma =>
        have HZ : Hid (FineAt i J k) := lh (HFI.out (Rat.not_lt.1 fun h => bJ (HLT.out.2 h)))
        have f9 : decide (cv < 0) = false := decide_eq_false bJ
        obtain ⟨j7, j8, j9, o0, o5, s9⟩ := c0.c6; have c0 := c0.drew; have aH := c0.lt; obtain ⟨t7, t8⟩ := c1.c2; have c1 := c1.drew; have aI := c1.lt; obtain ⟨x8, x9⟩ := c2.c2; have c2 := c2.drew; have aJ := c2.lt; obtain ⟨aB, aC, aD, aE, aF, aG⟩ := c3.c6; have c3 := c3.drew; have aP := c3.lt; have hc := Jf wc; refine Jbf (S := (fun w' => w'.cell? ⟨gj, 0, none⟩ = some (.int .i64 (a1 : Int)) /\ w'.cell? ⟨gj, 1, none⟩ = some (.int .i64 (b1 : Int)) /\ w'.cell? ⟨gj, 2, none⟩ = some (.int .i64 js) /\ w'.cell? ⟨gj, 3, none⟩ = some (.bool rg) /\ w'.cell? ⟨gj, 4, none⟩ = some (.slice rA rl rc) /\ w'.cell? ⟨gj, 5, none⟩ = some (.slice rA' rl' rc') /\ w'.cell? ⟨gs, a1, none⟩ = some (.int .i64 za) /\ w'.cell? ⟨gs, b1, none⟩ = some (.int .i64 zb) /\ w'.cell? ⟨g2, o2, none⟩ = some (.int .i64 ya) /\ w'.cell? ⟨g2, o2 + 1, none⟩ = some (.int .i64 yb) /\ w'.cell? ⟨g2, o2 + 2, none⟩ = some (.int .i64 ys) /\ w'.cell? ⟨g2, o2 + 3, none⟩ = some (.bool yg) /\ w'.cell? ⟨g2, o2 + 4, none⟩ = some (.slice yA yl yc) /\ w'.cell? ⟨g2, o2 + 5, none⟩ = some (.slice yA' yl' yc'))) (by kernel_rfl) (by first | (dsimp only; go_keep) | go_keep) (fun j6 => ?_); (iterate 53 ((first | (refine Qs (v := ?_) (by simp only [List.getElem?_toArray, List.getElem?_cons_succ, List.getElem?_cons_zero]; first | done | rfl) (by kernel_rfl) (by exact fun _ _ _ h => h) (Or.inl ⟨by rfl, ?_⟩) (by assumption) ?_; rotate_left; (focus (intro w aA; (try dsimp only at aA); go_simp; try with_reducible rfl))) | (refine Qs (v := undef) (by simp only [List.getElem?_toArray, List.getElem?_cons_succ, List.getElem?_cons_zero]; first | done | rfl) (by kernel_rfl) (by exact fun _ _ _ h => h) (Or.inr ⟨by rfl, rfl⟩) (by assumption) ?_)); (try simp only [Act.put, List.setIfInBounds_toArray, List.set_cons_zero, List.set_cons_succ, Nat.reduceAdd]))); refine Ve (by simp only [List.getElem?_toArray, List.getElem?_cons_succ, List.getElem?_cons_zero]; first | done | rfl) (by kernel_rfl) (fun K hK => ?_); go_simp; (go_at_call 56; (with_reducible refine (HSG.out _ hc).mono ?_); rintro e w1 ⟨rfl, y9⟩; (try clear j7 j8 j9 o0 o5 s9); obtain ⟨c0, j7, j8, j9, o0, o5, s9⟩ := c0.zc6 (j := .bool true) (k := .bool true) y9; (try clear aH); have aH := c0.lt; (try clear t7 t8); obtain ⟨c1, t7, t8⟩ := c1.zc2 y9; (try clear aI); have aI := c1.lt; (try clear x8 x9); obtain ⟨c2, x8, x9⟩ := c2.zc2 y9; (try clear aJ); have aJ := c2.lt; (try clear aB aC aD aE aF aG); obtain ⟨c3, aB, aC, aD, aE, aF, aG⟩ := c3.zc6 y9; (try clear aP); have aP := c3.lt; have hc := Ja hc y9); (try go_wp2_with fail); clear j6; refine hK.out _ _ (by first | (dsimp only; go_keep) | go_keep) (fun j6 => ?_); clear hK K; (try simp only [Act.put, List.setIfInBounds_toArray, List.set_cons_zero, List.set_cons_succ, Nat.reduceAdd]); (iterate 14 ((first | (refine Qs (v := ?_) (by simp only [List.getElem?_toArray, List.getElem?_cons_succ, List.getElem?_cons_zero]; first | done | rfl) (by kernel_rfl) (by exact fun _ _ _ h => h) (Or.inl ⟨by rfl, ?_⟩) (by assumption) ?_; rotate_left; (focus (intro w aA; (try dsimp only at aA); go_simp; try with_reducible rfl))) | (refine Qs (v := undef) (by simp only [List.getElem?_toArray, List.getElem?_cons_succ, List.getElem?_cons_zero]; first | done | rfl) (by kernel_rfl) (by exact fun _ _ _ h => h) (Or.inr ⟨by rfl, rfl⟩) (by assumption) ?_)); (try simp only [Act.put, List.setIfInBounds_toArray, List.set_cons_zero, List.set_cons_succ, Nat.reduceAdd]))); refine Ve (by simp only [List.getElem?_toArray, List.getElem?_cons_succ, List.getElem?_cons_zero]; first | done | rfl) (by kernel_rfl) (fun K hK => ?_); go_simp; (go_at_call 57; (with_reducible refine (HCM.out _ hc).mono ?_); rintro e w2 ⟨rfl, aM⟩; (try clear j7 j8 j9 o0 o5 s9); obtain ⟨c0, j7, j8, j9, o0, o5, s9⟩ := c0.zc6 (j := .bool true) (k := .bool true) aM; (try clear aH); have aH := c0.lt; (try clear t7 t8); obtain ⟨c1, t7, t8⟩ := c1.zc2 aM; (try clear aI); have aI := c1.lt; (try clear x8 x9); obtain ⟨c2, x8, x9⟩ := c2.zc2 aM; (try clear aJ); have aJ := c2.lt; (try clear aB aC aD aE aF aG); obtain ⟨c3, aB, aC, aD, aE, aF, aG⟩ := c3.zc6 aM; (try clear aP); have aP := c3.lt; have hc := Ja hc aM); (try go_wp2_with fail); clear j6; refine hK.out _ _ (by first | (dsimp only; go_keep) | go_keep) (fun j6 => ?_); clear hK K; (try simp only [Act.put, List.setIfInBounds_toArray, List.set_cons_zero, List.set_cons_succ, Nat.reduceAdd]); (iterate 3 ((first | (refine Qs (v := ?_) (by simp only [List.getElem?_toArray, List.getElem?_cons_succ, List.getElem?_cons_zero]; first | done | rfl) (by kernel_rfl) (by exact fun _ _ _ h => h) (Or.inl ⟨by rfl, ?_⟩) (by assumption) ?_; rotate_left; (focus (intro w aA; (try dsimp only at aA); go_simp; try with_reducible rfl))) | (refine Qs (v := undef) (by simp only [List.getElem?_toArray, List.getElem?_cons_succ, List.getElem?_cons_zero]; first | done | rfl) (by kernel_rfl) (by exact fun _ _ _ h => h) (Or.inr ⟨by rfl, rfl⟩) (by assumption) ?_)); (try simp only [Act.put, List.setIfInBounds_toArray, List.set_cons_zero, List.set_cons_succ, Nat.reduceAdd]))); refine Jcj (by kernel_rfl) ?_
        go_wp2
        go_meet
        exact ⟨hc, .inr ⟨rfl, HZ⟩⟩
      case rest =>
      obtain ⟨aU, bA⟩ := hcut
      rename World => wd
      have HBD' := lh aU
      have HBW3 := lh (HBW2.out.trans (aU.mono HBW2.out.size))
      clear x0 x1 x2 x3 x4 x5
      rcases bA with ⟨rfl, cL⟩ | ⟨rfl, aQ⟩
      ·have HZ := lh (HNOT.out k cJ cL.out)
       clear aU
       go_wp2
       go_returns
       exact ⟨by rw [HZ.out]; rfl, HBW3.out⟩
      have e0 : (0 : Int) <= ja := by have e := aQ.out.a0; rw [HJK.out] at e; exact e
      have e1 : ja < jb := by have e := aQ.out.ab; rw [HJK.out] at e; exact e
      have e2 : jb < (N : Int) := by have e := aQ.out.bn; rw [HJK.out, HN.out] at e; exact e
      obtain ⟨a1, rfl⟩ : ∃ a1 : Nat, ja = (a1 : Int) := ⟨ja.toNat, by omega⟩
      obtain ⟨b1, rfl⟩ : ∃ b1 : Nat, jb = (b1 : Int) := ⟨jb.toNat, by omega⟩
      have e4 : (a1 : Int) < (m2 : Int) := by omega
      have e5 : (b1 : Int) < (m2 : Int) := by omega
      have e6 : (N : Int) < (m2 : Int) := by omega
      have aK := (HO.out.below HBC.out HO.out.lt).below (aU.mono HBC.out.size) HO.out.lt
      have bR := Jil (n := i) (k := k) (A := a1) (B := b1) (J := J) (by rw [HJK.out]) (by rw [HJK.out]) (by omega) (by omega) (by omega)
      rw [HJK.out, HN.out] at bR
      have y8 := Ks i J k
      rw [aW] at y8
      have y0 := Own.cellf (by rw [y8]; exact aK) (Yq (n := i) (k := k) (i := N) (J := J) (by omega))
      have y1 := Own.cellf (by rw [y8]; exact aK) (Yq (n := i) (k := k) (i := a1) (J := J) (by omega))
      have y2 := Own.cellf (by rw [y8]; exact aK) (Yq (n := i) (k := k) (i := b1) (J := J) (by omega))
      unfold zi at y0 y1 y2
      have z0 := aK.frozenc N
      have z1 := aK.frozenc a1
      have z2 := aK.frozenc b1
      have bK := ((aK.putc N js).putc a1 0).putc b1 0
      rw [bR] at bK
      unfold zi at bK
      have HP3 := lh bK
      have c0 := HBJ.out.below aU HBJ.out.lt
      obtain ⟨x0, x1, x2, x3, x4, x5⟩ := c0.c6
      have n1 : ¬ gs = gj := by omega
      have n2 : ¬ gj = gs := by omega
      have n3 : ¬ N = a1 := by omega
      have n4 : ¬ a1 = N := by omega
      have n5 : ¬ N = b1 := by omega
      have n6 : ¬ b1 = N := by omega
      have n7 : ¬ a1 = b1 := by omega
      have n8 : ¬ b1 = a1 := by omega
      have HALL2 : Hid (∀ m, m < k + 1 -> FineAt i J m) := lh fun m hm => by
       by_cases bB : m = k
       ·subst bB
        exact aQ.out
       exact aR.out m (by omega)
      clear aK bR y8 bK aU
      go_wp2
      exact ⟨⟨k + 1, by omega, by go_num, HALL2, HP3.out, ((HBW3.out.setCell aN _).setCell aN _).setCell aN _⟩, by simp [intOf]; omega⟩
    obtain rfl : k = len := by omega
    have q5 : ¬ (k : Int) < (k : Int) := by omega
    have HZ := lh (HALL.out hl aR.out)
    have HBW := lh aL
    clear ho aL
    go_wp2
    go_returns
    exact ⟨by rw [HZ.out]; rfl, HBW.out⟩
 have e1 : ¬ (len : Int) = (n : Int) - 1 := by omega
 have e2 : ((len : Int) == (n : Int) - 1) = false := by simp; omega
 have e3 : ((len : Int) != (n : Int) - 1) = true := by simp; omega
 go_wp2
 go_returns
 exact ⟨by rw [HLEN.out hl]; rfl, Below.refl _ _⟩
