import Derived.Test.YtacbcaebaomglaaGreatDoorMeanK
namespace Go.Proofs.YtacbcaebaomglaaGreatDoor
set_option maxRecDepth 100000
set_option maxHeartbeats 8000000
open Go.RowKit
set_option linter.all false
theorem Yz (A : Option Addr) (n c B wd : Nat) (x : List (List Rat)) (w : World) (h : Zx w B A n x) (hB : B <= w.heap.size) (hn : n <= 300) (hwd : 1 <= wd) (dW : wd <= 20) (hw : ∀ l ∈ x, l.length = wd) :
  Calls Tryz.prog 19 #[.slice A n c] w (Ret (.int .i64 (if 1 <= n /\ n <= 12 then 0 else 5)) w) := by
 have aA := h.len
 have HR := lh (Jfe A n c B wd x w h hB (by omega) hwd hw)
 have H := lh h
 obtain ⟨R, hR⟩ : ∃ R : Int, (if 1 <= n /\ n <= 12 then 0 else 5) = R := ⟨_, rfl⟩
 rw [hR]
 have HRE := lh hR
 clear h hR
 go_enter Tryz.func19, Tryz.ntmps19
 by_cases h1 : 12 < n
 ·have k1 : (12 : Int) < (n : Int) := by omega
  have HE := lh (show R = 5 by rw [<- HRE.out, if_neg (by omega)])
  go_wp2
  go_ret
  exact ⟨by rw [HE.out]; rfl, Below.refl _ _⟩
 have k1 : ¬ (12 : Int) < (n : Int) := by omega
 by_cases h2 : 1 <= n
 ·have p2 : decide (1 <= n) = true := decide_eq_true h2
  rw [p2] at HR
  have HE := lh (show R = 0 by rw [<- HRE.out, if_pos ⟨h2, by omega⟩])
  obtain ⟨l0, aH⟩ : ∃ l, x[0]? = some l := ⟨_, List.getElem?_eq_getElem (by omega)⟩
  obtain ⟨ad, A0, m0, c0, rfl, bL, cB, cW⟩ := H.out.at_ aH
  rw [Addr.add_zero'] at cB
  obtain rfl : m0 = wd := by rw [<- cW.len]; exact hw l0 (List.mem_of_getElem? aH)
  have k2 : ¬ (20 : Int) < (m0 : Int) := by omega
  have k3 : (0 : Int) < (n : Int) := by omega
  have HC0 := lh (And.intro cB bL)
  clear cW aH bL cB HRE p2
  go_wp2_with fail
  refine HR.out.mono ?_
  rintro e w1 ⟨rfl, e8⟩
  have s9 := e8.cell (p := ad) (Nat.lt_of_lt_of_le HC0.out.2 hB)
  rw [HC0.out.1] at s9
  have HB1 := lh e8
  clear e8
  go_wp2
  go_ret
  exact ⟨by rw [HE.out]; rfl, HB1.out⟩
 have p2 : decide (1 <= n) = false := decide_eq_false h2
 rw [p2] at HR
 have HE := lh (show R = 5 by rw [<- HRE.out, if_neg (by omega)])
 clear HRE p2
 go_wp2_with fail
 refine HR.out.mono ?_
 rintro e w1 ⟨rfl, e8⟩
 have HB1 := lh e8
 clear e8
 go_wp2
 go_ret
 exact ⟨by rw [HE.out]; rfl, HB1.out⟩
theorem Ji9 (f : List (List Rat)) (x : List Rat) : Zi f x 1 = 0 := by
 show (if _ then 0 else Zi f x 0) = 0
 split <;> rfl
theorem Jcv (A A' : Option Addr) (n c wd c' B m : Nat) (f : List (List Rat)) (x : List Rat) (w : World) (h : Zx w B A n f) (h' : ReadsR w B A' wd x) (hB : B <= w.heap.size) (hn : 1 <= n) (hn2 : n <= 300) (hwd : wd <= 20) (hl : ∀ l ∈ f, l.length = wd) (hm : 1 <= m) (hm2 : m <= 1000000) (hs : ∀ l ∈ f, ∀ y ∈ l, QS m y) (hx : ∀ y ∈ x, QS m y) :
  Calls Tryz.prog 41 #[.slice A n c, .slice A' wd c'] w fun e w' => ∃ V, e = .returned (.tuple #[.int .i64 (Qk f x : Int), V]) /\ IsQ w' w'.heap.size V (Xs f x) /\ Below w.heap.size w w' := by
 have aA := h.len
 have HFAR : Hid (∀ (w' : World) (A1 : Option Addr) (c1 : Nat) (l : List Rat), Below w.heap.size w w' -> ReadsR w B A1 wd l -> l ∈ f -> Calls Tryz.prog 90 #[.slice A1 wd c1, .slice A' wd c'] w' (Jak (Xk l x) w')) :=
  lh fun w' A1 c1 l hb hr hlf => Jnf A1 A' wd c1 c' B m l x w' (hr.below (hb.mono hB)) (h'.below (hb.mono hB)) (nt hB hb.size) (by omega) hm (by omega) (hs l hlf) hx
 have HSZ : Hid (∀ l ∈ f, QS 200000000 (Xk l x)) := lh fun l hlf => by
  have := Yq (hs l hlf) hx hm l.length
  refine QS.mono (show QS _ (Xk l x) from this) ?_
  have h1 := hl l hlf
  have := Nat.mul_le_mul (show l.length <= 20 by omega) (show 4 * m + 3 <= 4000003 by omega)
  omega
 have H := lh h
 have HL := lh hl
 have HBB := lh hB
 clear h h' hs hx hl hB
 obtain ⟨b0, hB, hZ⟩ := bx1 w 56 #[.bool false, .slice none 0 0, .slice none 0 0]
 go_enter Tryz.func41, Tryz.ntmps41
 go_upto_region 1 with fail
 generalize (w.alloc (.cells #[.bool false, .slice none 0 0, .slice none 0 0] 56)) = W at *
 have HI := lh (And.intro b0 hB)
 clear b0 hB hZ
 go_wp2_with fail
 go_loopw [6, 7] (fun v p wr => ∃ (k i : Nat), 1 <= k /\ k <= n /\ i < n /\ v = .int .i64 (i : Int) /\ p = .int .i64 (k : Int) /\ Hid (Zi f x k = i) /\ Blk wr w.heap.size 56 #[.bool false, .slice none 0 0, .slice none 0 0] /\ Below w.heap.size w wr) (fun _ p _ => n - (intOf p).toNat)
 case atStart => exact ⟨1, 0, by omega, hn, by omega, rfl, rfl, lh (Ji9 f x), HI.out.1, HI.out.2⟩
 case round =>
  obtain ⟨k, i, bM, hk, hi, rfl, rfl, aI, c0, o6⟩ := hrel
  clear HI
  rename World => wr
  have eD : B <= wr.heap.size := nt HBB.out o6.size
  by_cases bE : k < n
  ·have k1 : (k : Int) < (n : Int) := by omega
   have k2 : (i : Int) < (n : Int) := by omega
   obtain ⟨l, bF⟩ : ∃ l, f[k]? = some l := ⟨_, List.getElem?_eq_getElem (by omega)⟩
   obtain ⟨l', y9⟩ : ∃ l, f[i]? = some l := ⟨_, List.getElem?_eq_getElem (by omega)⟩
   obtain ⟨ad, A1, m1, d1, rfl, cC, s9, p8⟩ := H.out.at_ bF
   obtain ⟨ad2, A2, m2, d2, dX, o7, t7, t8⟩ := H.out.at_ y9
   obtain rfl := Option.some.inj dX
   obtain rfl : m1 = wd := by rw [<- p8.len]; exact HL.out l (List.mem_of_getElem? bF)
   obtain rfl : m2 = m1 := by rw [<- t8.len]; exact HL.out l' (List.mem_of_getElem? y9)
   have p9 := Xq (o6.mono HBB.out) s9 cC
   have x7 := Xq (o6.mono HBB.out) t7 o7
   obtain ⟨g1, o1, dY, -⟩ := Xy p9
   obtain ⟨g2, o2, dZ, -⟩ := Xy x7
   rw [dY] at p9
   rw [dZ] at x7
   have b1 := At1.mk' p9
   have b2 := At1.mk' x7
   have cZ := fun w' (hb : Below wr.heap.size wr w') => HFAR.out w' A1 d1 l (o6.trans (hb.mono o6.size)) p8 (List.mem_of_getElem? bF)
   have bG := fun w' (hb : Below wr.heap.size wr w') => HFAR.out w' A2 d2 l' (o6.trans (hb.mono o6.size)) t8 (List.mem_of_getElem? y9)
   have s1 := HSZ.out l (List.mem_of_getElem? bF)
   have s2 := HSZ.out l' (List.mem_of_getElem? y9)
   have dA : f.getD k [] = l := by rw [List.getD_eq_getElem?_getD, bF]; rfl
   have hid : f.getD i [] = l' := by rw [List.getD_eq_getElem?_getD, y9]; rfl
   have bN : Zi f x (k + 1) = if Xk l x < Xk l' x then k else i := by
    show (if Xk (f.getD k []) x < Xk (f.getD (Zi f x k) []) x then k else Zi f x k) = _
    rw [aI.out, dA, hid]
   have bW := Jii (Xk l x) (Xk l' x)
   have bO := fun (w' : World) (V1 V2 : Value) (h1 : IsQ w' w'.heap.size V1 (Xk l x)) (h2 : IsQ w' w'.heap.size V2 (Xk l' x)) => Jhs (Xk l x) (Xk l' x) _ V1 V2 w' h1 h2 zd (s1.mono (by omega)) (s2.mono (by omega))
   generalize Xk l x = q1 at *
   generalize Xk l' x = q2 at *
   generalize Vq q1 q2 = r at *
   have HF1 := lh cZ
   have HF2 := lh bG
   have HCM := lh bO
   have HN := lh bN
   have HBW := lh o6
   have HC := lh c0
   clear cZ bG bO bN o6 c0 dA hid s1 s2 bF y9 p8 t8 s9 t7 p9 x7 aI
   go_upto_region 5 with fail
   by_cases hr : r < 0
   ·have HN2 := lh (HN.out.trans (if_pos (bW.1 hr)))
    clear bW HN
    obtain ⟨aB, aC⟩ := b1.c2; have c1 := b1.drew; have o8 := c1.lt; obtain ⟨aP, aQ⟩ := b2.c2; have c2 := b2.drew; have j9 := c2.lt; have hc := Ji wr; go_region_held3 (fun w' => w'.cell? ⟨g1, o1, none⟩ = some (.slice A1 m2 d1) /\ w'.cell? ⟨g2, o2, none⟩ = some (.slice A2 m2 d2)) (go_keep) (first | (go_at_call 90; (with_reducible refine (HF1.out _ hc).mono ?_); rintro e w1 ⟨v1, rfl, x8, o0⟩; obtain ⟨g1, A1, l1, c1c, A1', l1', c1c', aJ⟩ := x8.shape; subst aJ; (try clear j6 j7); obtain ⟨c1, j6, j7⟩ := c1.zc2 o0; (try clear o8); have o8 := c1.lt; (try clear e9 j0); obtain ⟨c2, e9, j0⟩ := c2.zc2 o0; (try clear j9); have j9 := c2.lt; have hc := Ja hc o0) | (go_at_call 90; (with_reducible refine (HF2.out _ hc).mono ?_); rintro e w2 ⟨v2, rfl, aR, p7⟩; obtain ⟨g2, A2, l2, c2c, A2', l2', c2c', aK⟩ := aR.shape; subst aK; (try clear j6 j7); obtain ⟨c1, j6, j7⟩ := c1.zc2 p7; (try clear o8); have o8 := c1.lt; (try clear e9 j0); obtain ⟨c2, e9, j0⟩ := c2.zc2 p7; (try clear j9); have j9 := c2.lt; have x8 := (x8.next zd p7).more p7.size; have hc := Ja hc p7) | (go_at_call 89; (with_reducible refine (HCM.out _ _ _ x8 aR).mono ?_); rintro e w3 ⟨rfl, u4⟩; (try clear j6 j7); obtain ⟨c1, j6, j7⟩ := c1.zc2 u4; (try clear o8); have o8 := c1.lt; (try clear e9 j0); obtain ⟨c2, e9, j0⟩ := c2.zc2 u4; (try clear j9); have j9 := c2.lt; have x8 := (x8.next zd u4).more u4.size; have aR := (aR.next zd u4).more u4.size; have hc := Ja hc u4))
    all_goals
     go_wp2
     exact ⟨⟨k + 1, k, by omega, by omega, by omega, rfl, by go_num, HN2, HC.out.below hc HC.out.lt, HBW.out.trans (hc.mono HBW.out.size)⟩, by simp [intOf]; omega⟩
   have HN2 := lh (HN.out.trans (if_neg fun h => hr (bW.2 h)))
   clear bW HN
   obtain ⟨aB, aC⟩ := b1.c2; have c1 := b1.drew; have o8 := c1.lt; obtain ⟨aP, aQ⟩ := b2.c2; have c2 := b2.drew; have j9 := c2.lt; have hc := Ji wr; go_region_held3 (fun w' => w'.cell? ⟨g1, o1, none⟩ = some (.slice A1 m2 d1) /\ w'.cell? ⟨g2, o2, none⟩ = some (.slice A2 m2 d2)) (go_keep) (first | (go_at_call 90; (with_reducible refine (HF1.out _ hc).mono ?_); rintro e w1 ⟨v1, rfl, x8, o0⟩; obtain ⟨g1, A1, l1, c1c, A1', l1', c1c', aJ⟩ := x8.shape; subst aJ; (try clear j6 j7); obtain ⟨c1, j6, j7⟩ := c1.zc2 o0; (try clear o8); have o8 := c1.lt; (try clear e9 j0); obtain ⟨c2, e9, j0⟩ := c2.zc2 o0; (try clear j9); have j9 := c2.lt; have hc := Ja hc o0) | (go_at_call 90; (with_reducible refine (HF2.out _ hc).mono ?_); rintro e w2 ⟨v2, rfl, aR, p7⟩; obtain ⟨g2, A2, l2, c2c, A2', l2', c2c', aK⟩ := aR.shape; subst aK; (try clear j6 j7); obtain ⟨c1, j6, j7⟩ := c1.zc2 p7; (try clear o8); have o8 := c1.lt; (try clear e9 j0); obtain ⟨c2, e9, j0⟩ := c2.zc2 p7; (try clear j9); have j9 := c2.lt; have x8 := (x8.next zd p7).more p7.size; have hc := Ja hc p7) | (go_at_call 89; (with_reducible refine (HCM.out _ _ _ x8 aR).mono ?_); rintro e w3 ⟨rfl, u4⟩; (try clear j6 j7); obtain ⟨c1, j6, j7⟩ := c1.zc2 u4; (try clear o8); have o8 := c1.lt; (try clear e9 j0); obtain ⟨c2, e9, j0⟩ := c2.zc2 u4; (try clear j9); have j9 := c2.lt; have x8 := (x8.next zd u4).more u4.size; have aR := (aR.next zd u4).more u4.size; have hc := Ja hc u4))
   all_goals
    go_wp2
    exact ⟨⟨k + 1, i, by omega, by omega, by omega, rfl, by go_num, HN2, HC.out.below hc HC.out.lt, HBW.out.trans (hc.mono HBW.out.size)⟩, by simp [intOf]; omega⟩
  obtain rfl : k = n := by omega
  have k1 : ¬ (k : Int) < (k : Int) := by omega
  have k2 : (i : Int) < (k : Int) := by omega
  have cD : Qk f x = i := by unfold Qk; rw [aA]; exact aI.out
  obtain ⟨l', y9⟩ : ∃ l, f[i]? = some l := ⟨_, List.getElem?_eq_getElem (by omega)⟩
  obtain ⟨ad, A2, m2, d2, rfl, o7, t7, t8⟩ := H.out.at_ y9
  obtain rfl : m2 = wd := by rw [<- t8.len]; exact HL.out l' (List.mem_of_getElem? y9)
  have x7 := Xq (o6.mono HBB.out) t7 o7
  have bG := HFAR.out wr A2 d2 l' o6 t8 (List.mem_of_getElem? y9)
  have dB : Xs f x = Xk l' x := by unfold Xs; rw [cD, List.getD_eq_getElem?_getD, y9]; rfl
  rw [<- dB] at bG
  have HE := lh cD
  have HF := lh bG
  have HBW := lh o6
  have HC := lh c0
  clear bG o6 c0 aI y9 t8 t7 cD dB
  go_wp2_with fail
  refine HF.out.mono ?_
  rintro e w1 ⟨V, rfl, hR, e8⟩
  obtain ⟨g9, A9, l9, c9, A9', l9', c9', rfl⟩ := hR.shape
  have c0 := HC.out.below e8 HC.out.lt
  have HR9 := lh hR
  have HB1 := lh (HBW.out.trans (e8.mono HBW.out.size))
  clear e8 HBW x7 hR
  obtain ⟨f0, f1, f2, f3, f4, f5, f6, f7, f8⟩ := c0.f3
  go_wp2
  refine bodyPost_ret (v := .tuple #[.int .i64 (i : Int), .agg #[.bool g9, .slice A9 l9 c9, .slice A9' l9' c9']]) (by simp [results, Tryz.results41, go_sem, f6, f7, f8]) rfl ?_
  refine ⟨_, by rw [HE.out], ?_, ((HB1.out.setCell zd _).setCell zd _).setCell zd _⟩
  rw [World.size_setCell, World.size_setCell, World.size_setCell]
  exact HR9.out.set3 c0 _ _ _ _ _ _ _
theorem Ue (z : Int) (m : Nat) (w : World) (b0 : -9223372036854775808 <= z) (b1 : z <= 9223372036854775807) (hm : 1 <= m) (hm2 : m <= 4611686018427387904) :
  ∃ n : Nat, n < m /\ ∀ w, Calls Tryz.prog 14 #[.int .i64 z, .int .i64 (m : Int)] w fun e w' => e = .returned (.int .i64 (n : Int)) /\ w = w' := by
 have h0 : 0 <= z % (m : Int) := Int.emod_nonneg _ (by omega)
 have h1 : z % (m : Int) < (m : Int) := Int.emod_lt_of_pos _ (by omega)
 obtain ⟨n, hn⟩ := Int.eq_ofNat_of_zero_le h0
 refine ⟨n, by omega, fun w => ?_⟩
 have := Jcn z m w b0 b1 hm hm2
 rw [hn] at this
 exact this
structure ArgZ (w : World) (A : Option Addr) (n c : Nat) (zl : List Int) : Prop where
 rd : ReadsZ w w.heap.size A n zl
 cap : n <= c
 most : c <= 9223372036854775807
def I64 (z : Int) : Prop := -9223372036854775808 <= z /\ z <= 9223372036854775807
theorem ReadsR.cut {w : World} {B n : Nat} {A : Option Addr} {ql : List Rat} (h : ReadsR w B A n ql) {u c : Nat} (hu : u <= n) (hc : n <= c) : ReadsR w B (Jb3 A c u 3) (n - u) (ql.drop u) := by
 obtain ⟨rl, h1, h2⟩ := h
 refine ⟨rl.drop u, ⟨by rw [List.length_drop, h1.1], ?_⟩, by rw [List.length_drop, List.length_drop, h2.1], fun i r q hr hq => ?_⟩
 ·have h3 := Reads.cut h1.2 hu hc
  have e : (rl.flatMap RC.cs).drop (u * 3) = (rl.drop u).flatMap RC.cs := by
   have : ∀ (l : List RC) u, (l.flatMap RC.cs).drop (u * 3) = (l.drop u).flatMap RC.cs := by
    intro l
    induction l with
    | nil => intro u; simp
    | cons r l ih =>
     intro u
     cases u with
     | zero => simp
     | succ u =>
      rw [List.flatMap_cons, List.drop_succ_cons, <- ih u, show (u + 1) * 3 = (RC.cs r).length + u * 3 from by rw [RC.len]; omega, List.drop_append]
      simp
   exact this rl u
  rw [e] at h3
  exact h3
 rw [List.getElem?_drop] at hr hq
 exact h2.2 _ r q hr hq
theorem Jfv {f : List (List Rat)} {wd : Nat} (h : ∀ l ∈ f, l.length = wd) (hw : 1 <= wd) (p7 : wd <= 20) : Ui f = true := Jig fun k r hr => by
 have h1 := h r (List.mem_of_getElem? hr)
 cases f with
 | nil => simp at hr
 | cons a t =>
  have h2 := h a (by simp)
  refine ⟨?_, by omega, by omega⟩
  show r.length = a.length
  omega
theorem Vo {f : List (List Rat)} {wd n : Nat} (hn : f.length = n) (h : ∀ l ∈ f, l.length = wd) (hw : 1 <= wd) (p7 : wd <= 20) (eE : n <= 12) : Xd f = if 1 <= n then 0 else 5 := by
 unfold Xd
 rw [Jfv h hw p7, hn]
 by_cases h1 : 1 <= n
 ·rw [if_pos h1, if_neg (by rintro (h | h | h); omega; omega; cases h)]
 rw [if_neg h1, if_pos (.inl (by omega))]
theorem Jch (A : Option Addr) (n1 c1 : Nat) (zl : List Int) (A' : Option Addr) (n2 c2 : Nat) (zq : List Int) (zk zw zo : Int) (w : World) (h1 : ArgZ w A n1 c1 zl) (h2 : ArgZ w A' n2 c2 zq) (hk : I64 zk) (hw : I64 zw) (ho : I64 zo) (hT : Tab w) :
  Calls Tryz.prog 7 #[.slice A n1 c1, .slice A' n2 c2, .int .i64 zk, .int .i64 zw, .int .i64 zo] w (Ret (.bool true) w) := by
 obtain ⟨k3, eA, bP⟩ := Ue zw 3 w hw.1 hw.2 (by omega) (by omega)
 obtain ⟨kk, bH, bQ⟩ := Ue zk 6 w hk.1 hk.2 (by omega) (by omega)
 obtain ⟨k7, eF, dC⟩ := Ue zo 7 w ho.1 ho.2 (by omega) (by omega)
 obtain ⟨wd, hwd⟩ : ∃ wd, k3 + 1 = wd := ⟨_, rfl⟩
 have e2 : (k3 : Int) + 1 = (wd : Int) := by omega
 have e3 : IntKind.i64.wrap (wd : Int) = (wd : Int) := IntWalk.i64_in _ (by omega)
 have aS := Jcm A n1 c1 w.heap.size zl kk wd w ⟨h1.rd.1, h1.rd.2⟩ zd h1.cap h1.most (by omega) (by omega)
 have aD := fun w' (hb : Below w.heap.size w w') => Jh8 A' n2 c2 w.heap.size zq wd w' (h2.rd.below hb) hb.size (nt h2.cap h2.most) (by omega)
 have bR : ∀ l ∈ Qp zl wd kk, l.length = wd /\ ∀ x ∈ l, QS 5 x := fun l hl => by
  obtain ⟨zs', rfl⟩ := Zz hl
  exact ⟨Zf zs' wd, Zm zs' wd⟩
 have aA := Xp zl wd kk
 have dD := Zf zq wd
 have dE := Zm zq wd
 unfold Jg4 at aD
 generalize Qp zl wd kk = f at *
 generalize Ud zq wd = x at *
 have HP3 := lh bP
 have HP6 := lh bQ
 have HP7 := lh dC
 have HR := lh aS
 have HR2 := lh aD
 have HX := lh bR
 have HLEN := lh aA
 have HXL := lh dD
 have HXS := lh dE
 have HT := lh hT
 clear bP bQ dC aS aD bR aA dD dE hT h1 h2 hk hw ho
 go_enter Tryz.func7, Tryz.ntmps7
 go_wp2_with fail
 refine (HP3.out _).mono ?_
 rintro e w1 ⟨rfl, rfl⟩
 go_wp2_with fail
 refine (HP6.out _).mono ?_
 rintro e w1 ⟨rfl, rfl⟩
 go_wp2_with fail
 refine HR.out.mono ?_
 rintro e w1 ⟨v, rfl, ho, -, e8⟩
 obtain ⟨A1, c1', hv⟩ := OwnS.form ho
 rw [HLEN.out] at hv
 subst hv
 have HO := lh ho
 have HB1 := lh e8
 clear ho e8 HR HP3 HP6
 go_wp2_with fail
 refine (HR2.out _ HB1.out).mono ?_
 rintro e w2 ⟨v, rfl, aE, -, o9⟩
 obtain ⟨A2, c2', hv, bS, -⟩ := OwnR.form aE
 subst hv
 rw [HXL.out] at bS ⊢
 have HO1 := lh (OwnS.next Tryz.kindRR HO.out o9)
 have HO2 := lh (OwnR.reads_ (n := wd) (by rw [HXL.out] at aE; exact aE))
 have HB2 := lh (Ja HB1.out o9)
 clear aE o9 HB1 HO HR2
 go_wp2_with fail
 refine (HP7.out _).mono ?_
 rintro e w3 ⟨rfl, rfl⟩
 go_upto_if 31 with fail
 go_cut [12] (fun v wc => w2 = wc /\ ∃ A9 l9 c9 xl, v = .slice A9 l9 c9 /\ Hid (ReadsR w2 w2.heap.size A9 l9 xl /\ (∀ y ∈ xl, QS 5 y) /\ l9 <= 3))
 case first =>
  by_cases h6 : k7 = 6
  ·subst h6
   have hs : ∀ w, (Instr.slice 42 (.slice A2 wd c2') (some (.int .i64 1)) none none).run Tryz.prog w = .ok (.slice (Jb3 A2 c2' 1 3) (wd - 1) (c2' - 1)) w := fun w => by
    have := Jc9 (P := Tryz.prog) (Tryz.eltR).under (Tryz.eltR).info A2 wd c2' .i64 1 (by omega) (by omega) w
    rw [this]
    rfl
   have HZ := lh (And.intro (HO2.out.cut (u := 1) (c := c2') (by omega) bS) (And.intro (show ∀ y ∈ x.drop 1, QS 5 y from fun y hy => HXS.out y (List.mem_of_mem_drop hy)) (show wd - 1 <= 3 by omega)))
   go_wp2
   go_meet
   exact ⟨rfl, _, _, _, _, rfl, HZ⟩
  have q1 : ((k7 : Int) == 6) = false := by simp; omega
  have q2 : ¬ (k7 : Int) = 6 := by omega
  have HZ := lh (And.intro HO2.out (And.intro HXS.out (show wd <= 3 by omega)))
  go_wp2
  go_meet
  exact ⟨rfl, _, _, _, _, rfl, HZ⟩
 case rest =>
  obtain ⟨rfl, A9, l9, c9, xl, rfl, hz⟩ := hcut
  have eG := hz.out.2.2
  have dF := Jjb A1 kk c1' w2.heap.size f w2 (OwnS.readS (fun h => OwnR.reads_ h) HO1.out) zd (by omega) (fun l hl => ⟨by rw [(HX.out l hl).1]; omega, fun y hy => ((HX.out l hl).2 y hy).mono (by omega)⟩) (HT.out.next HB2.out)
  have HOF := lh dF
  clear dF HO2 HP7 HXL HXS
  go_wp2_with fail
  refine HOF.out.mono ?_
  rintro e w3 ⟨v, rfl, cE, -, aL⟩
  obtain ⟨A4, c4, hv⟩ := OwnS.form cE
  rw [HLEN.out] at hv
  subst hv
  have HB3 := lh (Ja HB2.out aL)
  have HD3 := lh (OwnS.next Tryz.kindRR HO1.out aL)
  have HX3 := lh (hz.out.1.below aL)
  have HW3 := lh aL.size
  have HO3 := lh cE
  clear cE aL HOF HB2 HO1
  go_wp2_with fail
  refine (Jd5 A9 l9 c9 w2.heap.size xl w3 HX3.out HW3.out (by omega) (fun y hy => (hz.out.2.1 y hy).mono (by omega)) (HT.out.next HB3.out)).mono ?_
  rintro e w4 ⟨v, rfl, bX, -, bI⟩
  have dG : xl.length = l9 := HX3.out.len
  rw [List.take_of_length_le (by omega)] at bX
  obtain ⟨A5, c5, hv⟩ := OwnQ.form3m bX
  rw [dG] at hv
  subst hv
  have HB4 := lh (Ja HB3.out bI)
  have HD4 := lh (OwnS.next Tryz.kindRR HD3.out bI)
  have HX4 := lh (HX3.out.below (bI.mono HW3.out))
  have HW4 := lh (nt HW3.out bI.size)
  have HO4 := lh (OwnS.next Tryz.kindQQ HO3.out bI)
  have HQ4 := lh bX
  clear bX bI HB3 HD3 HX3 HW3 HO3
  have aU := Vo HLEN.out (fun l hl => (HX.out l hl).1) (by omega) (by omega) (show kk <= 12 by omega)
  have bJ := fun w' (hb : Below w4.heap.size w4 w') => Yz A1 kk c1' w4.heap.size wd f w' ((OwnS.readS (fun h => OwnR.reads_ h) HD4.out).below Xf hb) hb.size (by omega) (by omega) (by omega) (fun l hl => (HX.out l hl).1)
  have bE := fun w' (hb : Below w4.heap.size w4 w') => Ug w' (HT.out.next (Ja HB4.out hb))
  have HKN := lh bE
  by_cases bM : 1 <= kk
  ·rw [if_pos bM] at aU
   rw [if_pos ⟨bM, by omega⟩] at bJ
   have HCM := lh bJ
   clear bJ bE
   by_cases dH : l9 = wd
   ·subst dH
    have aM := Jc3 A4 A5 kk c4 l9 c5 w4.heap.size 5 f xl w4 (OwnS.readS (fun h => OwnQ.reads_ h) HO4.out) (OwnQ.reads_ HQ4.out) zd (by omega) (by omega) (fun l hl => (HX.out l hl).1) (by omega) (by omega) (fun l hl => (HX.out l hl).2) hz.out.2.1 (HT.out.next HB4.out) aU
    have cF := fun w' (hb : Below w4.heap.size w4 w') => Jcv A1 A9 kk c1' l9 c9 w4.heap.size 5 f xl w' ((OwnS.readS (fun h => OwnR.reads_ h) HD4.out).below Xf hb) ((HX4.out.more HW4.out).below hb) hb.size bM (by omega) (by omega) (fun l hl => (HX.out l hl).1) (by omega) (by omega) (fun l hl => (HX.out l hl).2) hz.out.2.1
    have dI : QS 1000 (Xs f xl) := (Jdb (m := 5) (wd := l9) (by omega) (fun l hl => (HX.out l hl).2) hz.out.2.1 (fun l hl => (HX.out l hl).1) (by rw [HLEN.out]; omega)).mono (by have := Nat.mul_le_mul (show l9 <= 3 by omega) (show 4 * 5 + 3 <= 23 by omega); omega)
    obtain ⟨i, hi⟩ : ∃ i, Qk f xl = i := ⟨_, rfl⟩
    have aF := fun (w' : World) (V : Value) (h : IsQ w' w'.heap.size V (Xs f xl)) => Jaz (Xs f xl) _ V w' h zd (dI.mono (by omega))
    rw [hi] at aM cF
    generalize Xs f xl = q at *
    unfold qV at aM aF
    have HNR := lh aM
    have HRN := lh cF
    have HSA := lh aF
    have q1 : ((i : Int) == (i : Int)) = true := by simp
    have q2 : ((l9 : Int) != (l9 : Int)) = false := by simp
    clear aM cF aF hi dI aU
    go_wp2_with fail
    refine HNR.out.mono ?_
    rintro e w5 ⟨rfl, aT⟩
    have b0 := Blk.new w5 65 #[.bool (decide (q.num < 0)), .int .u64 (lo q.num.natAbs : Int), .string (mo q.num.natAbs), .int .u64 (lo ((qden q)) : Int), .string (mo ((qden q)))]
    have HB5 := lh (Ja aT (Jb w5 (.cells #[.bool (decide (q.num < 0)), .int .u64 (lo q.num.natAbs : Int), .string (mo q.num.natAbs), .int .u64 (lo ((qden q)) : Int), .string (mo ((qden q)))] 65)))
    have HK0 := lh b0
    clear aT HNR b0
    go_wp2_with fail
    refine (HCM.out _ HB5.out).mono ?_
    rintro e w6 ⟨rfl, aN⟩
    have HB6 := lh (Ja HB5.out aN)
    have HK6 := lh (HK0.out.below aN HK0.out.lt)
    clear aN HCM HB5 HK0
    go_wp2_with fail
    refine (HRN.out _ HB6.out).mono ?_
    rintro e w7 ⟨V, rfl, hR, aO⟩
    obtain ⟨g9, A9', l9', c9', A9q, l9q, c9q, rfl⟩ := hR.shape
    have HB7 := lh (Ja (Ja HB6.out aO) (Jb w7 (.cells #[.bool g9, .slice A9' l9' c9', .slice A9q l9q c9q] 56)))
    have HK7 := lh ((HK6.out.below aO HK6.out.lt).alloc (.cells #[.bool g9, .slice A9' l9' c9', .slice A9q l9q c9q] 56))
    have HV7 := lh (Blk.new w7 56 #[.bool g9, .slice A9' l9' c9', .slice A9q l9q c9q])
    have HR7 := lh ((hR.next zd (Jb w7 (.cells #[.bool g9, .slice A9' l9' c9', .slice A9q l9q c9q] 56))).more (Jb w7 (.cells #[.bool g9, .slice A9' l9' c9', .slice A9q l9q c9q] 56)).size)
    clear hR aO HRN HB6 HK6
    go_wp2_with fail
    refine (HKN.out _ HB7.out).mono ?_
    rintro e w8 ⟨rfl, q8⟩
    have b0 := HK7.out.below q8 HK7.out.lt
    have b1 := HV7.out.below q8 HV7.out.lt
    have HR8 := lh ((HR7.out.next zd q8).more q8.size)
    have HB8 := lh (Ja HB7.out q8)
    clear q8 HKN HB7 HK7 HV7 HR7
    obtain ⟨x0, x1, x2, x3, x4⟩ := b0.c5
    obtain ⟨y0, y1, y2⟩ := b1.c3
    go_wp2_with fail
    refine (HSA.out _ _ HR8.out).mono ?_
    rintro e w9 ⟨rfl, dJ⟩
    have HB9 := lh (Ja HB8.out dJ)
    clear dJ x0 x1 x2 x3 x4 y0 y1 y2 HB8
    go_wp2
    go_ret
    exact ⟨rfl, Ja HB4.out HB9.out⟩
   have q1 : ¬ (l9 : Int) = (wd : Int) := by omega
   have q2 : ((l9 : Int) == (wd : Int)) = false := by simp; omega
   have q3 : ((l9 : Int) != (wd : Int)) = true := by simp; omega
   have bY : (f.getD 0 []).length = wd := by
    have : 0 < f.length := by rw [HLEN.out]; omega
    exact (HX.out _ (by rw [List.getD_eq_getElem?_getD, List.getElem?_eq_getElem this]; exact List.getElem_mem _)).1
   have HNR := lh (Jcf A4 A5 kk c4 l9 c5 w4.heap.size f w4 (OwnS.readS (fun h => OwnQ.reads_ h) HO4.out) zd (by omega) aU (by rw [bY]; exact dH))
   have HIZ : Hid (∀ w, Calls Tryz.prog 40 #[.agg #[.bool false, .int .u64 0, .string ⟨#[]⟩, .int .u64 0, .string ⟨#[]⟩], .int .i64 0, .int .i64 1] w (Ret (.bool true) w)) := lh fun w => Jdd 0 0 1 w (by omega) (by omega) (by omega) (by omega) (by omega) (by kernel_rfl) ⟨Nat.le_of_ble_eq_true (by kernel_rfl), Nat.le_of_ble_eq_true (by kernel_rfl)⟩
   clear aU bY dG
   go_wp2_with fail
   refine HNR.out.mono ?_
   rintro e w5 ⟨rfl, aT⟩
   have b0 := Blk.new w5 65 #[.bool false, .int .u64 0, .string ⟨#[]⟩, .int .u64 0, .string ⟨#[]⟩]
   have HB5 := lh (Ja aT (Jb w5 (.cells #[.bool false, .int .u64 0, .string ⟨#[]⟩, .int .u64 0, .string ⟨#[]⟩] 65)))
   have HK0 := lh b0
   clear aT HNR b0
   go_wp2_with fail
   refine (HCM.out _ HB5.out).mono ?_
   rintro e w6 ⟨rfl, aN⟩
   have HB6 := lh (Ja HB5.out aN)
   have HK6 := lh (HK0.out.below aN HK0.out.lt)
   clear aN HCM HB5 HK0
   go_wp2_with fail
   refine (HKN.out _ HB6.out).mono ?_
   rintro e w7 ⟨rfl, aO⟩
   have b0 := HK6.out.below aO HK6.out.lt
   have HB7 := lh (Ja HB6.out aO)
   clear aO HKN HB6 HK6
   obtain ⟨x0, x1, x2, x3, x4⟩ := b0.c5
   go_wp2_with fail
   refine (HIZ.out _).mono ?_
   rintro e w8 ⟨rfl, q8⟩
   have HB8 := lh (Ja HB7.out q8)
   clear q8 x0 x1 x2 x3 x4 HB7
   go_wp2
   go_ret
   exact ⟨rfl, Ja HB4.out HB8.out⟩
  rw [if_neg bM] at aU
  rw [if_neg (by omega)] at bJ
  have HCM := lh bJ
  have HNR := lh (Jcg A4 kk c4 w4.heap.size f (.slice A5 l9 c5) w4 (OwnS.readS (fun h => OwnQ.reads_ h) HO4.out) zd (by omega) (by omega))
  clear bJ bE aU
  go_wp2_with fail
  refine HNR.out.mono ?_
  rintro e w5 ⟨rfl, aT⟩
  have HB5 := lh (Ja aT (Jb w5 (.cells #[.bool false, .int .u64 0, .string ⟨#[]⟩, .int .u64 0, .string ⟨#[]⟩] 65)))
  clear aT HNR
  go_wp2_with fail
  refine (HCM.out _ HB5.out).mono ?_
  rintro e w6 ⟨rfl, aN⟩
  have HB6 := lh (Ja HB5.out aN)
  clear aN HCM HB5
  go_wp2_with fail
  refine (HKN.out _ HB6.out).mono ?_
  rintro e w7 ⟨rfl, aO⟩
  have HB7 := lh (Ja HB6.out aO)
  clear aO HKN HB6
  go_wp2
  go_ret
  exact ⟨rfl, Ja HB4.out HB7.out⟩
theorem Jck (A : Option Addr) (n1 c1 : Nat) (zl : List Int) (A' : Option Addr) (n2 c2 : Nat) (zc : List Int) (zn zk zw zo : Int) (w : World) (h1 : ArgZ w A n1 c1 zl) (h2 : ArgZ w A' n2 c2 zc) (hn : I64 zn) (hk : I64 zk) (hw : I64 zw) (ho : I64 zo) :
  ∃ nn kk wd v : Nat, nn < 8 /\ kk < 5 /\ 1 <= wd /\ wd <= 3 /\ (v = wd \/ v = wd + 1) /\
   Calls Tryz.prog 13 #[.slice A n1 c1, .slice A' n2 c2, .int .i64 zn, .int .i64 zk, .int .i64 zw, .int .i64 zo] w fun e w' => ∃ Ax cx Am cm, e = .returned (.tuple #[.slice Ax nn cx, .slice Am kk cm]) /\ Zs w' (.slice Ax nn cx) (Qp zl wd nn) /\ Zs w' (.slice Am kk cm) (Qp zc v kk) /\ Below w.heap.size w w' := by
 obtain ⟨k3, eA, bP⟩ := Ue zw 3 w hw.1 hw.2 (by omega) (by omega)
 obtain ⟨k6, eH, bQ⟩ := Ue zo 6 w ho.1 ho.2 (by omega) (by omega)
 obtain ⟨nn, bZ, dK⟩ := Ue zn 8 w hn.1 hn.2 (by omega) (by omega)
 obtain ⟨kk, bH, dL⟩ := Ue zk 5 w hk.1 hk.2 (by omega) (by omega)
 obtain ⟨wd, hwd⟩ : ∃ wd, k3 + 1 = wd := ⟨_, rfl⟩
 obtain ⟨v, hv⟩ : ∃ v, (if k6 = 5 then wd + 1 else wd) = v := ⟨_, rfl⟩
 refine ⟨nn, kk, wd, v, bZ, bH, by omega, by omega, by rw [<- hv]; split <;> omega, ?_⟩
 have eI : v <= 4 := by rw [<- hv]; split <;> omega
 have e2 : (k3 : Int) + 1 = (wd : Int) := by omega
 have e3 : IntKind.i64.wrap (wd : Int) = (wd : Int) := IntWalk.i64_in _ (by omega)
 have e4 : IntKind.i64.wrap (v : Int) = (v : Int) := IntWalk.i64_in _ (by omega)
 have p8 := Jcm A n1 c1 w.heap.size zl nn wd w ⟨h1.rd.1, h1.rd.2⟩ zd h1.cap h1.most (by omega) (by omega)
 have t8 := fun w' (hb : Below w.heap.size w w') => Jcm A' n2 c2 w.heap.size zc kk v w' ⟨(h2.rd.below hb).1, h2.rd.2⟩ hb.size h2.cap h2.most (by omega) (by omega)
 have l1 := Xp zl wd nn
 have l2 := Xp zc v kk
 generalize Qp zl wd nn = x at *
 generalize Qp zc v kk = f at *
 have HV := lh hv
 have HP3 := lh bP
 have HP6 := lh bQ
 have HP8 := lh dK
 have HP5 := lh dL
 have HR1 := lh p8
 have HR2 := lh t8
 have HL := lh (And.intro l1 l2)
 clear hv bP bQ dK dL p8 t8 l1 l2 h1 h2 hn hk hw ho
 go_enter Tryz.func13, Tryz.ntmps13
 go_wp2_with fail
 refine (HP3.out _).mono ?_
 rintro e w1 ⟨rfl, rfl⟩
 go_wp2_with fail
 refine (HP6.out _).mono ?_
 rintro e w1 ⟨rfl, rfl⟩
 go_upto_if 21 with fail
 go_cut [14] (fun u wc => w = wc /\ u = .int .i64 (v : Int))
 case first =>
  by_cases h5 : k6 = 5
  ·have dM : wd + 1 = v := by rw [<- HV.out, if_pos h5]
   have q0 : (wd : Int) + 1 = (v : Int) := by omega
   have q1 : ((k6 : Int) == 5) = true := by simp; omega
   have q2 : (k6 : Int) = 5 := by omega
   go_wp2
   go_meet
   exact ⟨rfl, rfl⟩
  have dM : wd = v := by rw [<- HV.out, if_neg h5]
  have q1 : ((k6 : Int) == 5) = false := by simp; omega
  have q2 : ¬ (k6 : Int) = 5 := by omega
  go_wp2
  go_meet
  exact ⟨rfl, by rw [dM]⟩
 case rest =>
  obtain ⟨rfl, rfl⟩ := hcut
  go_wp2_with fail
  refine (HP8.out _).mono ?_
  rintro e w1 ⟨rfl, rfl⟩
  go_wp2_with fail
  refine HR1.out.mono ?_
  rintro e w1 ⟨v1, rfl, cG, -, e8⟩
  obtain ⟨A1, d1, aJ⟩ := OwnS.form cG
  rw [HL.out.1] at aJ
  subst aJ
  have HO1 := lh cG
  have HB1 := lh e8
  clear cG e8 HR1
  go_wp2_with fail
  refine (HP5.out _).mono ?_
  rintro e w2 ⟨rfl, rfl⟩
  go_wp2_with fail
  refine (HR2.out _ HB1.out).mono ?_
  rintro e w2 ⟨v2, rfl, aE, -, o9⟩
  obtain ⟨A2, d2, aK⟩ := OwnS.form aE
  rw [HL.out.2] at aK
  subst aK
  have HO2 := lh aE
  have HO3 := lh (OwnS.next Tryz.kindRR HO1.out o9)
  have HB2 := lh (Ja HB1.out o9)
  clear aE o9 HR2 HO1 HB1
  go_wp2
  go_returns
  exact ⟨A1, d1, A2, d2, rfl, HO3.out, HO2.out, HB2.out⟩
def Ko (nn kk wd v : Nat) : Nat := if ¬ (1 <= kk /\ kk <= 12) then 1 else if nn < 1 \/ wd ≠ v then 5 else 0
theorem Jcj (A A' : Option Addr) (nn c kk c' B wd v : Nat) (x f : List (List Rat)) (w : World) (h : Zx w B A nn x) (h' : Zx w B A' kk f) (hB : B <= w.heap.size) (bZ : nn <= 300) (bH : kk <= 300) (o0 : 1 <= wd) (p7 : wd <= 20) (aJ : 1 <= v) (aK : v <= 20) (hx : ∀ l ∈ x, l.length = wd) (hf : ∀ l ∈ f, l.length = v) :
  Calls Tryz.prog 18 #[.slice A nn c, .slice A' kk c'] w (Ret (.int .i64 (Ko nn kk wd v : Int)) w) := by
 have hlx := h.len
 have hlf := h'.len
 have HCM := lh (Yz A' kk c' B v f w h' hB bH aJ aK hf)
 have cH := fun w' (hb : Below w.heap.size w w') => Jko A nn c B wd x w' (h.below Xf (hb.mono hB)) (nt hB hb.size) bZ o0 p7 hx
 have H := lh h
 have H' := lh h'
 have HBB := lh hB
 clear h h' hB
 go_enter Tryz.func18, Tryz.ntmps18
 by_cases hk : 1 <= kk /\ kk <= 12
 case neg =>
  rw [if_neg hk] at HCM
  have HE := lh (show Ko nn kk wd v = 1 from if_pos hk)
  clear cH
  go_wp2_with fail
  refine HCM.out.mono ?_
  rintro e w1 ⟨rfl, e8⟩
  have HB1 := lh e8
  clear e8
  go_wp2
  go_ret
  exact ⟨by rw [HE.out]; rfl, HB1.out⟩
 rw [if_pos hk] at HCM
 have dN : Ko nn kk wd v = if nn < 1 \/ wd ≠ v then 5 else 0 := if_neg (fun h => h hk)
 have HWR := lh dN
 clear dN
 go_wp2_with fail
 refine HCM.out.mono ?_
 rintro e w1 ⟨rfl, e8⟩
 have HB1 := lh e8
 have x9 := fun w' (hb : Below w1.heap.size w1 w') => cH w' (HB1.out.trans (hb.mono HB1.out.size))
 clear e8 HCM cH
 go_upto_region 3 with fail
 by_cases dO : 1 <= nn
 ·rw [decide_eq_true dO] at x9
  have HLE := lh x9
  obtain ⟨l, hl⟩ : ∃ l, x[0]? = some l := ⟨_, List.getElem?_eq_getElem (by omega)⟩
  obtain ⟨l0, aH⟩ : ∃ l, f[0]? = some l := ⟨_, List.getElem?_eq_getElem (by omega)⟩
  obtain ⟨ad, A1, m1, d1, rfl, bK, s9, p8⟩ := H.out.at_ hl
  obtain ⟨ad2, A2, m2, d2, rfl, o7, t7, t8⟩ := H'.out.at_ aH
  rw [Addr.add_zero'] at s9 t7
  obtain rfl : m1 = wd := by rw [<- p8.len]; exact hx l (List.mem_of_getElem? hl)
  obtain rfl : m2 = v := by rw [<- t8.len]; exact hf l0 (List.mem_of_getElem? aH)
  obtain ⟨g4, o4, dP, -⟩ := Xy (k := 0) (by rw [Addr.add_zero']; exact s9)
  obtain ⟨g5, o5, bT, -⟩ := Xy (k := 0) (by rw [Addr.add_zero']; exact t7)
  rw [Addr.add_zero'] at dP bT
  subst dP bT
  have b1 : At1 w1 g4 o4 (.slice A1 m1 d1) := (At1.mk' s9).below (HB1.out.mono HBB.out) bK
  have b2 : At1 w1 g5 o5 (.slice A2 m2 d2) := (At1.mk' t7).below (HB1.out.mono HBB.out) o7
  have p1 : (0 : Int) < (nn : Int) := by omega
  have p2 : (0 : Int) < (kk : Int) := by omega
  have dQ : (⟨g4, o4, none⟩ : Addr).add 0 = ⟨g4, o4, none⟩ := Addr.add_zero' _
  have dR : (⟨g5, o5, none⟩ : Addr).add 0 = ⟨g5, o5, none⟩ := Addr.add_zero' _
  have p3 : ¬ nn = 0 := by omega
  have p4 : 0 < nn := by omega
  have p5 : ¬ kk = 0 := by omega
  have p6 : 0 < kk := by omega
  clear hl aH bK o7 s9 t7 p8 t8 x9 hx hf
  by_cases cI : m1 = m2
  ·have f3 : ((m1 : Int) == (m2 : Int)) = true := by simp; omega
   have f4 : ((m1 : Int) != (m2 : Int)) = false := by simp; omega
   have HE := lh (HWR.out.trans (if_neg (by omega)))
   clear cI
   obtain ⟨aB, aC⟩ := b1.c2; have c1 := b1.drew; have o8 := c1.lt; obtain ⟨aP, aQ⟩ := b2.c2; have c2 := b2.drew; have j9 := c2.lt; have hc := Ji w1; refine Yj (S := (fun w' => w'.cell? ⟨g4, o4, none⟩ = some (.slice A1 m1 d1) /\ w'.cell? ⟨g5, o5, none⟩ = some (.slice A2 m2 d2))) (by kernel_rfl) (by first | (dsimp only; go_keep) | go_keep) (fun j8 => ?_); (iterate 1 ((first | (refine Jw (v := ?_) (by simp only [List.getElem?_toArray, List.getElem?_cons_succ, List.getElem?_cons_zero]; first | done | rfl) (by kernel_rfl) (by exact fun _ _ _ h => h) (Or.inl ⟨by rfl, ?_⟩) (by assumption) ?_; rotate_left; (focus (intro w aG; (try dsimp only at aG); go_simp; try with_reducible rfl))) | (refine Jw (v := undef) (by simp only [List.getElem?_toArray, List.getElem?_cons_succ, List.getElem?_cons_zero]; first | done | rfl) (by kernel_rfl) (by exact fun _ _ _ h => h) (Or.inr ⟨by rfl, rfl⟩) (by assumption) ?_)); (try simp only [Act.put, List.setIfInBounds_toArray, List.set_cons_zero, List.set_cons_succ, Nat.reduceAdd]))); refine Uy (by simp only [List.getElem?_toArray, List.getElem?_cons_succ, List.getElem?_cons_zero]; first | done | rfl) (by kernel_rfl) (fun K hK => ?_); go_simp; (go_at_call 26; (with_reducible refine (HLE.out _ hc).mono ?_); rintro e w1 ⟨rfl, o0⟩; (try clear j6 j7); obtain ⟨c1, j6, j7⟩ := c1.zc2 o0; (try clear o8); have o8 := c1.lt; (try clear e9 j0); obtain ⟨c2, e9, j0⟩ := c2.zc2 o0; (try clear j9); have j9 := c2.lt; have hc := Ja hc o0); (try go_wp2_with fail); clear j8; refine hK.out _ _ (by first | (dsimp only; go_keep) | go_keep) (fun j8 => ?_); clear hK K; (try simp only [Act.put, List.setIfInBounds_toArray, List.set_cons_zero, List.set_cons_succ, Nat.reduceAdd]); (iterate 13 ((first | (refine Jw (v := ?_) (by simp only [List.getElem?_toArray, List.getElem?_cons_succ, List.getElem?_cons_zero]; first | done | rfl) (by kernel_rfl) (by exact fun _ _ _ h => h) (Or.inl ⟨by rfl, ?_⟩) (by assumption) ?_; rotate_left; (focus (intro w aG; (try dsimp only at aG); go_simp; try with_reducible rfl))) | (refine Jw (v := undef) (by simp only [List.getElem?_toArray, List.getElem?_cons_succ, List.getElem?_cons_zero]; first | done | rfl) (by kernel_rfl) (by exact fun _ _ _ h => h) (Or.inr ⟨by rfl, rfl⟩) (by assumption) ?_)); (try simp only [Act.put, List.setIfInBounds_toArray, List.set_cons_zero, List.set_cons_succ, Nat.reduceAdd]))); refine Kf (by kernel_rfl) ?_
   go_wp2
   go_ret
   exact ⟨by rw [HE.out]; rfl, Ja HB1.out hc⟩
  have f3 : ((m1 : Int) == (m2 : Int)) = false := by simp; omega
  have f4 : ((m1 : Int) != (m2 : Int)) = true := by simp; omega
  have HE := lh (HWR.out.trans (if_pos (.inr cI)))
  clear cI
  obtain ⟨aB, aC⟩ := b1.c2; have c1 := b1.drew; have o8 := c1.lt; obtain ⟨aP, aQ⟩ := b2.c2; have c2 := b2.drew; have j9 := c2.lt; have hc := Ji w1; refine Yj (S := (fun w' => w'.cell? ⟨g4, o4, none⟩ = some (.slice A1 m1 d1) /\ w'.cell? ⟨g5, o5, none⟩ = some (.slice A2 m2 d2))) (by kernel_rfl) (by first | (dsimp only; go_keep) | go_keep) (fun j8 => ?_); (iterate 1 ((first | (refine Jw (v := ?_) (by simp only [List.getElem?_toArray, List.getElem?_cons_succ, List.getElem?_cons_zero]; first | done | rfl) (by kernel_rfl) (by exact fun _ _ _ h => h) (Or.inl ⟨by rfl, ?_⟩) (by assumption) ?_; rotate_left; (focus (intro w aG; (try dsimp only at aG); go_simp; try with_reducible rfl))) | (refine Jw (v := undef) (by simp only [List.getElem?_toArray, List.getElem?_cons_succ, List.getElem?_cons_zero]; first | done | rfl) (by kernel_rfl) (by exact fun _ _ _ h => h) (Or.inr ⟨by rfl, rfl⟩) (by assumption) ?_)); (try simp only [Act.put, List.setIfInBounds_toArray, List.set_cons_zero, List.set_cons_succ, Nat.reduceAdd]))); refine Uy (by simp only [List.getElem?_toArray, List.getElem?_cons_succ, List.getElem?_cons_zero]; first | done | rfl) (by kernel_rfl) (fun K hK => ?_); go_simp; (go_at_call 26; (with_reducible refine (HLE.out _ hc).mono ?_); rintro e w1 ⟨rfl, o0⟩; (try clear j6 j7); obtain ⟨c1, j6, j7⟩ := c1.zc2 o0; (try clear o8); have o8 := c1.lt; (try clear e9 j0); obtain ⟨c2, e9, j0⟩ := c2.zc2 o0; (try clear j9); have j9 := c2.lt; have hc := Ja hc o0); (try go_wp2_with fail); clear j8; refine hK.out _ _ (by first | (dsimp only; go_keep) | go_keep) (fun j8 => ?_); clear hK K; (try simp only [Act.put, List.setIfInBounds_toArray, List.set_cons_zero, List.set_cons_succ, Nat.reduceAdd]); (iterate 13 ((first | (refine Jw (v := ?_) (by simp only [List.getElem?_toArray, List.getElem?_cons_succ, List.getElem?_cons_zero]; first | done | rfl) (by kernel_rfl) (by exact fun _ _ _ h => h) (Or.inl ⟨by rfl, ?_⟩) (by assumption) ?_; rotate_left; (focus (intro w aG; (try dsimp only at aG); go_simp; try with_reducible rfl))) | (refine Jw (v := undef) (by simp only [List.getElem?_toArray, List.getElem?_cons_succ, List.getElem?_cons_zero]; first | done | rfl) (by kernel_rfl) (by exact fun _ _ _ h => h) (Or.inr ⟨by rfl, rfl⟩) (by assumption) ?_)); (try simp only [Act.put, List.setIfInBounds_toArray, List.set_cons_zero, List.set_cons_succ, Nat.reduceAdd]))); refine Kf (by kernel_rfl) ?_
  go_wp2
  go_ret
  exact ⟨by rw [HE.out]; rfl, Ja HB1.out hc⟩
 rw [decide_eq_false dO] at x9
 have HLE := lh x9
 have HE := lh (HWR.out.trans (if_pos (.inl (by omega))))
 obtain ⟨l0, aH⟩ : ∃ l, f[0]? = some l := ⟨_, List.getElem?_eq_getElem (by omega)⟩
 obtain ⟨ad2, A2, m2, d2, rfl, o7, t7, t8⟩ := H'.out.at_ aH
 rw [Addr.add_zero'] at t7
 obtain ⟨g5, o5, bT, -⟩ := Xy (k := 0) (by rw [Addr.add_zero']; exact t7)
 rw [Addr.add_zero'] at bT
 subst bT
 have b2 : At1 w1 g5 o5 (.slice A2 m2 d2) := (At1.mk' t7).below (HB1.out.mono HBB.out) o7
 clear aH o7 t7 t8 x9 hx hf
 obtain ⟨aP, aQ⟩ := b2.c2; have c2 := b2.drew; have j9 := c2.lt; have hc := Ji w1; refine Yj (S := (fun w' => w'.cell? ⟨g5, o5, none⟩ = some (.slice A2 m2 d2))) (by kernel_rfl) (by first | (dsimp only; go_keep) | go_keep) (fun j8 => ?_); (iterate 1 ((first | (refine Jw (v := ?_) (by simp only [List.getElem?_toArray, List.getElem?_cons_succ, List.getElem?_cons_zero]; first | done | rfl) (by kernel_rfl) (by exact fun _ _ _ h => h) (Or.inl ⟨by rfl, ?_⟩) (by assumption) ?_; rotate_left; (focus (intro w aG; (try dsimp only at aG); go_simp; try with_reducible rfl))) | (refine Jw (v := undef) (by simp only [List.getElem?_toArray, List.getElem?_cons_succ, List.getElem?_cons_zero]; first | done | rfl) (by kernel_rfl) (by exact fun _ _ _ h => h) (Or.inr ⟨by rfl, rfl⟩) (by assumption) ?_)); (try simp only [Act.put, List.setIfInBounds_toArray, List.set_cons_zero, List.set_cons_succ, Nat.reduceAdd]))); refine Uy (by simp only [List.getElem?_toArray, List.getElem?_cons_succ, List.getElem?_cons_zero]; first | done | rfl) (by kernel_rfl) (fun K hK => ?_); go_simp; (go_at_call 26; (with_reducible refine (HLE.out _ hc).mono ?_); rintro e w1 ⟨rfl, o0⟩; (try clear e9 j0); obtain ⟨c2, e9, j0⟩ := c2.zc2 o0; (try clear j9); have j9 := c2.lt; have hc := Ja hc o0); (try go_wp2_with fail); clear j8; refine hK.out _ _ (by first | (dsimp only; go_keep) | go_keep) (fun j8 => ?_); clear hK K; (try simp only [Act.put, List.setIfInBounds_toArray, List.set_cons_zero, List.set_cons_succ, Nat.reduceAdd]); (iterate 13 ((first | (refine Jw (v := ?_) (by simp only [List.getElem?_toArray, List.getElem?_cons_succ, List.getElem?_cons_zero]; first | done | rfl) (by kernel_rfl) (by exact fun _ _ _ h => h) (Or.inl ⟨by rfl, ?_⟩) (by assumption) ?_; rotate_left; (focus (intro w aG; (try dsimp only at aG); go_simp; try with_reducible rfl))) | (refine Jw (v := undef) (by simp only [List.getElem?_toArray, List.getElem?_cons_succ, List.getElem?_cons_zero]; first | done | rfl) (by kernel_rfl) (by exact fun _ _ _ h => h) (Or.inr ⟨by rfl, rfl⟩) (by assumption) ?_)); (try simp only [Act.put, List.setIfInBounds_toArray, List.set_cons_zero, List.set_cons_succ, Nat.reduceAdd]))); refine Kf (by kernel_rfl) ?_
 go_wp2
 go_ret
 exact ⟨by rw [HE.out]; rfl, Ja HB1.out hc⟩
theorem Vz {f x : List (List Rat)} {nn kk wd v : Nat} (hn : x.length = nn) (hk : f.length = kk) (hx : ∀ l ∈ x, l.length = wd) (hf : ∀ l ∈ f, l.length = v) (o0 : 1 <= wd) (p7 : wd <= 20) (aJ : 1 <= v) (aK : v <= 20) (bZ : nn <= 300) (bH : kk <= 12) : Qt f x = Ko nn kk wd v := by
 have hc := Vo hk hf aJ aK bH
 unfold Qt Ko
 rw [Jfv hx o0 p7, hn, hc]
 by_cases h1 : 1 <= kk
 ·rw [if_pos h1, if_neg (show ¬ (0 : Nat) ≠ 0 by simp), if_neg (show ¬ ¬ (1 <= kk /\ kk <= 12) by omega)]
  have bY : (f.getD 0 []).length = v := hf _ (by rw [List.getD_eq_getElem?_getD, List.getElem?_eq_getElem (by omega)]; exact List.getElem_mem _)
  rw [bY]
  by_cases h2 : 1 <= nn
  ·have eB : (x.getD 0 []).length = wd := hx _ (by rw [List.getD_eq_getElem?_getD, List.getElem?_eq_getElem (by omega)]; exact List.getElem_mem _)
   rw [eB]
   by_cases h3 : wd = v
   ·rw [if_neg (by rintro (h | h | h | h); omega; omega; cases h; exact h h3), if_neg (show ¬ (nn < 1 \/ wd ≠ v) by omega)]
   rw [if_pos (.inr (.inr (.inr h3))), if_pos (.inr h3)]
  rw [if_pos (Or.inl (show nn < 1 by omega)), if_pos (Or.inl (show nn < 1 by omega))]
 rw [if_neg h1, if_pos (show (5 : Nat) ≠ 0 by omega), if_pos (show ¬ (1 <= kk /\ kk <= 12) by omega)]
section
variable (A A' : Option Addr) (n c n' c' B : Nat) (f x : List (List Rat)) (w : World)
theorem Jc4 (h : Xa w B A n f) (h' : Xa w B A' n' x) (hB : B <= w.heap.size) (hn : n <= 1000) (hn' : n' <= 1000) (hr : Qt f x ≠ 0) :
  Calls Tryz.prog 43 #[.agg #[.slice A n c], .slice A' n' c'] w (Ret (.tuple #[.slice none 0 0, .int .i64 (Qt f x : Int)]) w) := by
 have HRF := lh (fun w' (hb : Below w.heap.size w w') => Zb A A' n c n' c' B f x w' (h.below Xh (hb.mono hB)) (h'.below Xh (hb.mono hB)) (nt hB hb.size) hn hn')
 obtain ⟨r, hR⟩ : ∃ r, Qt f x = r := ⟨_, rfl⟩
 rw [hR] at HRF hr ⊢
 have q1 : ((r : Int) != 0) = true := by simp; omega
 have q2 : ¬ (r : Int) = 0 := by omega
 have q3 : ((r : Int) == 0) = false := by simp; omega
 clear h h' hB hR
 obtain ⟨b0, hB, hZ⟩ := bx1 w 30 #[.slice A n c]
 go_enter Tryz.func43, Tryz.ntmps43
 have x0 := b0.c1
 have HBW := lh hB
 clear hB
 go_wp2_with fail
 generalize (w.alloc (.cells #[.slice A n c] 30)) = W at *
 refine (HRF.out _ HBW.out).mono ?_
 rintro e w1 ⟨rfl, e8⟩
 have HB1 := lh (HBW.out.trans (e8.mono HBW.out.size))
 clear x0 e8
 go_wp2
 go_returns
 exact ⟨rfl, HB1.out⟩
theorem Jd0 (wd m : Nat) (h : MX w B A A' n n' wd m f x) (hr : Qt f x = 0) :
  Calls Tryz.prog 43 #[.agg #[.slice A n c], .slice A' n' c'] w fun e w' => ∃ g, e = .returned (.tuple #[.slice (some ⟨g, 0, none⟩) n' n', .int .i64 0]) /\ Own w' 3 iv (.slice (some ⟨g, 0, none⟩) n' n') (Jl f x) /\ Below w.heap.size w w' := by
 have hn' := h.hn'
 have hn2 := h.hn2
 have HRF := lh (fun w' (hb : Below w.heap.size w w') => Zb A A' n c n' c' B f x w' (h.next hb).hf (h.next hb).hx (h.next hb).hB (by omega) (by omega))
 rw [hr] at HRF
 have HG := lh (fun w' (hb : Below w.heap.size w w') => Vk A A' n c n' c' wd B m f x w' (h.next hb))
 clear h hr
 obtain ⟨b0, hB, hZ⟩ := bx1 w 30 #[.slice A n c]
 go_enter Tryz.func43, Tryz.ntmps43
 have x0 := b0.c1
 have HBW := lh hB
 clear hB
 go_wp2_with fail
 generalize (w.alloc (.cells #[.slice A n c] 30)) = W at *
 refine (HRF.out _ HBW.out).mono ?_
 rintro e w1 ⟨rfl, e8⟩
 have b0 := b0.below e8 b0.lt
 have HB1 := lh (HBW.out.trans (e8.mono HBW.out.size))
 clear x0 e8 HBW HRF
 have x0 := b0.c1
 go_wp2_with fail
 refine (HG.out _ HB1.out).mono ?_
 rintro e w2 ⟨g, rfl, hg, ho, o9⟩
 have HO := lh ho
 have HB2 := lh (HB1.out.trans (o9.mono HB1.out.size))
 clear ho o9 x0 HB1
 go_wp2
 go_returns
 exact ⟨g, rfl, HO.out, HB2.out⟩
end
section
variable (A A' : Option Addr) (n c n' c' B : Nat) (f x : List (List Rat)) (w : World)
theorem Je2 (h : Xa w B A n f) (h' : Xa w B A' n' x) (hB : B <= w.heap.size) (hn : n <= 1000) (hn' : n' <= 1000) (hr : Qt f x ≠ 0) :
  Calls Tryz.prog 44 #[.agg #[.slice A n c], .slice A' n' c'] w (Ret (.tuple #[.agg #[.bool false, .int .u64 0, .string ⟨#[]⟩, .int .u64 0, .string ⟨#[]⟩], .int .i64 (Qt f x : Int)]) w) := by
 have HRF := lh (fun w' (hb : Below w.heap.size w w') => Zb A A' n c n' c' B f x w' (h.below Xh (hb.mono hB)) (h'.below Xh (hb.mono hB)) (nt hB hb.size) hn hn')
 obtain ⟨r, hR⟩ : ∃ r, Qt f x = r := ⟨_, rfl⟩
 rw [hR] at HRF hr ⊢
 have q1 : ((r : Int) != 0) = true := by simp; omega
 have q2 : ¬ (r : Int) = 0 := by omega
 have q3 : ((r : Int) == 0) = false := by simp; omega
 clear h h' hB hR
 obtain ⟨b0, b1, hB, hZ⟩ := bx2 w 30 #[.slice A n c] 65 #[.bool false, .int .u64 0, .string ⟨#[]⟩, .int .u64 0, .string ⟨#[]⟩]
 go_enter Tryz.func44, Tryz.ntmps44
 have x0 := b0.c1
 have HBW := lh hB
 clear hB
 go_wp2_with fail
 generalize ((w.alloc (.cells #[.slice A n c] 30)).alloc (.cells #[.bool false, .int .u64 0, .string ⟨#[]⟩, .int .u64 0, .string ⟨#[]⟩] 65)) = W at *
 refine (HRF.out _ HBW.out).mono ?_
 rintro e w1 ⟨rfl, e8⟩
 have b1 := b1.below e8 b1.lt
 have HB1 := lh (HBW.out.trans (e8.mono HBW.out.size))
 clear x0 e8
 obtain ⟨aB, aC, cJ, cK, cL, cM, cN, cO, cP, cQ, aV, aW, aX, aY, aZ⟩ := b1.f5
 go_wp2
 refine bodyPost_ret (v := .tuple #[.agg #[.bool false, .int .u64 0, .string ⟨#[]⟩, .int .u64 0, .string ⟨#[]⟩], .int .i64 (r : Int)]) (by simp [results, Tryz.results44, go_sem, aV, aW, aX, aY, aZ]) rfl ?_
 exact ⟨rfl, Kl HB1.out (show w.heap.size <= w.heap.size + 1 by omega) _ _ _ _ _⟩
theorem Jgr (wd m : Nat) (h : MX w B A A' n n' wd m f x) (hr : Qt f x = 0) :
  Calls Tryz.prog 44 #[.agg #[.slice A n c], .slice A' n' c'] w (Ret (.tuple #[qV (Zk f x), .int .i64 0]) w) := by
 have hn' := h.hn'
 have hn2 := h.hn2
 have HRF := lh (fun w' (hb : Below w.heap.size w w') => Zb A A' n c n' c' B f x w' (h.next hb).hf (h.next hb).hx (h.next hb).hB (by omega) (by omega))
 rw [hr] at HRF
 have cA := fun w' (hb : Below w.heap.size w w') => Jbh A A' n c n' c' wd B m f x w' (h.next hb)
 obtain ⟨q, hq⟩ : ∃ q, Zk f x = q := ⟨_, rfl⟩
 rw [hq] at cA ⊢
 unfold qV at cA ⊢
 have HG := lh cA
 clear h hr cA hq
 obtain ⟨b0, b1, hB, hZ⟩ := bx2 w 30 #[.slice A n c] 65 #[.bool false, .int .u64 0, .string ⟨#[]⟩, .int .u64 0, .string ⟨#[]⟩]
 go_enter Tryz.func44, Tryz.ntmps44
 have x0 := b0.c1
 have HBW := lh hB
 clear hB
 go_wp2_with fail
 generalize ((w.alloc (.cells #[.slice A n c] 30)).alloc (.cells #[.bool false, .int .u64 0, .string ⟨#[]⟩, .int .u64 0, .string ⟨#[]⟩] 65)) = W at *
 refine (HRF.out _ HBW.out).mono ?_
 rintro e w1 ⟨rfl, e8⟩
 have b0 := b0.below e8 b0.lt
 have b1 := b1.below e8 b1.lt
 have HB1 := lh (HBW.out.trans (e8.mono HBW.out.size))
 clear x0 e8 HBW HRF
 have x0 := b0.c1
 go_wp2_with fail
 refine (HG.out _ HB1.out).mono ?_
 rintro e w2 ⟨rfl, o9⟩
 have b1 := b1.below o9 b1.lt
 have HB2 := lh (HB1.out.trans (o9.mono HB1.out.size))
 clear o9 x0 HB1
 obtain ⟨aB, aC, cJ, cK, cL, cM, cN, cO, cP, cQ, aV, aW, aX, aY, aZ⟩ := b1.f5
 go_wp2
 refine bodyPost_ret (v := .tuple #[.agg #[.bool (decide (q.num < 0)), .int .u64 (lo q.num.natAbs : Int), .string (mo q.num.natAbs), .int .u64 (lo ((qden q)) : Int), .string (mo ((qden q)))], .int .i64 0]) (by simp [results, Tryz.results44, go_sem, aV, aW, aX, aY, aZ]) rfl ?_
 exact ⟨rfl, Kl HB2.out (show w.heap.size <= w.heap.size + 1 by omega) _ _ _ _ _⟩
end
theorem Je1 (A A' : Option Addr) (n c n' c' B : Nat) (f x : List (List Rat)) (w : World) (h : Xa w B A n f) (h' : Xa w B A' n' x) (hB : B <= w.heap.size) (hn : n <= 1000) (hn' : n' <= 1000) (hr : Qt f x ≠ 0) :
  Calls Tryz.prog 33 #[.agg #[.slice A n c], .slice A' n' c'] w (Ret (.tuple #[.agg #[.slice none 0 0], .int .i64 0, .int .i64 (Qt f x : Int)]) w) := by
 have HRF := lh (fun w' (hb : Below w.heap.size w w') => Zb A A' n c n' c' B f x w' (h.below Xh (hb.mono hB)) (h'.below Xh (hb.mono hB)) (nt hB hb.size) hn hn')
 obtain ⟨r, hR⟩ : ∃ r, Qt f x = r := ⟨_, rfl⟩
 rw [hR] at HRF hr ⊢
 have q1 : ((r : Int) != 0) = true := by simp; omega
 have q2 : ¬ (r : Int) = 0 := by omega
 have q3 : ((r : Int) == 0) = false := by simp; omega
 clear h h' hB hR
 obtain ⟨b0, b1, hB, hZ⟩ := bx2 w 30 #[.slice A n c] 30 #[.slice none 0 0]
 go_enter Tryz.func33, Tryz.ntmps33
 have x0 := b0.c1
 have HBW := lh hB
 clear hB
 go_wp2_with fail
 generalize ((w.alloc (.cells #[.slice A n c] 30)).alloc (.cells #[.slice none 0 0] 30)) = W at *
 refine (HRF.out _ HBW.out).mono ?_
 rintro e w1 ⟨rfl, e8⟩
 have b1 := b1.below e8 b1.lt
 have HB1 := lh (HBW.out.trans (e8.mono HBW.out.size))
 clear x0 e8
 obtain ⟨f0, f1, f2⟩ := b1.f1
 go_wp2
 refine bodyPost_ret (v := .tuple #[.agg #[.slice none 0 0], .int .i64 0, .int .i64 (r : Int)]) (by simp [results, Tryz.results33, go_sem, f2]) rfl ?_
 exact ⟨rfl, HB1.out.setCell (show w.heap.size <= w.heap.size + 1 by omega) _⟩
structure MD (w : World) (B : Nat) (A A' : Option Addr) (n n' wd m : Nat) (f x : List (List Rat)) : Prop where
 hf : Zx w B A n f
 hx : Zx w B A' n' x
 hB : B <= w.heap.size
 hn : 1 <= n
 hn2 : n <= 300
 hn' : n' <= 300
 hwd : wd <= 20
 hlf : ∀ l ∈ f, l.length = wd
 hlx : ∀ l ∈ x, l.length = wd
 hm : 1 <= m
 hm2 : m <= 1000000
 hsf : ∀ l ∈ f, ∀ y ∈ l, QS m y
 hsx : ∀ l ∈ x, ∀ y ∈ l, QS m y
section
variable {w w' : World} {B : Nat} {A A' : Option Addr} {n n' wd m : Nat} {f x : List (List Rat)}
theorem MD.next (h : MD w B A A' n n' wd m f x) (hb : Below w.heap.size w w') : MD w' B A A' n n' wd m f x :=
 ⟨h.hf.below Xf (hb.mono h.hB), h.hx.below Xf (hb.mono h.hB), nt h.hB hb.size, h.hn, h.hn2, h.hn', h.hwd, h.hlf, h.hlx, h.hm, h.hm2, h.hsf, h.hsx⟩
theorem MD.near (h : MD w B A A' n n' wd m f x) (c : Nat) {A1 : Option Addr} {c1 : Nat} {r : List Rat} (hr : ReadsR w B A1 wd r) (hx : r ∈ x) : ∀ w', Below w.heap.size w w' ->
  Calls Tryz.prog 41 #[.slice A n c, .slice A1 wd c1] w' fun e w'' => ∃ V, e = .returned (.tuple #[.int .i64 (Qk f r : Int), V]) /\ IsQ w'' w''.heap.size V (Xs f r) /\ Below w'.heap.size w' w'' := fun w' hb =>
 Jcv A A1 n c wd c1 B m f r w' (h.hf.below Xf (hb.mono h.hB)) (hr.below (hb.mono h.hB)) (nt h.hB hb.size) h.hn h.hn2 h.hwd h.hlf h.hm h.hm2 h.hsf (h.hsx r hx)
end
theorem Jbe (A A' : Option Addr) (n c n' c' wd B m : Nat) (f x : List (List Rat)) (w : World) (h : MD w B A A' n n' wd m f x) :
  Calls Tryz.prog 25 #[.slice A n c, .slice A' n' c'] w fun e w' => ∃ v, e = .returned v /\ Own w' 3 iv v (Jl f x) /\ Below w.heap.size w w' := by
 have hlx := h.hx.len
 have hn' := h.hn'
 have H := lh h
 clear h
 go_enter Tryz.func25, Tryz.ntmps25
 go_wp2_with fail
 go_loopw [5, 6] (fun v p wr => ∃ k : Nat, k <= n' /\ p = .int .i64 (k : Int) /\ Own wr 3 iv v (Jl f (x.take k)) /\ (∀ b, v.ownBlock = some b -> w.heap.size <= b) /\ Below w.heap.size w wr) (fun _ p _ => n' - (intOf p).toNat)
 case atStart => exact ⟨0, by omega, rfl, Own.nil_ _ _ _, (fun b h => by cases h), Below.refl _ _⟩
 case round =>
  obtain ⟨k, hk, rfl, ho, cS, o6⟩ := hrel
  rename World => wr
  by_cases bE : k < n'
  ·have k1 : (k : Int) < (n' : Int) := by omega
   obtain ⟨l, hl⟩ : ∃ l, x[k]? = some l := ⟨_, List.getElem?_eq_getElem (by omega)⟩
   obtain ⟨ad, A1, m1, c1, rfl, bK, s9, p8⟩ := H.out.hx.at_ hl
   have cT : m1 = wd := by rw [<- p8.len]; exact H.out.hlx l (List.mem_of_getElem? hl)
   subst cT
   have p9 := Xq (o6.mono H.out.hB) s9 bK
   have aM := H.out.near (c1 := c1) c p8 (List.mem_of_getElem? hl)
   have bU : Jl f (x.take (k + 1)) = Jl f (x.take k) ++ [Qk f l] := by unfold Jl; rw [List.take_add_one, hl]; simp
   have dS : (Jl f (x.take k)).length <= 1000 := by unfold Jl; rw [List.length_map, List.length_take]; omega
   generalize Qk f l = i at *
   generalize Xs f l = q at *
   have HN := lh aM
   have HBW := lh o6
   have HO := lh ho
   have HFR := lh cS
   have HSN := lh bU
   have HLN := lh dS
   clear aM o6 ho cS bU dS s9 p8 hl
   go_wp2_with fail
   refine (HN.out _ HBW.out).mono ?_
   rintro e w1 ⟨V, rfl, hR, e8⟩
   obtain ⟨g9, A9, l9, c9, A9', l9', c9', rfl⟩ := hR.shape
   have o9 := Jb w1 (.cells #[.bool g9, .slice A9 l9 c9, .slice A9' l9' c9'] 56)
   have bA := Ja e8 o9
   have HO1 := lh (HO.out.below bA HO.out.lt)
   have HB1 := lh (HBW.out.trans (bA.mono HBW.out.size))
   clear hR e8 o9 bA HO HBW HN p9
   go_wp2_with (at_builtin; refine Jmt (f := iv) Tryz.eltIntR rfl (.tmp 24) (.tmp 26) rfl (w1.alloc (.cells #[.bool g9, .slice A9 l9 c9, .slice A9' l9' c9'] 56)) _ (Jl f (x.take k)) i (.int .i64 (i : Int)) rfl rfl HO1.out (by simp [Act.eval]) rfl (by have := HLN.out; unfold maxLen; omega) (by have := HLN.out; omega) ?_; intro v' w2 aE dT)
   have bV := HB1.out.trans (dT.below HB1.out.size HFR.out)
   have cU := dT.fresh HB1.out.size HFR.out
   rw [<- HSN.out] at aE
   exact ⟨⟨k + 1, by omega, by go_num, aE, cU, bV⟩, by simp [intOf]; omega⟩
  obtain rfl : k = n' := by omega
  have k1 : ¬ (k : Int) < (k : Int) := by omega
  rw [List.take_of_length_le (by omega)] at ho
  have HO := lh ho
  have HBW := lh o6
  clear ho o6 cS
  go_wp2
  go_ret
  exact ⟨_, rfl, HO.out, HBW.out⟩
structure CD (w : World) (g5 : Nat) (s : Rat) (wr : World) : Prop where
 box : ∃ g A l c A' l' c', Blk wr g5 56 #[.bool g, .slice A l c, .slice A' l' c'] /\ IsQ wr wr.heap.size (.agg #[.bool g, .slice A l c, .slice A' l' c']) s
 res : Blk wr w.heap.size 56 #[.bool false, .slice none 0 0, .slice none 0 0]
 bel : Below w.heap.size w wr
 h5 : w.heap.size < g5
theorem Jdr (A A' : Option Addr) (n c n' c' wd B m : Nat) (f x : List (List Rat)) (w : World) (h : MD w B A A' n n' wd m f x) :
  Calls Tryz.prog 46 #[.slice A n c, .slice A' n' c'] w (Jak (Zk f x) w) := by
 have hlx := h.hx.len
 have hn' := h.hn'
 have HS : Hid (∀ k, k <= n' -> QS 40000000000 (Kw f x k)) := lh fun k hk => by
  refine (Uz h.hm h.hsf h.hsx h.hlf (by rw [h.hf.len]; exact h.hn) k (by omega)).mono ?_
  have h1 := h.hwd
  have h2 := h.hm2
  have h3 := Nat.mul_le_mul h1 (show 4 * m + 3 <= 4000003 by omega)
  have h4 := Nat.mul_le_mul (show k <= 300 by omega) (show wd * (4 * m + 3) + 2 <= 80000062 by omega)
  omega
 have HSN : Hid (∀ l ∈ x, QS 200000000 (Xs f l)) := lh fun l hl => by
  refine (Jdb h.hm h.hsf (h.hsx l hl) h.hlf (by rw [h.hf.len]; exact h.hn)).mono ?_
  have h1 := h.hwd
  have h2 := h.hm2
  have h3 := Nat.mul_le_mul h1 (show 4 * m + 3 <= 4000003 by omega)
  omega
 have H := lh h
 have HOF := lh (fun w => Jb9 0 w (by omega) (by omega))
 clear h
 obtain ⟨b0, hB, hZ⟩ := bx1 w 56 #[.bool false, .slice none 0 0, .slice none 0 0]
 go_enter Tryz.func46, Tryz.ntmps46
 go_upto_region 1 with fail
 generalize (w.alloc (.cells #[.bool false, .slice none 0 0, .slice none 0 0] 56)) = W at *
 go_cut [5] (fun v wc => ∃ g5, v = .pointer (some ⟨g5, 0, none⟩) /\ CD w g5 0 wc)
 case first =>
  go_wp2_with fail
  refine (HOF.out W).mono ?_
  rintro e w1 ⟨V, rfl, hR, e8⟩
  obtain ⟨g9, A9, l9, c9, A9', l9', c9', rfl⟩ := hR.shape
  have b0 := b0.below e8 b0.lt
  go_wp2
  go_meet
  have hs := e8.size
  have hz := hZ.out
  exact ⟨w1.heap.size, rfl, ⟨⟨g9, A9, l9, c9, A9', l9', c9', Blk.new _ _ _, (hR.next zd (Jb _ _)).more (Jb _ _).size⟩, b0.alloc _, Ja (hB.trans (e8.mono hB.size)) (Jb _ _), by omega⟩⟩
 case rest =>
  obtain ⟨g5, rfl, bB⟩ := hcut
  rename World => w1
  have HI := lh bB
  clear bB b0 hB hZ HOF
  go_wp2_with fail
  go_loopw [6] (fun p wr => ∃ (k : Nat) (s : Rat), k <= n' /\ p = .int .i64 (k : Int) /\ Hid (Kw f x k = s) /\ CD w g5 s wr) (fun p _ => n' - (intOf p).toNat)
  case atStart => exact ⟨0, 0, by omega, rfl, lh rfl, HI.out⟩
  case round =>
   obtain ⟨k, s, hk, rfl, aI, bB⟩ := hrel
   rename World => wr
   clear HI
   by_cases bE : k < n'
   ·have k1 : (k : Int) < (n' : Int) := by omega
    obtain ⟨l, hl⟩ : ∃ l, x[k]? = some l := ⟨_, List.getElem?_eq_getElem (by omega)⟩
    obtain ⟨ad, A1, m1, c1, rfl, bK, s9, p8⟩ := H.out.hx.at_ hl
    have cT : m1 = wd := by rw [<- p8.len]; exact H.out.hlx l (List.mem_of_getElem? hl)
    subst cT
    have p9 := Xq (bB.bel.mono H.out.hB) s9 bK
    have aM := H.out.near (c1 := c1) c p8 (List.mem_of_getElem? hl)
    have dU : QS 40000000000 s := by rw [<- aI.out]; exact HS.out k hk
    have bU := HSN.out l (List.mem_of_getElem? hl)
    have bN : Kw f x (k + 1) = s + Xs f l := by
     show Kw f x k + Xs f (x.getD k []) = _
     rw [aI.out, List.getD_eq_getElem?_getD, hl]
     rfl
    generalize Qk f l = i at *
    generalize Xs f l = q at *
    have HN := lh aM
    have HCD := lh bB
    have HNX := lh bN
    have HSS := lh (And.intro dU bU)
    clear aM bB bN dU bU s9 p8 hl aI
    go_upto_region 5 with fail
    go_cut [8] (fun v wc => Jf4 wr q v wc)
    case first =>
     go_wp2_with fail
     refine (HN.out _ HCD.out.bel).mono ?_
     rintro e w2 ⟨V, rfl, hR, o9⟩
     obtain ⟨g9, A9, l9, c9, A9', l9', c9', rfl⟩ := hR.shape
     go_wp2
     go_meet
     exact Jcs o9 hR
    case rest =>
     obtain ⟨g8, ng, A8, l8, c8, A8', l8', c8', rfl, eJ, b8, dV, q8⟩ := hcut
     rename World => w2
     obtain ⟨⟨g9, A9, l9, c9, A9', l9', c9', b5, bC⟩, bD, y8, h5⟩ := HCD.out
     have b5 := b5.below q8 b5.lt
     have bC := (bC.next zd q8).more q8.size
     have b0 := bD.below q8 bD.lt
     have HB8 := lh (y8.trans (q8.mono y8.size))
     have HAD := lh (Jda s q _ _ _ w2 bC dV zd (HSS.out.1.mono (by omega)) (HSS.out.2.mono (by omega)))
     have HNX2 := HNX
     generalize s + q = s' at *
     obtain ⟨x0, x1, x2⟩ := b5.c3
     obtain ⟨y0, y1, y2⟩ := b8.c3
     have B5 := lh b5
     have B0 := lh b0
     clear HCD HN p9 bD y8 q8 bC dV b0 b5 b8 HSS
     go_wp2_with fail
     refine HAD.out.mono ?_
     rintro e w3 ⟨V, rfl, hR, aL⟩
     obtain ⟨gv, Av, lv, cv, Av', lv', cv', rfl⟩ := hR.shape
     have b5 := B5.out.below aL B5.out.lt
     have b0 := B0.out.below aL B0.out.lt
     have HR := lh hR
     have HB3 := lh (HB8.out.trans (aL.mono HB8.out.size))
     clear x0 x1 x2 y0 y1 y2 HAD hR aL HB8 B5 B0
     obtain ⟨f0, f1, f2, f3, f4, f5, f6, f7, f8⟩ := b5.f3
     go_wp2
     have cV := ((b5.set_ 0 (.bool gv)).set_ 1 (.slice Av lv cv)).set_ 2 (.slice Av' lv' cv')
     have eC := HR.out.set3 b5 gv Av Av' lv cv lv' cv'
     refine ⟨⟨k + 1, s', by omega, by go_num, HNX2, ⟨⟨gv, Av, lv, cv, Av', lv', cv', by simpa using cV, by rw [World.size_setCell, World.size_setCell, World.size_setCell]; exact eC⟩, ((b0.far (p := ⟨g5, 0, none⟩) (by simp; omega) _).far (p := ⟨g5, 1, none⟩) (by simp; omega) _).far (p := ⟨g5, 2, none⟩) (by simp; omega) _, ((HB3.out.setCell (show w.heap.size <= g5 by omega) _).setCell (show w.heap.size <= g5 by omega) _).setCell (show w.heap.size <= g5 by omega) _, h5⟩⟩, by simp [intOf]; omega⟩
   obtain rfl : k = n' := by omega
   have k1 : ¬ (k : Int) < (k : Int) := by omega
   have HE : Hid (Zk f x = s) := lh (by unfold Zk; rw [hlx]; exact aI.out)
   obtain ⟨⟨g9, A9, l9, c9, A9', l9', c9', b5, bC⟩, b0, y8, h5⟩ := bB
   obtain ⟨x0, x1, x2⟩ := b5.c3
   obtain ⟨f0, f1, f2, f3, f4, f5, f6, f7, f8⟩ := b0.f3
   have HQ := lh bC
   have HB := lh y8
   clear bC y8 aI
   go_wp2
   refine bodyPost_ret (v := .agg #[.bool g9, .slice A9 l9 c9, .slice A9' l9' c9']) (by simp [results, Tryz.results46, go_sem, f6, f7, f8]) rfl ?_
   refine ⟨_, rfl, ?_, ((HB.out.setCell zd _).setCell zd _).setCell zd _⟩
   rw [HE.out, World.size_setCell, World.size_setCell, World.size_setCell]
   exact HQ.out.set3 b0 _ _ _ _ _ _ _
