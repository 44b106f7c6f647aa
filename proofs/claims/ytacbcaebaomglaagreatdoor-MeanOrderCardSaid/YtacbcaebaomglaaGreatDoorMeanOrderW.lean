import Derived.Test.YtacbcaebaomglaaGreatDoorMeanN
namespace Go.Proofs.YtacbcaebaomglaaGreatDoor
set_option maxRecDepth 100000
set_option maxHeartbeats 8000000
open Go.RowKit
set_option linter.all false
theorem Jqf {P : Program} {t e : TypeId} {z : Value} {size bytes : Nat} (ht : P.underlying t = some (.slice e)) (hi : (P.info? e).map (fun i => (i.zero, i.size, i.bytes)) = some (some z, size, bytes)) (A : Option Addr) (n c : Nat) (k' : IntKind) (h : Int) (h1 : 0 <= h) (h2 : h <= c) (w : World) :
  (Instr.slice t (.slice A n c) none (some (.int k' h)) none).run P w = .ok (.slice (Jb3 A c 0 size) h.toNat c) w := by
 obtain ⟨i0, bU, cZ, bV, aR⟩ := info_parts hi
 have h4 : max h 0 = h := by omega
 simp [h4, Instr.slice, run_underlying ht, Instr.sliceBounds, Instr.sliceBound, asIntOf, sizeOf, typeInfo, bU, h1, h2, bV, Jb3, Result.andThen]
theorem Jqk {B : Nat} {w0 w w1 : World} {v v' : Value} (h : Below B w0 w) (hg : Grew w w1 v v') (hv : ∀ k, v.ownBlock = some k -> B <= k) (hB : B <= w0.heap.size := by omega) : Below B w0 w1 := h.trans (hg.below (nt hB h.size) hv)
theorem OwnS.turned {β : Type} {T : TypeId} {I : World -> Value -> β -> Prop} (K : Kind T I) {w w' : World} {v' : Value} {rl : List SW} {x : List β} {t : Nat} (h2 : rl.length = x.length) (h3 : ∀ (i : Nat) (r : SW) (b : β), rl[i]? = some r -> x[i]? = some b -> I w r.v b) (hb : Below w.heap.size w w') (ho : Own w' T SW.v v' (rl.drop t ++ rl.take t)) : OwnS T I w' v' (x.drop t ++ x.take t) := by
 refine ⟨_, ho, by simp [h2], fun i r b hr e8 => ?_⟩
 by_cases h : i < x.length - t
 ·rw [List.getElem?_append_left (by rw [List.length_drop]; omega), List.getElem?_drop] at hr e8
  exact K.next (h3 _ r b hr e8) hb
 rw [List.getElem?_append_right (by rw [List.length_drop]; omega), List.length_drop] at hr e8
 rw [h2] at hr
 rw [List.getElem?_take] at hr e8
 split at hr
 ·rename_i h4
  rw [if_pos h4] at e8
  exact K.next (h3 _ r b hr e8) hb
 cases hr
theorem Jpw (A : Option Addr) (n1 c1 : Nat) (zl : List Int) (A' : Option Addr) (n2 c2 : Nat) (zc : List Int) (zn zk zw zt : Int) (w : World) (h1 : ArgZ w A n1 c1 zl) (h2 : ArgZ w A' n2 c2 zc) (hn : I64 zn) (hk : I64 zk) (hw : I64 zw) (ht : I64 zt) (hT : Tab w) :
  Calls Tryz.prog 9 #[.slice A n1 c1, .slice A' n2 c2, .int .i64 zn, .int .i64 zk, .int .i64 zw, .int .i64 zt] w (Ret (.bool true) w) := by
 obtain ⟨k4, bW, aS⟩ := Ue zk 4 w hk.1 hk.2 (by omega) (by omega)
 obtain ⟨kk, bX⟩ : ∃ kk, k4 + 1 = kk := ⟨_, rfl⟩
 have e2 : (k4 : Int) + 1 = (kk : Int) := by omega
 have e3 : IntKind.i64.wrap (kk : Int) = (kk : Int) := IntWalk.i64_in _ (by omega)
 obtain ⟨nn, wd, dA, hwd1, bY, aT⟩ := Jpj A n1 c1 zl A' n2 c2 zc zn zw kk w h1 h2 hn hw (by omega)
 have hx : ∀ l ∈ Qp zl wd nn, l.length = wd /\ ∀ y ∈ l, QS 5 y := fun l hl => by
  obtain ⟨zs', rfl⟩ := Zz hl
  exact ⟨Zf zs' wd, Zm zs' wd⟩
 have hf : ∀ l ∈ Qp zc wd kk, l.length = wd /\ ∀ y ∈ l, QS 5 y := fun l hl => by
  obtain ⟨zs', rfl⟩ := Zz hl
  exact ⟨Zf zs' wd, Zm zs' wd⟩
 have aA := Xp zl wd nn
 have aB := Xp zc wd kk
 generalize Qp zl wd nn = x at *
 generalize Qp zc wd kk = f at *
 have aC : 1 <= kk := by omega
 have bZ : kk <= 4 := by omega
 have HX := lh hx
 have HF := lh hf
 have HL := lh (And.intro aA aB)
 have HP4 := lh aS
 have HDR := lh aT
 have HT := lh hT
 have HOF := lh (Jgf (wd := wd) (k := 5) aB (by omega) (by omega) (fun l hl => (hf l hl).1) (fun l hl => (hf l hl).2) (by omega))
 have HIN := lh (Jgt (wd := wd) (k := 5) aA (by omega) (by omega) (fun l hl => (hx l hl).1) (fun l hl => (hx l hl).2) (by omega))
 clear hx hf aA aB aT aS hT h1 h2 hn hk hw bX bW
 go_enter Tryz.func9, Tryz.ntmps9
 go_wp2_with fail
 refine (HP4.out _).mono ?_
 rintro e w1 ⟨rfl, rfl⟩
 go_wp2_with fail
 refine HDR.out.mono ?_
 rintro e w1 ⟨Ax, cx, Am, cm, rfl, aU, aV, aW⟩
 have HX1 := lh aU
 have HF1 := lh aV
 have HB1 := lh aW
 clear aU aV aW HDR HP4
 have HLE := lh (Jko Ax nn cx w1.heap.size wd x w1 (OwnS.readS (fun h => OwnR.reads_ h) HX1.out) zd (by omega) hwd1 (by omega) (fun l hl => (HX.out l hl).1))
 go_wp2_with fail
 refine HLE.out.mono ?_
 rintro e w2 ⟨rfl, u4⟩
 have HX2 := lh (OwnS.next Tryz.kindRR HX1.out u4)
 have HF2 := lh (OwnS.next Tryz.kindRR HF1.out u4)
 have HB2 := lh (Ja HB1.out u4)
 clear u4 HLE HX1 HF1 HB1
 have HKN := lh (fun w' (hb : Below w2.heap.size w2 w') => Ug w' (HT.out.next (Ja HB2.out hb)))
 by_cases aD : 1 <= nn
 case neg =>
  rw [decide_eq_false aD]
  go_wp2_with fail
  refine (HKN.out _ (Below.refl _ _)).mono ?_
  rintro e w3 ⟨rfl, aX⟩
  have HB3 := lh (Ja HB2.out aX)
  clear aX
  go_wp2
  go_ret
  exact ⟨rfl, HB3.out⟩
 rw [decide_eq_true aD]
 obtain ⟨t, dB, aY⟩ := Ue zt nn w2 ht.1 ht.2 aD (by omega)
 have HPT := lh aY
 clear aY ht
 go_wp2_with fail
 refine (HPT.out _).mono ?_
 rintro e w3 ⟨rfl, rfl⟩
 obtain ⟨rl, aE, aF, aZ⟩ := HX2.out
 have x7 : rl.length = nn := by rw [aF]; exact HL.out.1
 obtain ⟨A', c', bA, cA, cB⟩ := Own.form aE
 rw [x7] at bA cA
 injection bA with e1 e2' e4
 subst e1 e4
 have x8 := Own.reads aE
 rw [x7] at x8
 have cC : ∀ w, (Instr.slice 24 (.slice Ax nn cx) none (some (.int .i64 (t : Int))) none).run Tryz.prog w = .ok (.slice (Jb3 Ax cx 0 1) t cx) w := fun w => by
  have := Jqf (P := Tryz.prog) (Tryz.eltM).under (Tryz.eltM).info Ax nn cx .i64 (t : Int) (by omega) (by omega) w
  rw [this]
  rfl
 have cD : ∀ w, (Instr.slice 24 (.slice Ax nn cx) (some (.int .i64 (t : Int))) none none).run Tryz.prog w = .ok (.slice (Jb3 Ax cx t 1) (nn - t) (cx - t)) w := fun w => by
  have := Jc9 (P := Tryz.prog) (Tryz.eltM).under (Tryz.eltM).info Ax nn cx .i64 (t : Int) (by omega) (by omega) w
  rw [this]
  rfl
 have r48 : ∀ w', Below w2.heap.size w2 w' -> Reads w' w2.heap.size 1 (Jb3 Ax cx 0 1) t ((rl.take t).map SW.v) := fun w' hb => by
  have := (x8.below hb).part cx 0 t (by omega) (by omega)
  rw [Nat.zero_mul, List.drop_zero, Nat.mul_one, <- List.map_take] at this
  exact this
 have r44 : ∀ w', Below w2.heap.size w2 w' -> Reads w' w2.heap.size 1 (Jb3 Ax cx t 1) (nn - t) ((rl.drop t).map SW.v) := fun w' hb => by
  have := (x8.below hb).part cx t (nn - t) (by omega) (by omega)
  rw [Nat.mul_one, Nat.mul_one, <- List.map_drop, <- List.map_take, List.take_of_length_le (by rw [List.length_drop, x7]; omega)] at this
  exact this
 have c41 : Own (w2.alloc (.cells #[] 42)) 42 SW.v (.slice (some ⟨w2.heap.size, 0, none⟩) 0 0) [] := Own.lit w2 42 SW.v [] (by unfold maxLen; simp)
 have HX3 := lh aZ
 have HRL := lh (And.intro aF x7)
 have HROX := lh HX2.out
 have p1 : (t : Int) <= (nn : Int) := by omega
 have cE : nn <= 1000 := by omega
 clear aE aF aZ x8 cB HX2
 go_upto_region 5 with fail
 go_cut [16] (fun y wc => ∃ Ay cy, y = .slice Ay nn cy /\ Zs wc (.slice Ay nn cy) (x.drop t ++ x.take t) /\ Below w2.heap.size w2 wc)
 case first =>
  go_region_law (first | (refine Jqb Tryz.eltM rfl (.tmp 41) (.tmp 44) rfl ((w2.alloc (.cells #[] 42)).drew) _ [] w2.heap.size _ (nn - t) (cx - t) (rl.drop t) (by simp [Act.eval, Act.put]) c41 (by simp [Act.eval, Act.put]) (r44 _ (Jy (Jb w2 (.cells #[] 42)) 1)) SW.one (by unfold maxLen; simp; omega) (by simp; omega) ?_; intro v5 w5 x9 bB; have j7 := Jqk (Jy (Jb w2 (.cells #[] 42)) 1) bB (by intro k hk; simp [Value.ownBlock] at hk; omega); have cF := bB.fresh (Jy (Jb w2 (.cells #[] 42)) 1).size (by intro k hk; simp [Value.ownBlock] at hk; omega)) | (refine Jqb Tryz.eltM rfl (.tmp 45) (.tmp 48) rfl w5 _ (rl.drop t) w2.heap.size _ t cx (rl.take t) (by simp [Act.eval, Act.put]) x9 (by simp [Act.eval, Act.put]) (r48 _ j7) SW.one (by unfold maxLen; rw [List.length_drop]; omega) (by rw [List.length_drop]; omega) ?_; intro v7 w7 bC cG; have j8 := Jqk j7 cG cF))
  all_goals
   go_wp2
   go_meet
   obtain ⟨Ay, cy, bD, -, -⟩ := Own.form bC
   have cH : (rl.drop t ++ rl.take t).length = nn := by rw [List.length_append, List.length_drop, List.length_take, HRL.out.2]; omega
   rw [cH] at bD
   subst bD
   exact ⟨Ay, cy, rfl, OwnS.turned Tryz.kindRR HRL.out.1 HX3.out j8 bC, j8⟩
 case rest =>
  obtain ⟨Ay, cy, rfl, bE, p8⟩ := hcut
  rename World => w3
  have HY3 := lh bE
  have HX3 := lh (OwnS.next Tryz.kindRR HROX.out p8)
  have HF3 := lh (OwnS.next Tryz.kindRR HF2.out p8)
  have HB3 := lh (Ja HB2.out p8)
  have HKN3 := lh (fun w' (hb : Below w3.heap.size w3 w') => HKN.out w' (Ja p8 hb))
  clear bE p8 HF2 HB2 HKN HROX r44 r48 c41 cC cD
  obtain ⟨y, hy⟩ : ∃ y, x.drop t ++ x.take t = y := ⟨_, rfl⟩
  rw [hy] at HY3
  have p9 : y.length = nn := by rw [<- hy, List.length_append, List.length_drop, List.length_take, HL.out.1]; omega
  have q8 : ∀ l ∈ y, l.length = wd /\ ∀ z ∈ l, QS 5 z := fun l hl => by
   rw [<- hy] at hl
   rcases List.mem_append.1 hl with h | h
   ·exact HX.out l (List.mem_of_mem_drop h)
   exact HX.out l (List.mem_of_mem_take h)
  have o0 : ∀ i, Qj wd y f i = Qj wd x f i /\ Ze wd y f i = Ze wd x f i := fun i => by
   have h := Jp9 (wd := wd) (f := f) (a := x.take t) (b := x.drop t) i
   rw [List.take_append_drop, hy] at h
   exact h
  have bF : ∀ F i, i < nn -> (Jl F y)[i]? = (Jl F x)[(i + t) % nn]? := fun F i hi => by
   rw [<- hy, Jp8 F x t i (by rw [HL.out.1]; omega) (by rw [HL.out.1]; exact hi), HL.out.1]
  have HYM := lh q8
  have HYL := lh p9
  have HINY := lh (Jgt (wd := wd) (k := 5) p9 (by omega) (by omega) (fun l hl => (q8 l hl).1) (fun l hl => (q8 l hl).2) (by omega))
  have y8 := Vo HL.out.2 (fun l hl => (HF.out l hl).1) (by omega) (by omega) (show kk <= 12 by omega)
  rw [if_pos aC] at y8
  have aG : ∀ z : List (List Rat), z.length = nn -> (∀ l ∈ z, l.length = wd) -> Qt f z = 0 := fun z hz aR => by
   have := Vz hz HL.out.2 aR (fun l hl => (HF.out l hl).1) hwd1 (by omega) hwd1 (by omega) (by omega) (by omega)
   rw [this]
   unfold Ko
   rw [if_neg (by omega), if_neg (by omega)]
  have aH : ∀ (z : List (List Rat)) (w' : World) (A A' : Option Addr) (c c' : Nat), (∀ l ∈ z, l.length = wd /\ ∀ y ∈ l, QS 5 y) -> OwnQQ w' (.slice A kk c) f -> OwnQQ w' (.slice A' nn c') z -> Tab w' -> MF w' w'.heap.size A A' kk nn wd 200 5 f z := fun z w' A A' c c' hz h1 h2 hT => ⟨⟨OwnS.readS (fun h => OwnQ.reads_ h) h1, OwnS.readS (fun h => OwnQ.reads_ h) h2, Nat.le_refl _, aC, by omega, by omega, by omega, fun l hl => (HF.out l hl).1, fun l hl => (hz l hl).1, by omega, by omega, fun l hl y hy => ((HF.out l hl).2 y hy).mono (by omega), fun l hl y hy => ((hz l hl).2 y hy).mono (by omega), hT⟩, by omega, by have := Nat.mul_le_mul (show nn <= 8 by omega) (show 5 + 1 <= 6 by omega); omega, fun l hl => (hz l hl).2, hwd1⟩
  have bG := fun w' A A' c c' h1 h2 hT => Jfj A A' kk c nn c' wd w'.heap.size 200 5 200 f x w' (aH x w' A A' c c' HX.out h1 h2 hT) (by omega) y8 (aG x HL.out.1 (fun l hl => (HX.out l hl).1))
  have aI := fun w' A A' c c' h1 h2 hT => Jfj A A' kk c nn c' wd w'.heap.size 200 5 200 f y w' (aH y w' A A' c c' HYM.out h1 h2 hT) (by omega) y8 (aG y p9 (fun l hl => (q8 l hl).1))
  rw [(o0 200).1, (o0 200).2] at aI
  have bH : ∀ l ∈ Qj wd x f 200, ∀ y ∈ l, QS 200 y := Jb2 (mx := 5) (by omega) (by have := HL.out.1; omega) (by have h1 := HL.out.1; have := Nat.mul_le_mul (show x.length <= 8 by omega) (show 5 + 1 <= 6 by omega); omega) (fun l hl => (HX.out l hl).2) (fun l hl y hy => ((HF.out l hl).2 y hy).mono (by omega)) 200
  have bI : ∀ i, ∀ l ∈ Qj wd x f i, ∀ y ∈ l, QS 200 y := Jb2 (mx := 5) (by omega) (by have := HL.out.1; omega) (by have h1 := HL.out.1; have := Nat.mul_le_mul (show x.length <= 8 by omega) (show 5 + 1 <= 6 by omega); omega) (fun l hl => (HX.out l hl).2) (fun l hl y hy => ((HF.out l hl).2 y hy).mono (by omega))
  have aJ : ∀ i, ∀ l ∈ Qj wd x f i, l.length = wd := Jb0 (fun l hl => (HF.out l hl).1)
  have aK : ∀ i, (Qj wd x f i).length = kk := fun i => by rw [Jb1]; exact HL.out.2
  have aL : ∀ y ∈ Ze wd x f 200, QS 549755813888 y := fun y hy => by
   obtain ⟨j, rfl⟩ := Jea 200 hy
   refine (Uz (m := 200) (wd := wd) (by omega) (bI j) (fun l hl y hy => ((HX.out l hl).2 y hy).mono (by omega)) (aJ j) (by rw [aK]; exact aC) x.length zd).mono ?_
   have h1 := HL.out.1
   have := Nat.mul_le_mul (show x.length <= 8 by omega) (show wd * (4 * 200 + 3) + 2 <= 2411 by omega)
   omega
  have cI := Jag (wd := wd) (x := x) (f := f) 200
  obtain ⟨nk, aM⟩ : ∃ nk, (Ze wd x f 200).length = nk := ⟨_, rfl⟩
  rw [aM] at cI
  have bJ := aJ 200
  have cJ := aK 200
  have bK : (Jl (Qj wd x f 200) x).length = nn := by unfold Jl; rw [List.length_map]; exact HL.out.1
  have bL : (Jl (Qj wd x f 200) y).length = nn := by unfold Jl; rw [List.length_map]; exact p9
  have p7 := bF (Qj wd x f 200)
  generalize Qj wd x f 200 = F at *
  generalize Ze wd x f 200 = K at *
  generalize Jl F x = gl1 at *
  generalize Jl F y = gl2 at *
  have HFX := lh bG
  have HFY := lh aI
  have HGT := lh (And.intro bK (And.intro bL p7))
  have HNK := lh aM
  have hsm := fun (w' : World) (A A' : Option Addr) (c c' : Nat) (h : OwnQQ w' (.slice A kk c) F) (h' : OwnQQ w' (.slice A' kk c') F) => Jqh A A' kk c c' w'.heap.size w'.heap.size F w' (OwnS.readS (fun h => OwnQ.reads_ h) h) (OwnS.readS (fun h => OwnQ.reads_ h) h') zd zd (by omega) (fun l hl => ⟨by rw [bJ l hl]; omega, fun y hy => (bH l hl y hy).mono (by omega)⟩)
  have aN := fun (w' : World) (A A' : Option Addr) (c c' : Nat) (h : OwnQ w' (.slice A nk c) K) (h' : OwnQ w' (.slice A' nk c') K) => Jjh A A' nk c c' w'.heap.size w'.heap.size K K w' (OwnQ.reads_ h) (OwnQ.reads_ h') zd zd (by omega) aL aL
  simp only [decide_true] at aN
  have HSM := lh hsm
  have HSK := lh aN
  clear q8 p9 o0 bF y8 aG aH bG aI bH bI aJ aK aL aM bJ cJ bK bL p7 hsm aN hy
  go_wp2_with fail
  refine (HIN.out _ _ _ HX3.out (HT.out.next HB3.out)).mono ?_
  rintro e w4 ⟨A4, c4, rfl, bM, y9⟩
  have HQ4 := lh bM
  have HY4 := lh (OwnS.next Tryz.kindRR HY3.out y9)
  have HF4 := lh (OwnS.next Tryz.kindRR HF3.out y9)
  have HB4 := lh y9
  clear bM y9 HX3 HY3 HF3 HIN
  go_wp2_with fail
  refine (HOF.out _ _ _ HF4.out (HT.out.next (Ja HB3.out HB4.out))).mono ?_
  rintro e w5 ⟨A5, c5, rfl, x9, j7⟩
  have HP5 := lh x9
  have HQ5 := lh (OwnS.next Tryz.kindQQ HQ4.out j7)
  have HY5 := lh (OwnS.next Tryz.kindRR HY4.out j7)
  have HF5 := lh (OwnS.next Tryz.kindRR HF4.out j7)
  have HB5 := lh (Ja HB4.out j7)
  clear x9 j7 HQ4 HY4 HF4 HB4
  go_wp2_with fail
  refine (HFX.out _ _ _ _ _ HP5.out HQ5.out (HT.out.next (Ja HB3.out HB5.out))).mono ?_
  rintro e w6 ⟨gd, gg, kv, rfl, dC, s9, o6, o7, bN⟩
  obtain ⟨Ak, ck, aO⟩ := OwnQ.formNm o6 HNK.out
  subst aO
  have j8 := Jb w6 (.cells #[.slice (some ⟨gd, 0, none⟩) kk kk, .slice (some ⟨gg, 0, none⟩) nn nn, .slice Ak nk ck] 33)
  have e8 := Ja bN j8
  have HM7 : Hid (OwnQQ _ (.slice (some ⟨gd, 0, none⟩) kk kk) F) := lh (OwnS.next Tryz.kindQQ s9.plain j8)
  have HG7 := lh (o7.below j8 o7.lt)
  have HK7 := lh (OwnW.next o6 j8)
  have B1 := lh (Blk.new w6 33 #[.slice (some ⟨gd, 0, none⟩) kk kk, .slice (some ⟨gg, 0, none⟩) nn nn, .slice Ak nk ck])
  have HY7 := lh (OwnS.next Tryz.kindRR HY5.out e8)
  have HF7 := lh (OwnS.next Tryz.kindRR HF5.out e8)
  have HB7 := lh (Ja HB5.out e8)
  clear s9 o6 o7 bN j8 e8 HFX HP5 HQ5 HY5 HF5 HB5
  go_wp2_with fail
  refine (HINY.out _ _ _ HY7.out (HT.out.next (Ja HB3.out HB7.out))).mono ?_
  rintro e w8 ⟨A8, c8, rfl, bO, o8⟩
  have HQ8 := lh bO
  have HM8 := lh (OwnS.next Tryz.kindQQ HM7.out o8)
  have HG8 := lh (HG7.out.below o8 HG7.out.lt)
  have HK8 := lh (OwnW.next HK7.out o8)
  have B2 := lh (B1.out.below o8 B1.out.lt)
  have HF8 := lh (OwnS.next Tryz.kindRR HF7.out o8)
  have HB8 := lh (Ja HB7.out o8)
  clear bO o8 HINY HY7 HM7 HG7 HK7 B1 HF7 HB7
  go_wp2_with fail
  refine (HOF.out _ _ _ HF8.out (HT.out.next (Ja HB3.out HB8.out))).mono ?_
  rintro e w9 ⟨A9, c9, rfl, bP, o9⟩
  have HP9 := lh bP
  have HQ9 := lh (OwnS.next Tryz.kindQQ HQ8.out o9)
  have HM9 := lh (OwnS.next Tryz.kindQQ HM8.out o9)
  have HG9 := lh (HG8.out.below o9 HG8.out.lt)
  have HK9 := lh (OwnW.next HK8.out o9)
  have B3 := lh (B2.out.below o9 B2.out.lt)
  have HB9 := lh (Ja HB8.out o9)
  clear bP o9 HOF HF8 HQ8 HM8 HG8 HK8 B2 HB8
  go_wp2_with fail
  refine (HFY.out _ _ _ _ _ HP9.out HQ9.out (HT.out.next (Ja HB3.out HB9.out))).mono ?_
  rintro e w10 ⟨gd', gg', kv', rfl, cK, s9, o6, o7, t7⟩
  obtain ⟨Ak', ck', aO⟩ := OwnQ.formNm o6 HNK.out
  subst aO
  have j6 := Jb w10 (.cells #[.slice (some ⟨gd', 0, none⟩) kk kk, .slice (some ⟨gg', 0, none⟩) nn nn, .slice Ak' nk ck'] 33)
  have e8 := Ja t7 j6
  have HN11 : Hid (OwnQQ _ (.slice (some ⟨gd', 0, none⟩) kk kk) F) := lh (OwnS.next Tryz.kindQQ s9.plain j6)
  have HH11 := lh (o7.below j6 o7.lt)
  have HL11 := lh (OwnW.next o6 j6)
  have b5 := Blk.new w10 33 #[.slice (some ⟨gd', 0, none⟩) kk kk, .slice (some ⟨gg', 0, none⟩) nn nn, .slice Ak' nk ck']
  have HM11 := lh (OwnS.next Tryz.kindQQ HM9.out e8)
  have HG11 := lh (HG9.out.below e8 HG9.out.lt)
  have HK11 := lh (OwnW.next HK9.out e8)
  have b4 := B3.out.below e8 B3.out.lt
  have HB11 := lh (Ja HB9.out e8)
  obtain ⟨x0, x1, x2⟩ := b4.c3
  obtain ⟨y0, y1, y2⟩ := b5.c3
  have q0 : ((nn : Int) != (nn : Int)) = false := by simp
  have B4 := lh b4
  have B5 := lh b5
  have HSM1 := lh (HSM.out _ _ _ _ _ HM11.out HN11.out)
  clear s9 o6 o7 t7 j6 e8 HFY HP9 HQ9 HM9 HG9 HK9 B3 HB9 b4 b5
  go_wp2_with fail
  refine HSM1.out.mono ?_
  rintro e w12 ⟨rfl, e9⟩
  have HH12 := lh (HH11.out.below e9 HH11.out.lt)
  have HG12 := lh (HG11.out.below e9 HG11.out.lt)
  have HSK2 := lh (HSK.out _ _ _ _ _ (OwnW.next HK11.out e9) (OwnW.next HL11.out e9))
  have b4 := B4.out.below e9 B4.out.lt
  have b5 := B5.out.below e9 B5.out.lt
  have HB12 := lh (Ja HB11.out e9)
  clear x0 x1 x2 y0 y1 y2 e9 HSM1 HN11 HM11 HH11 HG11 HK11 HL11 B4 B5 HB11
  obtain ⟨x0, x1, x2⟩ := b4.c3
  obtain ⟨y0, y1, y2⟩ := b5.c3
  go_wp2_with fail
  refine HSK2.out.mono ?_
  rintro e w13 ⟨rfl, j0⟩
  have HH13 := lh (HH12.out.below j0 HH12.out.lt)
  have HG13 := lh (HG12.out.below j0 HG12.out.lt)
  have B4 := lh (b4.below j0 b4.lt)
  have B5 := lh (b5.below j0 b5.lt)
  have HB13 := lh (Ja HB12.out j0)
  clear x0 x1 x2 y0 y1 y2 j0 HH12 HG12 HSK2 b4 b5 HB12
  have HKN13 := lh (fun w' (hb : Below w13.heap.size w13 w') => HKN3.out w' (Ja HB13.out hb))
  obtain ⟨ga, aP⟩ : ∃ ga, w6.heap.size = ga := ⟨_, rfl⟩
  obtain ⟨gb, aQ⟩ : ∃ gb, w10.heap.size = gb := ⟨_, rfl⟩
  rw [aP] at B4
  rw [aQ] at B5
  go_wp2_with fail
  try rw [aP]
  try rw [aQ]
  clear aP aQ
  go_loopw [21] (fun p wr => ∃ i : Nat, i <= nn /\ p = .int .i64 (i : Int) /\ Below w13.heap.size w13 wr) (fun p _ => nn - (intOf p).toNat)
  case atStart => exact ⟨0, by omega, rfl, Below.refl _ _⟩
  case round =>
   obtain ⟨i, hi, rfl, j9⟩ := hrel
   rename World => wr
   by_cases cL : i < nn
   ·have k1 : (i : Int) < (nn : Int) := by omega
    obtain ⟨s, hs⟩ : ∃ s, i + t = s := ⟨_, rfl⟩
    obtain ⟨j, hj⟩ : ∃ j, s % nn = j := ⟨_, rfl⟩
    have bQ : j < nn := by rw [<- hj]; exact Nat.mod_lt _ (by omega)
    have r1 : (i : Int) + (t : Int) = (s : Int) := by omega
    have r2 : IntKind.i64.wrap (s : Int) = (s : Int) := IntWalk.i64_in _ (by omega)
    have r3 : (s : Int).tmod (nn : Int) = (j : Int) := by rw [<- hj]; exact (Int.ofNat_tmod s nn).symm
    have r4 : ¬ (nn : Int) = 0 := by omega
    have r5 : ¬ nn = 0 := by omega
    have r6 : (j : Int) < (nn : Int) := by omega
    have p7 := HGT.out.2.2 i cL
    rw [hs, hj] at p7
    have hh := HH13.out.below j9 HH13.out.lt
    have hg := HG13.out.below j9 HG13.out.lt
    obtain ⟨v, hv⟩ : ∃ v, gl1[j]? = some v := ⟨_, List.getElem?_eq_getElem (by rw [HGT.out.1]; exact bQ)⟩
    have bR := p7.trans hv
    have z1 := Own.cellf (g := gg) (c := nn) (by have := HGT.out.1; rw [this]; exact hg) hv
    have z2 := Own.cellf (g := gg') (c := nn) (by have := HGT.out.2.1; rw [this]; exact hh) bR
    unfold iv at z1 z2
    have b3 := At1.mk' z1
    have b2 := At1.mk' z2
    have b4 := B4.out.below j9 B4.out.lt
    have b5 := B5.out.below j9 B5.out.lt
    have q3 : ((v : Int) != (v : Int)) = false := by simp
    have bS : (⟨gg, 0, none⟩ : Addr).add j = ⟨gg, j, none⟩ := by rcases j with _ | i <;> simp [Addr.add]
    have bT : (⟨gg', 0, none⟩ : Addr).add i = ⟨gg', i, none⟩ := by rcases i with _ | i <;> simp [Addr.add]
    have HBW := lh j9
    clear j9 hs hj bQ p7 hh hg hv bR z1 z2
    go_upto_region 13 with fail
    obtain ⟨cM, cN, cO⟩ := b4.c3; have c4 := b4.drew; have dD := c4.lt; obtain ⟨cP, cQ, cS⟩ := b5.c3; have c5 := b5.drew; have dE := c5.lt; obtain ⟨cT, cU⟩ := b3.c2; have c3 := b3.drew; have dF := c3.lt; obtain ⟨cV, cW⟩ := b2.c2; have c2 := b2.drew; have dG := c2.lt; have hc := Ji wr; go_region_held3 (fun w' => w'.cell? ⟨ga, 0, none⟩ = some (.slice (some ⟨gd, 0, none⟩) kk kk) /\ w'.cell? ⟨ga, 1, none⟩ = some (.slice (some ⟨gg, 0, none⟩) nn nn) /\ w'.cell? ⟨ga, 2, none⟩ = some (.slice Ak nk ck) /\ w'.cell? ⟨gb, 0, none⟩ = some (.slice (some ⟨gd', 0, none⟩) kk kk) /\ w'.cell? ⟨gb, 1, none⟩ = some (.slice (some ⟨gg', 0, none⟩) nn nn) /\ w'.cell? ⟨gb, 2, none⟩ = some (.slice Ak' nk ck') /\ w'.cell? ⟨gg, j, none⟩ = some (.int .i64 (v : Int)) /\ w'.cell? ⟨gg', i, none⟩ = some (.int .i64 (v : Int))) (go_keep) (first | (fail))
    all_goals
     go_wp2
     exact ⟨⟨i + 1, by omega, by go_num, HBW.out.trans (hc.mono HBW.out.size)⟩, by simp [intOf]; omega⟩
   obtain rfl : i = nn := by omega
   have k1 : ¬ (i : Int) < (i : Int) := by omega
   have HBW := lh j9
   clear j9
   go_wp2_with fail
   refine (HKN13.out _ HBW.out).mono ?_
   rintro e w15 ⟨rfl, t8⟩
   have HB15 := lh (Ja HBW.out t8)
   clear t8
   go_wp2
   go_ret
   exact ⟨rfl, Ja (Ja HB3.out HB13.out) HB15.out⟩
