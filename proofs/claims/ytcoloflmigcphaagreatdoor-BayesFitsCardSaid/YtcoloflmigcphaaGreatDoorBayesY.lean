import Derived.Test.YtcoloflmigcphaaGreatDoorBayesE
namespace Go.Proofs.YtcoloflmigcphaaGreatDoor
set_option maxRecDepth 100000
set_option maxHeartbeats 8000000
open Go.RowKit
set_option linter.all false
def Jqz (x : Int) : List Int := List.replicate (max 0 (min x 12)).toNat 0
def Jp6 (n : Int) (ws : List Int) (q : Rat) : BM := if n < 1 \/ 12 < n \/ 20 < ws.length then ⟨q, ws, [], []⟩ else ⟨q, ws, List.replicate n.toNat 0, List.replicate n.toNat (ws.map Jqz)⟩
theorem Jp5 {n : Nat} {ws : List Int} {q : Rat} (h : Xk n ws = true) : Jp6 n ws q = Uw n ws q := by
 unfold Xk at h
 simp only [Bool.and_eq_true, List.all_eq_true, decide_eq_true_iff] at h
 unfold Jp6 Uw
 rw [if_neg (by omega), Int.toNat_natCast]
 congr 2
 refine List.map_congr_left fun x hx => ?_
 have := h.2 x hx
 unfold Jqz
 rw [show max 0 (min x 12) = x by omega]
def DocO (L : Nat) (x0 x1 x2 : Value) (m : BM) (v : Value) (w : World) : Prop := ∃ (W S C : SW) (F G H : Nat -> Prop), v = .agg #[x0, x1, x2, W.v, S.v, C.v] /\ OwB 3 22 65 L w W S C F G H m
theorem DocP.seenApp {L g : Nat} {w2 w4 : World} {x0 x1 x2 xw : Value} {ss : List Int} {cs : List (List (List Int))} {AS A4 : Option Addr} {nS cS n4 c4 : Nat} {C : SW} {G H : Nat -> Prop} {z : Int} (bk : Blk w2 g 31 #[x0, x1, x2, xw, .slice AS nS cS, C.v]) (hs : NRow 3 zv w2 G (.slice AS nS cS) ss) (hc : Nest 65 (Nest 22 (NRow 3 zv)) w2 H C.v cs)
  (h1 : ∀ k, G k -> ¬ H k) (h2 : ¬ G g) (h3 : ¬ H g) (hL : ∀ k, (k = g \/ G k \/ H k) -> L <= k) (j0 : Grew w2 w4 (.slice AS nS cS) (.slice A4 n4 c4)) (hn : Own w4 3 zv (.slice A4 n4 c4) (ss ++ [z])) (dB : L <= w2.heap.size) :
  ∃ Z', DocP L (w4.setCell ⟨g, 4, none⟩ (.slice A4 n4 c4)) g x0 x1 x2 xw (ss ++ [z]) cs Z' /\ (∀ k, Z' k -> (k = g \/ G k \/ H k) \/ w2.heap.size <= k) /\ w2.heap.size <= (w4.setCell ⟨g, 4, none⟩ (.slice A4 n4 c4)).heap.size /\ ∀ k, k < w2.heap.size -> ¬ (k = g \/ G k \/ H k) -> (w4.setCell ⟨g, 4, none⟩ (.slice A4 n4 c4)).heap[k]? = w2.heap[k]? := by
 have j8 : ∀ x, (Value.slice AS nS cS).ownBlock = some x -> G x := fun x hx => (hs.2 x).2 hx
 have hr := Js 3 zv
 have bG := NRow.of hn
 have bk4 : Blk w4 g 31 #[x0, x1, x2, xw, .slice AS nS cS, C.v] := (j0.block g bk.lt fun e => h2 (j8 g e.symm)).trans bk
 have hx : Exc g w4 (w4.setCell ⟨g, 4, none⟩ (.slice A4 n4 c4)) := (Exc.refl g w4).set_ 4 _
 have k4 : ∀ x, (Value.slice A4 n4 c4).ownBlock = some x -> L <= x /\ ¬ H x /\ x ≠ g /\ (G x \/ w2.heap.size <= x) := fun x hx => by
  rcases j0.own x hx with h | h
  ·exact ⟨hL x (.inr (.inl (j8 x h))), h1 x (j8 x h), fun e => h2 (by rw [<- e]; exact j8 x h), .inl (j8 x h)⟩
  have := bk.lt
  exact ⟨by omega, fun e => by have := hc.lt (Xt hr _) e; omega, by omega, .inr h⟩
 have loc2 : ∀ x, H x -> (w4.setCell ⟨g, 4, none⟩ (.slice A4 n4 c4)).heap[x]? = w2.heap[x]? := fun x aM => (hx.block x (Nat.lt_of_lt_of_le (hc.lt (Xt hr _) aM) j0.size) fun e => h3 (by rw [<- e]; exact aM)).trans (j0.block x (hc.lt (Xt hr _) aM) fun e => h1 x (j8 x e.symm) aM)
 refine ⟨fun k => k = g \/ (Value.slice A4 n4 c4).ownBlock = some k \/ H k, ⟨⟨A4, n4, c4⟩, C, fun k => (Value.slice A4 n4 c4).ownBlock = some k, H, (by have h := bk4.set_ 4 (.slice A4 n4 c4); simp only [SW.v]; simpa [SW.v] using h), hr.loc bG hx.size fun x h => hx.block x (hr.lt bG h) (k4 x h).2.2.1, hc.loc (Xt hr _) (nt j0.size hx.size) loc2, fun x h => (k4 x h).2.1, fun h => (k4 g h).2.2.1 rfl, h3, fun k => Iff.rfl, fun k hk => ?_⟩, fun k hk => ?_, nt j0.size hx.size, fun k hk bH => ?_⟩
 ·rcases hk with h | h | h
  ·exact hL k (.inl h)
  ·exact (k4 k h).1
  exact hL k (.inr (.inr h))
 ·rcases hk with h | h | h
  ·exact .inl (.inl h)
  ·rcases (k4 k h).2.2.2 with h | h
   ·exact .inl (.inr (.inl h))
   exact .inr h
  exact .inl (.inr (.inr h))
 exact (hx.block k (Nat.lt_of_lt_of_le hk j0.size) fun e => bH (.inl e)).trans (j0.block k hk fun e => bH (.inr (.inl (j8 k e.symm))))
def Jqm : Nat -> Nat
 | 1 => 1
 | 3 => 1
 | 5 => 2
 | _ => 0
structure NewR (W : World) (ws : List Int) (y1 y2 y3 : Value) (x2 : Value) (d : Nat -> Bool) (val : Nat -> Value) (w : World) : Prop where
 bel : Below W.heap.size W w
 ap : Apart Jqm W.heap.size w.heap.size d val
 v0 : d 0 = true -> val 0 = .agg #[y1, y2, y3]
 v1 : d 1 = true -> (∃ g, val 1 = .slice (some ⟨g, 0, none⟩) 0 0) /\ (d 3 = false -> Own w 3 zv (val 1) [])
 v2 : d 2 = true -> val 2 = x2
 v3 : d 3 = true -> d 1 = true /\ Own w 3 zv (val 3) ws
 v4 : d 4 = true -> d 3 = true /\ val 4 = .agg #[y1, y2, y3, val 3, .slice none 0 0, .slice none 0 0]
 v5 : d 5 = true -> ∃ g z0 z1 z2 z3 z4 z5, val 5 = .pointer (some ⟨g, 0, none⟩) /\ Blk w g 31 #[z0, z1, z2, z3, z4, z5] /\ (d 6 = true -> d 4 = true /\ val 4 = .agg #[z0, z1, z2, z3, z4, z5])
 v6 : d 6 = true -> d 5 = true
theorem NewR.next {W w w' : World} {ws : List Int} {y1 y2 y3 x2 : Value} {d : Nat -> Bool} {val : Nat -> Value} (h : NewR W ws y1 y2 y3 x2 d val w) (hb : Below w.heap.size w w') : NewR W ws y1 y2 y3 x2 d val w' where
 bel := h.bel.trans (hb.mono h.bel.size)
 ap := h.ap.hi hb.size
 v0 := h.v0
 v1 := fun h1 => ⟨(h.v1 h1).1, fun h2 => ((h.v1 h1).2 h2).below hb ((h.v1 h1).2 h2).lt⟩
 v2 := h.v2
 v3 := fun h1 => ⟨(h.v3 h1).1, (h.v3 h1).2.below hb (h.v3 h1).2.lt⟩
 v4 := h.v4
 v5 := fun h1 => by
  obtain ⟨g, z0, z1, z2, z3, z4, z5, e, hk, h2⟩ := h.v5 h1
  exact ⟨g, z0, z1, z2, z3, z4, z5, e, hk.below hb hk.lt, h2⟩
 v6 := h.v6
def NewP (L : Nat) (w : World) (g : Nat) (x0 x1 x2 : Value) (W : SW) (ws ss : List Int) (cs : List (List (List Int))) : Prop := ∃ Z F : Nat -> Prop, DocP L w g x0 x1 x2 W.v ss cs Z /\ NRow 3 zv w F W.v ws /\ (∀ k, F k -> L <= k /\ ¬ Z k)
theorem NewP.close {L g : Nat} {w : World} {x0 x1 x2 : Value} {W : SW} {ws ss : List Int} {cs : List (List (List Int))} (h : NewP L w g x0 x1 x2 W ws ss cs) (q : Rat) : ∃ (S C : SW) (F G H : Nat -> Prop), Blk w g 31 #[x0, x1, x2, W.v, S.v, C.v] /\ OwB 3 22 65 L w W S C F G H ⟨q, ws, ss, cs⟩ := by
 obtain ⟨Z, F, ⟨S, C, G, H, bk, hs, hc, h1, h2, h3, h4, h5⟩, hw, hf⟩ := h
 exact ⟨S, C, F, G, H, bk, hw, hs, hc, fun k hk => (hf k hk).1, fun k hk => h5 k ((h4 k).2 (.inr (.inl hk))), fun k hk => h5 k ((h4 k).2 (.inr (.inr hk))), fun k hk e => (hf k hk).2 ((h4 k).2 (.inr (.inl e))), fun k hk e => (hf k hk).2 ((h4 k).2 (.inr (.inr e))), h1⟩
theorem NewP.keep {L g : Nat} {w w' : World} {x0 x1 x2 : Value} {W : SW} {ws ss : List Int} {cs : List (List (List Int))} {Z Z' F Y : Nat -> Prop} (hd : DocP L w' g x0 x1 x2 W.v ss cs Z') (hw : NRow 3 zv w F W.v ws) (hf : ∀ k, F k -> L <= k /\ ¬ Z k) (hZ : ∀ k, Z' k -> Z k \/ Y k \/ w.heap.size <= k) (hY : ∀ k, F k -> ¬ Y k) (dM : w.heap.size <= w'.heap.size) (hk : ∀ k, k < w.heap.size -> ¬ Z k -> w'.heap[k]? = w.heap[k]?) : NewP L w' g x0 x1 x2 W ws ss cs :=
 ⟨Z', F, hd, (Js _ _).loc hw dM fun k h => hk k ((Js _ _).lt hw h) (hf k h).2, fun k h => ⟨(hf k h).1, fun e => by
  rcases hZ k e with h1 | h1 | h1
  ·exact (hf k h).2 h1
  ·exact hY k h h1
  have := (Js _ _).lt hw h
  omega⟩⟩
theorem NewR.end_ {W w : World} {ws : List Int} {y1 y2 y3 x2 : Value} {d : Nat -> Bool} {val : Nat -> Value} (hF : NewR W ws y1 y2 y3 x2 d val w) (hd : ∀ i, i < 7 -> d i = true) : ∃ g A c, val 5 = .pointer (some ⟨g, 0, none⟩) /\ NewP W.heap.size w g y1 y2 y3 ⟨A, ws.length, c⟩ ws [] [] /\ Below W.heap.size W w := by
 obtain ⟨-, o7⟩ := hF.v3 (hd 3 (by decide))
 obtain ⟨-, e8⟩ := hF.v4 (hd 4 (by decide))
 obtain ⟨g, z0, z1, z2, z3, z4, z5, e9, hk, cL⟩ := hF.v5 (hd 5 (by decide))
 have e10 := e8.symm.trans (cL (hd 6 (by decide))).2
 injection e10 with e10
 rw [<- e10] at hk
 obtain ⟨A, c, e7, -⟩ := o7.form
 have b7 : Jom (val 3) = (val 3).ownBlock := by rw [e7]; rfl
 have b9 : Jom (val 5) = some g := by rw [e9]; rfl
 have o0 : ∀ k, (val 3).ownBlock = some k -> k ≠ g := fun k h e => hF.ap.ap 5 3 g (hd 5 (by decide)) (hd 3 (by decide)) (by decide) (by decide) (by decide) b9 (b7.trans (by rw [<- e]; exact h))
 refine ⟨g, A, c, e9, ⟨fun k => k = g \/ False \/ False, fun k => (val 3).ownBlock = some k, ⟨⟨none, 0, 0⟩, ⟨none, 0, 0⟩, fun _ => False, fun _ => False, ?_, NRow.nil _ _ _, Nest.nil _ _ _, fun _ h _ => h, fun h => h, fun h => h, fun k => Iff.rfl, fun k hk => ?_⟩, ?_, fun k hk => ⟨(hF.ap.lt 3 k (hd 3 (by decide)) (by decide) (b7.trans hk)).1, fun h => h.elim (o0 k hk) fun h => h.elim id id⟩⟩, hF.bel⟩
 ·rw [e7] at hk
  exact hk
 ·rcases hk with rfl | h | h
  ·exact (hF.ap.lt 5 _ (hd 5 (by decide)) (by decide) b9).1
  ·exact h.elim
  exact h.elim
 show NRow _ _ _ _ (.slice A ws.length c) _
 rw [<- e7]
 exact NRow.of o7
theorem Jqu (z : Int) (A4 : Option Addr) (n4 c4 : Nat) (ws : List Int) (ng : Bool) (A7 A8 : Option Addr) (l7 d7 l8 d8 B : Nat) (q : Rat) (w : World) (h4 : ReadsI w B A4 n4 ws) (hB : B <= w.heap.size) (s9 : n4 <= 1000) (bI : ∀ x ∈ ws, -9223372036854775808 <= x /\ x <= 9223372036854775807) :
  Calls Tryz.prog 17 #[.int .i64 z, .slice A4 n4 c4, .agg #[.bool ng, .slice A7 l7 d7, .slice A8 l8 d8]] w fun e w' => ∃ v, e = .returned v /\ DocO w.heap.size (.bool ng) (.slice A7 l7 d7) (.slice A8 l8 d8) (Jp6 z ws q) v w' /\ Below w.heap.size w w' := by
 have dN : ws.length = n4 := h4.len
 obtain ⟨R, hR⟩ : ∃ R, Jp6 z ws q = R := ⟨_, rfl⟩
 rw [hR]
 have HR := lh hR
 clear hR
 obtain ⟨b0, b1, hB, hZ⟩ := bx2 w 28 #[.bool ng, .slice A7 l7 d7, .slice A8 l8 d8] 31 #[.bool false, .slice none 0 0, .slice none 0 0, .slice none 0 0, .slice none 0 0, .slice none 0 0]
 go_enter Tryz.func17, Tryz.ntmps17
 go_upto_region 1 with fail
 generalize ((w.alloc (.cells #[.bool ng, .slice A7 l7 d7, .slice A8 l8 d8] 28)).alloc (.cells #[.bool false, .slice none 0 0, .slice none 0 0, .slice none 0 0, .slice none 0 0, .slice none 0 0] 31)) = W at *
 rename B <= w.heap.size => hBB
 have H4 := lh h4
 have HWS := lh bI
 have HW := lh dN
 have HBW := lh hB
 have HBB := lh hBB
 have HZ := lh hZ.out
 have B0 := lh b0
 have B1 := lh b1
 have cN := b0.lt
 clear h4 bI dN hB hBB hZ b0 b1
 go_cut [7] (fun v wc => ∃ g A c, v = .pointer (some ⟨g, 0, none⟩) /\ NewP W.heap.size wc g (.bool ng) (.slice A7 l7 d7) (.slice A8 l8 d8) ⟨A, ws.length, c⟩ ws [] [] /\ Below W.heap.size W wc)
 case first =>
  refine Je0 (NewR W ws (.bool ng) (.slice A7 l7 d7) (.slice A8 l8 d8) (.slice A4 n4 c4)) (by kernel_rfl) (by kernel_rfl) (by kernel_rfl) ?_ ?_ [some 11, some 12, some 13, some 14, some 15, some 7, none] rfl ?_
  ·constructor <;> first | exact Jt _ | exact Apart.start _ _ _ _ | (intro h; cases h)
  ·refine ⟨⟨⟨⟨⟨⟨⟨trivial, ?_⟩, ?_⟩, ?_⟩, ?_⟩, ?_⟩, ?_⟩, ?_⟩ <;> intro d val a' w' hS hF hd hp
   ·have e8 : a'.tmps[5]?.getD undef = .pointer (some ⟨w.heap.size, 0, none⟩) := hS.arg 5
    have b0' := B0.out.below hF.bel cN
    have y0 := b0'.cell 0
    have y1 := b0'.cell 1
    have y2 := b0'.cell 2
    simp at y0 y1 y2
    refine Xa _ rfl rfl ?_ (show NewR _ _ _ _ _ _ _ _ _ from { hF with ap := hF.ap.pure hF.bel.size rfl, v0 := fun _ => rfl })
    clear hF hS hd hp
    go_simp
   ·have hG := hF.next (Jb w' (.cells #[] 3))
    refine Xa (v := .slice (some ⟨w'.heap.size, 0, none⟩) 0 0) (w2 := w'.alloc (.cells #[] 3)) _ rfl rfl ?_ (show NewR _ _ _ _ _ _ _ _ _ from { hG with ap := hF.ap.step (Jb w' _).size hF.bel.size fun _ b hb => .inl (by have hb : some w'.heap.size = some b := hb; have hb := Option.some.inj hb; rw [World.size_alloc]; omega), v1 := fun _ => ⟨⟨_, rfl⟩, fun _ => Jpb w'⟩, v3 := fun h => ⟨rfl, (hG.v3 h).2⟩ })
    clear hG hF hS hd hp
    go_simp
   ·have e8 : a'.tmps[1]?.getD undef = .slice A4 n4 c4 := hS.arg 1
    refine Xa _ rfl rfl ?_ (show NewR _ _ _ _ _ _ _ _ _ from { hF with ap := hF.ap.pure hF.bel.size rfl, v2 := fun _ => rfl })
    clear hF hS hd hp
    go_simp
   ·have h3 := hp 1
    obtain ⟨⟨g3, e3⟩, o3⟩ := hF.v1 h3
    have o3 := o3 hd
    have aN := HBW.out.trans (hF.bel.mono HBW.out.size)
    have hr := rkindI.below H4.out (aN.mono HBB.out)
    have e5 := (hS.got 2 13 (hp 2) rfl (Nat.le_of_ble_eq_true (by kernel_rfl)))
    rw [hF.v2 (hp 2)] at e5
    refine Joy Tryz.eltZ1 _ rfl rfl (.tmp 12) (.tmp 13) rfl w' (val 1) [] B A4 n4 c4 ws (hS.got 1 12 h3 rfl (Nat.le_of_ble_eq_true (by kernel_rfl))) o3 e5 hr (fun _ => rfl) (by unfold maxLen; simp; omega) (by simp; omega) ?_
    intro v' w1 ho j0
    rw [List.nil_append] at ho
    obtain ⟨A', c', ev, -⟩ := ho.form
    have b3 : Jom (val 1) = (val 1).ownBlock := by rw [e3]; rfl
    have bv : Jom v' = v'.ownBlock := by rw [ev]; rfl
    have keep : ∀ k b, d k = true -> Jqm k ≠ 0 -> Jqm k ≠ Jqm 1 -> Jom (val k) = some b -> w1.heap[b]? = w'.heap[b]? := fun k b h1 h2 cO h4 => j0.block b (hF.ap.lt k b h1 h2 h4).2 fun e => hF.ap.ap k 1 b h1 h3 h2 (by decide) cO h4 (b3.trans e.symm)
    refine (show NewR _ _ _ _ _ _ _ _ _ from { hF with bel := hF.bel.trans (j0.below hF.bel.size fun k hk => (hF.ap.lt 1 k h3 (by decide) (b3.trans hk)).1), ap := hF.ap.step j0.size hF.bel.size fun _ b hb => (j0.own b (bv.symm.trans hb)).elim (fun h => .inr ⟨1, h3, rfl, b3.trans h⟩) fun h => .inl ⟨h, ho.lt b (bv.symm.trans hb)⟩, v1 := fun h => ⟨(hF.v1 h).1, fun h6 => Bool.noConfusion (show true = false from h6)⟩, v3 := fun _ => ⟨h3, ho⟩, v4 := fun h => absurd (hF.v4 h).1 (by rw [hd]; decide), v5 := fun h => ?_ })
    obtain ⟨g, z0, z1, z2, z3, z4, z5, e, hk, h2⟩ := hF.v5 h
    exact ⟨g, z0, z1, z2, z3, z4, z5, e, (keep 5 g h (by decide) (by decide) (by rw [e]; rfl)).trans hk, fun h' => absurd (hF.v4 (h2 h').1).1 (by rw [hd]; decide)⟩
   ·have e1 := hS.res 0 11 (hp 0)
    have e3 := hS.res 3 14 (hp 3)
    rw [hF.v0 (hp 0)] at e1
    have h7 := hp 3
    obtain ⟨A, c, e7, -⟩ := (hF.v3 h7).2.form
    rw [e7] at e3
    refine Xa (v := .agg #[.bool ng, .slice A7 l7 d7, .slice A8 l8 d8, .slice A ws.length c, .slice none 0 0, .slice none 0 0]) _ rfl rfl ?_ (show NewR _ _ _ _ _ _ _ _ _ from { hF with ap := hF.ap.pure hF.bel.size rfl, v4 := fun _ => ⟨h7, by show _ = Value.agg #[.bool ng, .slice A7 l7 d7, .slice A8 l8 d8, val 3, .slice none 0 0, .slice none 0 0]; rw [e7]; rfl⟩, v5 := fun h => ?_ })
    ·clear hF hS hd hp
     go_simp
    obtain ⟨g, z0, z1, z2, z3, z4, z5, e, hk, h2⟩ := hF.v5 h
    exact ⟨g, z0, z1, z2, z3, z4, z5, e, hk, fun h' => absurd (h2 h').1 (by rw [hd]; decide)⟩
   ·have hG := hF.next (Jb w' (.cells #[.bool false, .slice none 0 0, .slice none 0 0, .slice none 0 0, .slice none 0 0, .slice none 0 0] 31))
    refine Xa (v := .pointer (some ⟨w'.heap.size, 0, none⟩)) (w2 := w'.alloc (.cells #[.bool false, .slice none 0 0, .slice none 0 0, .slice none 0 0, .slice none 0 0, .slice none 0 0] 31)) _ rfl rfl ?_ (show NewR _ _ _ _ _ _ _ _ _ from { hG with ap := hF.ap.step (Jb w' _).size hF.bel.size fun _ b hb => .inl (by have hb : some w'.heap.size = some b := hb; have hb := Option.some.inj hb; rw [World.size_alloc]; omega), v5 := fun _ => ⟨_, _, _, _, _, _, _, rfl, Blk.new _ _ _, fun h => absurd (hF.v6 h) (by rw [hd]; decide)⟩, v6 := fun _ => rfl })
    clear hG hF hS hd hp
    go_simp
   ·have y9 := hp 5
    have aS := hp 4
    obtain ⟨g, z0, z1, z2, z3, z4, z5, e12, hk, -⟩ := hF.v5 y9
    obtain ⟨h7, e8⟩ := hF.v4 aS
    obtain ⟨A, c, e7, -⟩ := (hF.v3 h7).2.form
    have e8' := e8
    rw [e7] at e8'
    have b12 : Jom (val 5) = some g := by rw [e12]; rfl
    have hg := (hF.ap.lt 5 g y9 (by decide) b12).1
    have nob : ∀ k, d k = true -> Jqm k ≠ 0 -> Jqm k ≠ 2 -> Jom (val k) ≠ some g := fun k h1 h2 h3 h4 => hF.ap.ap k 5 g h1 y9 h2 (by decide) h3 h4 b12
    refine Jde _ rfl rfl _ _ _ rfl rfl g #[.bool ng, .slice A7 l7 d7, .slice A8 l8 d8, .slice A ws.length c, .slice none 0 0, .slice none 0 0] _ ((hS.got 5 7 y9 rfl (Nat.le_of_ble_eq_true (by kernel_rfl))).trans e12) ((hS.got 4 15 aS rfl (Nat.le_of_ble_eq_true (by kernel_rfl))).trans e8') _ hk (by kernel_rfl) rfl (by simp [Value.oneCell']) fun w2 j9 aO => ?_
    refine (show NewR _ _ _ _ _ _ _ _ _ from { hF with bel := hF.bel.trans (aO.below hF.bel.size hg), ap := (hF.ap.hi aO.size).pure (nt hF.bel.size aO.size) rfl, v1 := fun h => ⟨(hF.v1 h).1, fun h0 => absurd (show d 3 = false from h0) (by rw [h7]; decide)⟩, v3 := fun h => ⟨(hF.v3 h).1, (hF.v3 h).2.loc fun k hk => aO.block k ((hF.v3 h).2.lt k hk) fun e => nob 3 h (by decide) (by decide) (by rw [<- e, e7]; rw [e7] at hk; exact hk)⟩, v5 := fun _ => ⟨g, _, _, _, _, _, _, e12, j9, fun _ => ⟨aS, e8'⟩⟩, v6 := fun _ => y9 })
  intro d val w' hF hd
  simp only [Exit.then, Jd7, Act.put, List.setIfInBounds_toArray, List.set_cons_succ, List.set_cons_zero]
  refine ‹∀ a' w', Met _ a' w' -> _› _ _ ?_
  go_meet
  exact hF.end_ hd
 case rest =>
  obtain ⟨g, AW, cW, rfl, dJ, aT⟩ := hcut
  rw [HW.out] at dJ
  have B1' := lh (B1.out.below aT B1.out.lt)
  have HNP := lh dJ
  have HBC := lh aT
  have dC := B1.out.lt
  clear dJ aT
  by_cases dH : z < 1 \/ 12 < z \/ 20 < n4
  case pos =>
   obtain rfl : R = ⟨q, ws, [], []⟩ := by rw [<- HR.out]; unfold Jp6; rw [if_pos (by rw [HW.out]; exact dH)]
   have HBAD := lh dH
   obtain ⟨S, C, F, G, Hh, bk, ho⟩ := HNP.out.close q
   simp only [SW.v] at bk
   obtain ⟨y0, y1, y2, y3, y4, y5⟩ := bk.c6
   have hX : ∀ x, (F x \/ G x \/ Hh x) -> w.heap.size + 1 < x := fun x hx => by
    have : W.heap.size <= x := by
     rcases hx with h | h | h
     ·exact ho.from1 x h
     ·exact ho.from2 x h
     exact ho.from3 x h
    omega
   have HX := lh hX
   have HO := lh (ho.low HBW.out.size)
   have o9 := show w.heap.size <= w.heap.size + 1 by omega
   generalize hgR : w.heap.size + 1 = gR at *
   have HB9 := lh (HBW.out.trans (HBC.out.mono HBW.out.size))
   clear dH ho hX bk hgR
   have key : (∃ (_ : decide (z < 1) = true), z < 1) \/ (∃ (_ : decide (z < 1) = false) (_ : decide (12 < z) = true), ¬ z < 1 /\ 12 < z) \/ ∃ (_ : decide (z < 1) = false) (_ : decide (12 < z) = false) (_ : decide ((20 : Int) < (n4 : Int)) = true), ¬ z < 1 /\ ¬ 12 < z /\ (20 : Int) < (n4 : Int) := by
    by_cases k1 : z < 1
    ·exact .inl ⟨decide_eq_true k1, k1⟩
    by_cases k2 : 12 < z
    ·exact .inr (.inl ⟨decide_eq_false k1, decide_eq_true k2, k1, k2⟩)
    have k3 : 20 < (n4 : Int) := by have := HBAD.out; omega
    exact .inr (.inr ⟨decide_eq_false k1, decide_eq_false k2, decide_eq_true k3, k1, k2, k3⟩)
   clear HBAD
   have HK := lh key
   clear key
   rcases HK.out with ⟨q1, q2⟩ | ⟨q1, q2, q3, q4⟩ | ⟨q1, q2, q3, q4, q5, q6⟩
   all_goals
    clear HK
    go_wp2_with (refine Jr rfl _ (.tmp 6) (.tmp 27) rfl gR #[.bool ng, .slice A7 l7 d7, .slice A8 l8 d8, .slice AW n4 cW, .slice S.A S.n S.c, .slice C.A C.n C.c] _ rfl rfl _ B1'.out (by kernel_rfl) rfl (by simp [Value.oneCell']) ?_; intro w7 j6 j7; have HX7 := lh j7; have HB7 := lh j6; clear j7 j6 y0 y1 y2 y3 y4 y5)
    obtain ⟨p0, p1, p2, p3, p4, p5⟩ := HB7.out.c6
    refine bodyPost_ret (v := .agg #[.bool ng, .slice A7 l7 d7, .slice A8 l8 d8, .slice AW n4 cW, .slice S.A S.n S.c, .slice C.A C.n C.c]) (by simp [results, Tryz.results17, go_sem, p0, p1, p2, p3, p4, p5]) rfl ?_
    exact ⟨_, rfl, ⟨⟨AW, n4, cW⟩, S, C, F, G, Hh, rfl, HO.out.exc HX7.out (fun e => by have := HX.out gR (.inl e); omega) (fun e => by have := HX.out gR (.inr (.inl e)); omega) (fun e => by have := HX.out gR (.inr (.inr e)); omega)⟩, HB9.out.trans (HX7.out.below HB9.out.size o9)⟩
  have hz : 1 <= z /\ z <= 12 /\ n4 <= 20 := by omega
  obtain ⟨zn, rfl⟩ := Int.eq_ofNat_of_zero_le (show 0 <= z by omega)
  obtain ⟨T, hT⟩ : ∃ T, ws.map Jqz = T := ⟨_, rfl⟩
  obtain rfl : R = ⟨q, ws, List.replicate zn 0, List.replicate zn T⟩ := by rw [<- HR.out]; unfold Jp6; rw [if_neg (by rw [HW.out]; exact dH), Int.toNat_natCast, hT]
  have bJ : T.length = n4 := by rw [<- hT, List.length_map]; exact HW.out
  have HT := lh (And.intro hT bJ)
  have dD : zn <= 12 /\ n4 <= 20 := by omega
  have q1 : decide ((zn : Int) < 1) = false := decide_eq_false (by omega)
  have q2 : decide ((12 : Int) < (zn : Int)) = false := decide_eq_false (by omega)
  have q3 : decide ((20 : Int) < (n4 : Int)) = false := decide_eq_false (by omega)
  have q4 : ¬ (zn : Int) < 1 := by omega
  have q5 : ¬ (12 : Int) < (zn : Int) := by omega
  have q6 : ¬ (20 : Int) < (n4 : Int) := by omega
  clear dH hz HR hT bJ
  go_wp2_with fail
  go_loopw [8] (fun p wr => ∃ k : Nat, k <= zn /\ p = .int .i64 (k : Int) /\ NewP W.heap.size wr g (.bool ng) (.slice A7 l7 d7) (.slice A8 l8 d8) ⟨AW, n4, cW⟩ ws (List.replicate k 0) (List.replicate k T) /\ Below W.heap.size W wr) (fun p _ => zn - (intOf p).toNat)
  case atStart => exact ⟨0, by omega, rfl, HNP.out, HBC.out⟩
  case round =>
   clear HNP HBC q1 q2 q3 q4 q5 q6
   obtain ⟨k, hk, rfl, dJ, aA⟩ := hrel
   rename World => wr
   by_cases dE : k < zn
   ·as_aux_lemma =>
    have k1 : (k : Int) < (zn : Int) := by omega
    have HNP := lh dJ
    have HBR := lh aA
    have dF := HBW.out.size
    clear dJ aA
    go_wp2_with fail
    go_loopw [9, 10] (fun v p w2 => ∃ c : Nat, c <= n4 /\ p = .int .i64 (c : Int) /\ Jq0 wr.heap.size w2 v c (T.take c) /\ Below wr.heap.size wr w2) (fun _ p _ => n4 - (intOf p).toNat)
    case atStart => exact ⟨0, by omega, rfl, ⟨_, _, _, rfl, Nest.nil _ _ _, fun _ h => h.elim⟩, Below.refl _ _⟩
    case round =>
     obtain ⟨c, hc, rfl, ⟨AV, cV, S2, rfl, o0, aP⟩, j9⟩ := hrel
     rename World => w2
     by_cases aQ : c < n4
     ·as_aux_lemma =>
      have k2 : (c : Int) < (n4 : Int) := by omega
      obtain ⟨ad, x, rfl, aR, hx, bK⟩ := H4.out.at_ (k := c) aQ
      have aN := (HBW.out.trans (HBR.out.mono HBW.out.size)).trans (j9.mono (by have := HBR.out.size; omega))
      have cP := Qg (aN.mono HBB.out) bK aR
      obtain ⟨mN, dO⟩ : ∃ mN : Nat, max 0 (min x 12) = (mN : Int) := ⟨(max 0 (min x 12)).toNat, by omega⟩
      have cR : mN <= 12 := by omega
      have aB : T[c]? = some (List.replicate mN 0) := by
       rw [<- HT.out.1, List.getElem?_map, hx]
       show some (Jqz x) = _
       unfold Jqz
       rw [dO, Int.toNat_natCast]
      have HTK := lh (Ud aB)
      have cT : (Instr.makeSlice 22 (.int .i64 (mN : Int)) (.int .i64 (mN : Int))).run Tryz.prog w2 = .ok (.slice (some ⟨w2.heap.size, 0, none⟩) mN mN) (w2.alloc (.cells ((List.replicate mN (0 : Int)).map zv).toArray 3)) := Jbc (P := Tryz.prog) (Tryz.eltZ1).under (Tryz.eltZ1).info mN (by omega) w2
      have bL : Own (w2.alloc (.cells ((List.replicate mN (0 : Int)).map zv).toArray 3)) 3 zv (.slice (some ⟨w2.heap.size, 0, none⟩) mN mN) (List.replicate mN 0) := by
       have h := Own.lit w2 3 zv (List.replicate mN (0 : Int)) (by unfold maxLen; simp; omega)
       rw [List.length_replicate] at h
       exact h
      have dK := Jb w2 (.cells ((List.replicate mN (0 : Int)).map zv).toArray 3)
      have HOZ := lh (NRow.of bL)
      have HBZ := lh dK
      have HNE := lh (o0.next (Js 3 zv) dK)
      have HLT := lh (show (T.take c).length = c by rw [List.length_take]; have := HT.out.2; omega)
      have HNL := lh (show ∀ x, S2 x -> x < w2.heap.size from fun x hx => o0.lt (Js 3 zv) hx)
      have HNO := lh (show ∀ x, (Value.slice AV c cV).ownBlock = some x -> S2 x from by obtain ⟨rl, F1, q1, q2, q3, q4, q5, q6, q7⟩ := o0; exact q6)
      have HB2 := lh j9
      have HS2 := lh aP
      have HMK := lh cT
      clear o0 dK bL j9 aN aB hx bK aP
      generalize w2.alloc (.cells ((List.replicate mN (0 : Int)).map zv).toArray 3) = wz at *
      go_upto_region 11 with fail
      go_wp2_with (at_builtin; refine Jot (Js 3 zv) Tryz.eltZ2 rfl (.tmp 39) (.tmp 47) rfl S2 _ wz _ (T.take c) _ _ _ (List.replicate mN 0) rfl HNE.out HOZ.out (fun x hx aU => by have e : w2.heap.size = x := Option.some.inj hx; have := HNL.out x aU; omega) rfl (by rw [HLT.out]; omega) ?_; intro v4 w4 S4 s9 aC j0; have dK := HB2.out.trans (HBZ.out.mono HB2.out.size); have bM := dK.trans (j0.below dK.size (fun x hx => HS2.out x (HNO.out x hx))); rw [<- HTK.out] at s9; obtain ⟨AW4, cW4, aD⟩ := s9.form; rw [show (T.take (c + 1)).length = c + 1 by rw [List.length_take]; have := HT.out.2; omega] at aD; subst aD; have HN4 := lh (And.intro s9 bM); have HS4 := lh (show ∀ x, S4 x -> wr.heap.size <= x from fun x hx => by rcases aC x hx with h | h | h; exact HS2.out x h; (have e : w2.heap.size = x := Option.some.inj h; have := HB2.out.size; omega); exact nt dK.size h); clear s9 aC j0 bM dK)
      exact ⟨⟨c + 1, by omega, by go_num, ⟨_, _, _, rfl, HN4.out.1, HS4.out⟩, HN4.out.2⟩, by simp [intOf]; omega⟩
     as_aux_lemma =>
     obtain rfl : c = n4 := by omega
     have k2 : ¬ (c : Int) < (c : Int) := by omega
     have bN : T.take c = T := List.take_of_length_le (by have := HT.out.2; omega)
     rw [bN] at o0
     obtain ⟨Z, F, aV, aW, hf⟩ := HNP.out
     have hr := Js 3 zv
     have bO := aV.lt
     have aX : ∀ x, F x -> x < wr.heap.size := fun x hx => hr.lt aW hx
     have aE := hr.loc aW j9.size fun x hx => j9.block x (aX x hx)
     obtain ⟨⟨AS, nS, cS⟩, C, G, Hh, bk, hs, dI, h1, h2, h3, h4, h5⟩ := aV.next j9
     simp only [SW.v] at bk hs
     obtain rfl : nS = k := by
      obtain ⟨A', c', e, -⟩ := hs.1.form
      injection e with _ e
      rw [List.length_replicate] at e
      exact e
     have bP : W.heap.size <= w2.heap.size := nt HBR.out.size j9.size
     have aF : ∀ x, S2 x -> x < w2.heap.size := fun x hx => o0.lt hr hx
     have j8 : ∀ x, (Value.slice AS nS cS).ownBlock = some x -> G x := fun x hx => (hs.2 x).2 hx
     have HBK := lh (And.intro bk (And.intro hs (And.intro dI (And.intro h1 (And.intro h2 (And.intro h3 (And.intro h4 h5)))))))
     have HW2 := lh (And.intro aE (And.intro hf (And.intro aX bO)))
     have HNE := lh o0
     have HS2 := lh (And.intro aP aF)
     have HB2 := lh j9
     have HOW := lh j8
     have HR := lh hr
     have HO := lh hs.1
     have bQ := h5 g ((h4 g).2 (.inl rfl))
     obtain ⟨y0, y1, y2, y3, y4, y5⟩ := bk.c6
     clear bN o0 aV aW hf bO aX aE bk hs dI h1 h2 h3 h4 h5 aP aF j9 j8 hr
     go_upto_region 13 with (at_builtin; refine Joi (f := zv) Tryz.eltZ1 rfl (.tmp 50) (.tmp 51) rfl w2 _ (List.replicate nS 0) 0 (.int .i64 0) rfl rfl HO.out (by simp [Act.eval]) rfl (by rw [List.length_replicate]; unfold maxLen; omega) (by rw [List.length_replicate]; omega) ?_; intro v4 w4 aY j0; obtain ⟨A4', c4', aD, -⟩ := aY.form; rw [show List.length (List.replicate nS (0 : Int) ++ [0]) = nS + 1 by simp] at aD; subst aD; have bk4 := (j0.block g HBK.out.1.lt fun e => HBK.out.2.2.2.2.1 (HOW.out g e.symm)).trans HBK.out.1; obtain ⟨u0, u1, u2, u3, u4, u5⟩ := Blk.c6 bk4; have f4 := Blk.frozen bk4 4; have HGR := lh (And.intro aY j0); clear aY j0 bk4)
     rename World => w4
     obtain ⟨Z', cU, bR, dM, bS⟩ := DocP.seenApp HBK.out.1 HBK.out.2.1 HBK.out.2.2.1 HBK.out.2.2.2.1 HBK.out.2.2.2.2.1 HBK.out.2.2.2.2.2.1 (fun k hk => HBK.out.2.2.2.2.2.2.2 k ((HBK.out.2.2.2.2.2.2.1 k).2 hk)) HGR.out.2 HGR.out.1 bP
     have bT := (((HBR.out.trans (HB2.out.mono HBR.out.size)).trans (HGR.out.2.below bP fun x hx => HBK.out.2.2.2.2.2.2.2 x ((HBK.out.2.2.2.2.2.2.1 x).2 (.inr (.inl (HOW.out x hx))))))).setCell (p := ⟨g, 4, none⟩) bQ (.slice A4' (nS + 1) c4')
     generalize w4.setCell ⟨g, 4, none⟩ (.slice A4' (nS + 1) c4') = w5 at *
     have aZ : ∀ x, Z' x -> Z x \/ w2.heap.size <= x := fun x hx => (bR x hx).imp (HBK.out.2.2.2.2.2.2.1 x).2 id
     have bA : ∀ x, x < w2.heap.size -> ¬ Z x -> w5.heap[x]? = w2.heap[x]? := fun x hx hn => bS x hx fun e => hn ((HBK.out.2.2.2.2.2.2.1 x).2 e)
     have bU : ∀ x, F x -> W.heap.size <= x /\ ¬ Z' x := fun x hx => ⟨(HW2.out.2.1 x hx).1, fun e => by
      rcases aZ x e with h | h
      ·exact (HW2.out.2.1 x hx).2 h
      have := HW2.out.2.2.1 x hx
      have := HB2.out.size
      omega⟩
     have aG : ∀ x, S2 x -> ¬ Z' x := fun x hx e => by
      rcases aZ x e with h | h
      ·have := HW2.out.2.2.2 x h
       have := HS2.out.1 x hx
       omega
      have := HS2.out.2 x hx
      omega
     have bV := HR.out.loc HW2.out.1 dM fun x hx => bA x (HR.out.lt HW2.out.1 hx) (HW2.out.2.1 x hx).2
     have aH := HNE.out.loc HR.out dM fun x hx => bA x (HS2.out.2 x hx) fun h => by
      have := HW2.out.2.2.2 x h
      have := HS2.out.1 x hx
      omega
     obtain ⟨S, ⟨AC, nC, cC⟩, G', H', bk, hs, dI, h1, h2, h3, h4, h5⟩ := cU
     simp only [SW.v] at bk dI
     have HBK' := lh (And.intro bk (And.intro hs (And.intro dI (And.intro h1 (And.intro h2 (And.intro h3 (And.intro h4 h5)))))))
     have HW5 := lh (And.intro bV (And.intro bU aG))
     have HNE5 := lh aH
     have HB5 := lh bT
     have HOW' := lh (show ∀ x, (Value.slice AC nC cC).ownBlock = some x -> H' x from by obtain ⟨rl, F1, q1, q2, q3, q4, q5, q6, q7⟩ := dI; exact q6)
     have HFS := lh (show ∀ x, F x -> ¬ S2 x from fun x hx e => by have := HW2.out.2.2.1 x hx; have := HS2.out.1 x e; omega)
     have HLS := lh (show ∀ x, S2 x -> W.heap.size <= x from fun x hx => nt HBR.out.size (HS2.out.1 x hx))
     obtain ⟨t0, t1, t2, t3, t4, t5⟩ := bk.c6
     have cZ : (List.replicate nS T).length <= 1000 := by rw [List.length_replicate]; omega
     clear bk hs dI h1 h2 h3 h4 h5 bV bU aG aH bT aZ bA bR dM bS HBK HW2 HNE HGR HOW u0 u1 u2 u3 u4 u5 f4 y0 y1 y2 y3 y4 y5
     go_wp2_with (at_builtin; refine Jot (Xt (Js 3 zv) 22) Tryz.eltZ3 rfl (.tmp 55) (.tmp 57) rfl H' S2 w5 _ (List.replicate nS T) AV c cV T rfl HBK'.out.2.2.1 HNE5.out (fun x hx aU => HW5.out.2.2 x hx ((HBK'.out.2.2.2.2.2.2.1 x).2 (.inr (.inr aU)))) rfl (by omega) ?_; intro v6 w6 S4 bB aC j0; obtain ⟨A6', c6', bW⟩ := bB.form; rw [show List.length (List.replicate nS T ++ [T]) = nS + 1 by simp] at bW; subst bW; have bk6 := (j0.block g HBK'.out.1.lt fun e => HBK'.out.2.2.2.2.2.1 (HOW'.out g e.symm)).trans HBK'.out.1; obtain ⟨u0, u1, u2, u3, u4, u5⟩ := Blk.c6 bk6; have f5 := Blk.frozen bk6 5; obtain ⟨Z6, bX, bY, aI, aJ⟩ := DocP.grow HBK'.out.1 HBK'.out.2.1 HBK'.out.2.2.1 HBK'.out.2.2.2.1 HBK'.out.2.2.2.2.1 HBK'.out.2.2.2.2.2.1 (fun k hk => HBK'.out.2.2.2.2.2.2.2 k ((HBK'.out.2.2.2.2.2.2.1 k).2 hk)) j0 bB aC (fun x hx => ⟨HLS.out x hx, fun e => HW5.out.2.2 x hx ((HBK'.out.2.2.2.2.2.2.1 x).2 e)⟩) HB5.out.size; have dL := NewP.keep (W := ⟨AW, c, cW⟩) (Y := S2) bX HW5.out.1 HW5.out.2.1 (fun x hx => (bY x hx).imp (HBK'.out.2.2.2.2.2.2.1 x).2 id) HFS.out aI (fun x hx hn => aJ x hx fun e => hn ((HBK'.out.2.2.2.2.2.2.1 x).2 e)); have bZ := (HB5.out.trans (j0.below HB5.out.size fun x hx => HBK'.out.2.2.2.2.2.2.2 x ((HBK'.out.2.2.2.2.2.2.1 x).2 (.inr (.inr (HOW'.out x hx)))))).setCell (p := ⟨g, 5, none⟩) bQ (.slice A6' (nS + 1) c6'); rw [<- List.replicate_succ', <- List.replicate_succ'] at dL; have HP6 := lh (And.intro dL bZ); clear dL bZ bX bY aI aJ bB aC j0 bk6)
     exact ⟨⟨nS + 1, by omega, by go_num, HP6.out.1, HP6.out.2⟩, by simp [intOf]; omega⟩
   as_aux_lemma =>
   obtain rfl : k = zn := by omega
   have k1 : ¬ (k : Int) < (k : Int) := by omega
   obtain ⟨S, C, F, G, Hh, bk, ho⟩ := dJ.close q
   simp only [SW.v] at bk
   obtain ⟨y0, y1, y2, y3, y4, y5⟩ := bk.c6
   have hX : ∀ x, (F x \/ G x \/ Hh x) -> w.heap.size + 1 < x := fun x hx => by
    have : W.heap.size <= x := by
     rcases hx with h | h | h
     ·exact ho.from1 x h
     ·exact ho.from2 x h
     exact ho.from3 x h
    omega
   have BR := lh (B1.out.below aA B1.out.lt)
   have HX := lh hX
   have HO := lh (ho.low HBW.out.size)
   have o9 := show w.heap.size <= w.heap.size + 1 by omega
   generalize hgR : w.heap.size + 1 = gR at *
   have HB9 := lh (HBW.out.trans (aA.mono HBW.out.size))
   clear ho hX bk hgR aA dJ
   go_wp2_with (refine Jr rfl _ (.tmp 6) (.tmp 60) rfl gR #[.bool ng, .slice A7 l7 d7, .slice A8 l8 d8, .slice AW n4 cW, .slice S.A S.n S.c, .slice C.A C.n C.c] _ rfl rfl _ BR.out (by kernel_rfl) rfl (by simp [Value.oneCell']) ?_; intro w7 j6 j7; have HX7 := lh j7; have HB7 := lh j6; clear j7 j6 y0 y1 y2 y3 y4 y5)
   obtain ⟨p0, p1, p2, p3, p4, p5⟩ := HB7.out.c6
   refine bodyPost_ret (v := .agg #[.bool ng, .slice A7 l7 d7, .slice A8 l8 d8, .slice AW n4 cW, .slice S.A S.n S.c, .slice C.A C.n C.c]) (by simp [results, Tryz.results17, go_sem, p0, p1, p2, p3, p4, p5]) rfl ?_
   exact ⟨_, rfl, ⟨⟨AW, n4, cW⟩, S, C, F, G, Hh, rfl, HO.out.exc HX7.out (fun e => by have := HX.out gR (.inl e); omega) (fun e => by have := HX.out gR (.inr (.inl e)); omega) (fun e => by have := HX.out gR (.inr (.inr e)); omega)⟩, HB9.out.trans (HX7.out.below HB9.out.size o9)⟩
def Jq7 (L : Nat) (x0 x1 x2 xw : Value) (r : BM × Int) (v : Value) (w : World) : Prop :=
 (r.2 = 0 /\ ∃ u, v = .tuple #[u, .int .i64 0] /\ Jq3 L x0 x1 x2 xw r.1 u w) \/ (r.2 ≠ 0 /\ v = .tuple #[.agg #[.bool false, .slice none 0 0, .slice none 0 0, .slice none 0 0, .slice none 0 0, .slice none 0 0], .int .i64 r.2])
theorem Jp3 (ng : Bool) (A7 A8 : Option Addr) (l7 d7 l8 d8 : Nat) (A1 A2 A3 : Option Addr) (n1 c1 n2 c2 n3 c3 B : Nat) (m : BM) (A4 : Option Addr) (n4 c4 : Nat) (row : List Int) (cl : Int) (w : World) (h : RdB w B ⟨A1, n1, c1⟩ ⟨A2, n2, c2⟩ ⟨A3, n3, c3⟩ m) (hq : IsQ w B (.agg #[.bool ng, .slice A7 l7 d7, .slice A8 l8 d8]) m.smooth) (h4 : ReadsI w B A4 n4 row) (hB : B <= w.heap.size) (hL : LenB m) (s9 : n4 <= 1000) :
  Calls Tryz.prog 31 #[.agg #[.bool ng, .slice A7 l7 d7, .slice A8 l8 d8, .slice A1 n1 c1, .slice A2 n2 c2, .slice A3 n3 c3], .slice A4 n4 c4, .int .i64 cl] w fun e w' => ∃ v, e = .returned v /\ Jq7 w.heap.size (.bool ng) (.slice A7 l7 d7) (.slice A8 l8 d8) (.slice A1 n1 c1) (Xg m row cl) v w' /\ Below w.heap.size w w' := by
 have cA : m.words.length = n1 := h.words.len
 have aE : m.seen.length = n2 := h.seen.len
 have cB : m.counts.length = n3 := ReadsS.len h.counts
 have dN : row.length = n4 := h4.len
 obtain ⟨R, hR⟩ : ∃ R, Xg m row cl = R := ⟨_, rfl⟩
 rw [hR]
 have HR := lh hR
 clear hR
 obtain ⟨b0, b1, hB, hZ⟩ := bx2 w 31 #[.bool ng, .slice A7 l7 d7, .slice A8 l8 d8, .slice A1 n1 c1, .slice A2 n2 c2, .slice A3 n3 c3] 31 #[.bool false, .slice none 0 0, .slice none 0 0, .slice none 0 0, .slice none 0 0, .slice none 0 0]
 go_enter Tryz.func31, Tryz.ntmps31
 go_upto_region 1 with fail
 generalize ((w.alloc (.cells #[.bool ng, .slice A7 l7 d7, .slice A8 l8 d8, .slice A1 n1 c1, .slice A2 n2 c2, .slice A3 n3 c3] 31)).alloc (.cells #[.bool false, .slice none 0 0, .slice none 0 0, .slice none 0 0, .slice none 0 0, .slice none 0 0] 31)) = W at *
 rename B <= w.heap.size => hBB
 have HCK := lh (fun w' (hb : Below w.heap.size w w') => Jp2 ng A7 A8 l7 d7 l8 d8 A1 A2 A3 n1 c1 n2 c2 n3 c3 B m w' (h.below (hb.mono hBB)) (hq.below (hb.mono hBB)) (nt hBB hb.size) hL)
 have HRE := lh (fun w' (hb : Below w.heap.size w w') => Jo9 ng A7 A8 l7 d7 l8 d8 A1 A2 A3 n1 c1 n2 c2 n3 c3 B m A4 n4 c4 row w' (rkindI.below h.words (hb.mono hBB)) (rkindI.below h4 (hb.mono hBB)) (nt hBB hb.size) s9)
 have H := lh h
 have HQ := lh hq
 have H4 := lh h4
 have HL := lh hL
 have HW := lh (And.intro cA (And.intro aE (And.intro cB dN)))
 have HBW := lh hB
 have HBB := lh hBB
 have HZ := lh hZ.out
 obtain ⟨r, hr⟩ : ∃ r, Jk m = r := ⟨_, rfl⟩
 rw [hr] at HCK
 have HRC := lh hr
 obtain ⟨x0, x1, x2, x3, x4, x5⟩ := b0.c6
 clear h hq h4 hL cA aE cB dN hB hZ hBB hr
 go_wp2_with fail
 refine (HCK.out _ HBW.out).mono ?_
 rintro e w1 ⟨rfl, p9⟩
 have b0 := b0.below p9 b0.lt
 have b1 := b1.below p9 b1.lt
 have HB1 := lh (HBW.out.trans (p9.mono HBW.out.size))
 clear x0 x1 x2 x3 x4 x5 p9 HBW
 obtain ⟨x0, x1, x2, x3, x4, x5⟩ := b0.c6
 have o9 := show w.heap.size <= w.heap.size + 1 by omega
 generalize hgR : w.heap.size + 1 = gR at *
 have HGR := lh hgR
 have HB2 := lh b1
 have HC := lh b0
 clear b0 b1 hgR
 by_cases bC : r = 0
 case neg =>
  obtain rfl : R = (BM.none, 1) := by rw [<- HR.out]; unfold Xg; rw [if_pos (by unfold Xq; rw [if_pos (.inl (by rw [HRC.out]; exact bC))]; decide)]; unfold Xq; rw [if_pos (.inl (by rw [HRC.out]; exact bC))]
  have q1 : (r != 0) = true := by simp; omega
  have q2 : (r == 0) = false := by simp; omega
  go_wp2_with (refine Jr rfl _ (.tmp 6) (.tmp 23) rfl gR #[.bool false, .slice none 0 0, .slice none 0 0, .slice none 0 0, .slice none 0 0, .slice none 0 0] _ rfl rfl _ HB2.out (by kernel_rfl) rfl (by simp [Value.oneCell']) ?_; intro w7 j6 j7; have HX7 := lh j7; have HB7 := lh j6; clear j7 j6 x0 x1 x2 x3 x4 x5)
  obtain ⟨p0, p1, p2, p3, p4, p5⟩ := HB7.out.c6
  refine bodyPost_ret (v := .tuple #[.agg #[.bool false, .slice none 0 0, .slice none 0 0, .slice none 0 0, .slice none 0 0, .slice none 0 0], .int .i64 1]) (by simp [results, Tryz.results31, go_sem, p0, p1, p2, p3, p4, p5]) rfl ?_
  exact ⟨_, rfl, .inr ⟨by simp, rfl⟩, HB1.out.trans (HX7.out.below HB1.out.size o9)⟩
 subst bC
 by_cases aK : cl < 0
 ·obtain rfl : R = (BM.none, 1) := by rw [<- HR.out]; unfold Xg; rw [if_pos (by unfold Xq; rw [if_pos (.inr (.inl aK))]; decide)]; unfold Xq; rw [if_pos (.inr (.inl aK))]
  have q1 : decide (cl < 0) = true := decide_eq_true aK
  go_wp2_with (refine Jr rfl _ (.tmp 6) (.tmp 23) rfl gR #[.bool false, .slice none 0 0, .slice none 0 0, .slice none 0 0, .slice none 0 0, .slice none 0 0] _ rfl rfl _ HB2.out (by kernel_rfl) rfl (by simp [Value.oneCell']) ?_; intro w7 j6 j7; have HX7 := lh j7; have HB7 := lh j6; clear j7 j6 x0 x1 x2 x3 x4 x5)
  obtain ⟨p0, p1, p2, p3, p4, p5⟩ := HB7.out.c6
  refine bodyPost_ret (v := .tuple #[.agg #[.bool false, .slice none 0 0, .slice none 0 0, .slice none 0 0, .slice none 0 0, .slice none 0 0], .int .i64 1]) (by simp [results, Tryz.results31, go_sem, p0, p1, p2, p3, p4, p5]) rfl ?_
  exact ⟨_, rfl, .inr ⟨by simp, rfl⟩, HB1.out.trans (HX7.out.below HB1.out.size o9)⟩
 have q1 : decide (cl < 0) = false := decide_eq_false aK
 by_cases aL : (n2 : Int) <= cl
 ·obtain rfl : R = (BM.none, 1) := by rw [<- HR.out]; unfold Xg; rw [if_pos (by unfold Xq; rw [if_pos (.inr (.inr (by rw [HW.out.2.1]; exact aL)))]; decide)]; unfold Xq; rw [if_pos (.inr (.inr (by rw [HW.out.2.1]; exact aL)))]
  have q2 : decide ((n2 : Int) <= cl) = true := decide_eq_true aL
  go_wp2_with (refine Jr rfl _ (.tmp 6) (.tmp 23) rfl gR #[.bool false, .slice none 0 0, .slice none 0 0, .slice none 0 0, .slice none 0 0, .slice none 0 0] _ rfl rfl _ HB2.out (by kernel_rfl) rfl (by simp [Value.oneCell']) ?_; intro w7 j6 j7; have HX7 := lh j7; have HB7 := lh j6; clear j7 j6 x0 x1 x2 x3 x4 x5)
  obtain ⟨p0, p1, p2, p3, p4, p5⟩ := HB7.out.c6
  refine bodyPost_ret (v := .tuple #[.agg #[.bool false, .slice none 0 0, .slice none 0 0, .slice none 0 0, .slice none 0 0, .slice none 0 0], .int .i64 1]) (by simp [results, Tryz.results31, go_sem, p0, p1, p2, p3, p4, p5]) rfl ?_
  exact ⟨_, rfl, .inr ⟨by simp, rfl⟩, HB1.out.trans (HX7.out.below HB1.out.size o9)⟩
 have q2 : decide ((n2 : Int) <= cl) = false := decide_eq_false aL
 have cD : Xq m row cl = Zz m row := by unfold Xq; rw [if_neg (by rw [HRC.out, HW.out.2.1]; omega)]
 have HSU := lh cD
 obtain ⟨e, he⟩ : ∃ e, Zz m row = e := ⟨_, rfl⟩
 rw [he] at HRE HSU
 clear cD he
 go_wp2_with fail
 refine (HRE.out _ HB1.out).mono ?_
 rintro e' w2 ⟨rfl, j9⟩
 have b0 := HC.out.below j9 HC.out.lt
 have b1 := HB2.out.below j9 HB2.out.lt
 have HB3 := lh (HB1.out.trans (j9.mono HB1.out.size))
 clear x0 x1 x2 x3 x4 x5 j9 HB1 HC HB2 HRE q1 q2
 obtain ⟨x0, x1, x2, x3, x4, x5⟩ := b0.c6
 have HB2 := lh b1
 have HC := lh b0
 clear b0 b1
 by_cases cE : e = 0
 case neg =>
  obtain rfl : R = (BM.none, e) := by rw [<- HR.out]; unfold Xg; rw [if_pos (by rw [HSU.out]; exact cE), HSU.out]
  have q1 : (e != 0) = true := by simp; omega
  have q2 : (e == 0) = false := by simp; omega
  go_wp2_with (refine Jr rfl _ (.tmp 6) (.tmp 29) rfl gR #[.bool false, .slice none 0 0, .slice none 0 0, .slice none 0 0, .slice none 0 0, .slice none 0 0] _ rfl rfl _ HB2.out (by kernel_rfl) rfl (by simp [Value.oneCell']) ?_; intro w7 j6 j7; have HX7 := lh j7; have HB7 := lh j6; clear j7 j6 x0 x1 x2 x3 x4 x5)
  obtain ⟨p0, p1, p2, p3, p4, p5⟩ := HB7.out.c6
  refine bodyPost_ret (v := .tuple #[.agg #[.bool false, .slice none 0 0, .slice none 0 0, .slice none 0 0, .slice none 0 0, .slice none 0 0], .int .i64 e]) (by simp [results, Tryz.results31, go_sem, p0, p1, p2, p3, p4, p5]) rfl ?_
  exact ⟨_, rfl, .inr ⟨by simp; omega, rfl⟩, HB3.out.trans (HX7.out.below HB3.out.size o9)⟩
 subst cE
 obtain ⟨cF, -, -, cG⟩ := Ye HSU.out
 obtain ⟨cn, rfl⟩ := Int.eq_ofNat_of_zero_le (show 0 <= cl by omega)
 have aQ : cn < n2 := by omega
 obtain ⟨ad, y, rfl, aR, hy, hc⟩ := H.out.seen.at_ (k := cn) aQ
 have dA := Qg (HB3.out.mono HBB.out) hc aR
 have cH : m.seen.getD (cn : Int).toNat 0 = y := by
  have e : (cn : Int).toNat = cn := by omega
  rw [e, List.getD_eq_getElem?_getD, hy]
  rfl
 have HGD := lh cH
 have dG : (cn : Int) < (n2 : Int) := by omega
 clear hc hy cH aR aK aL
 by_cases hm : 1073741824 <= y
 ·obtain rfl : R = (BM.none, 18) := by rw [<- HR.out]; unfold Xg; rw [if_neg (by rw [HSU.out]; simp), if_pos (by rw [HGD.out]; exact hm)]
  have q3 : decide (1073741824 <= y) = true := decide_eq_true hm
  go_wp2_with (refine Jr rfl _ (.tmp 6) (.tmp 37) rfl gR #[.bool false, .slice none 0 0, .slice none 0 0, .slice none 0 0, .slice none 0 0, .slice none 0 0] _ rfl rfl _ HB2.out (by kernel_rfl) rfl (by simp [Value.oneCell']) ?_; intro w7 j6 j7; have HX7 := lh j7; have HB7 := lh j6; clear j7 j6 x0 x1 x2 x3 x4 x5)
  obtain ⟨p0, p1, p2, p3, p4, p5⟩ := HB7.out.c6
  refine bodyPost_ret (v := .tuple #[.agg #[.bool false, .slice none 0 0, .slice none 0 0, .slice none 0 0, .slice none 0 0, .slice none 0 0], .int .i64 18]) (by simp [results, Tryz.results31, go_sem, p0, p1, p2, p3, p4, p5]) rfl ?_
  exact ⟨_, rfl, .inr ⟨by simp, rfl⟩, HB3.out.trans (HX7.out.below HB3.out.size o9)⟩
 have q3 : decide (1073741824 <= y) = false := decide_eq_false hm
 obtain rfl : R = (Jn m row cn 1, 0) := by
  rw [<- HR.out]
  unfold Xg
  rw [if_neg (by rw [HSU.out]; simp), if_neg (by rw [HGD.out]; exact hm), Int.toNat_natCast]
 have p9 := HB3.out
 have cI := Jqi ng A7 A8 l7 d7 l8 d8 A1 (some ad) A3 n1 c1 n2 c2 n3 c3 B m A4 n4 c4 row cn 1 w2 (H.out.below (p9.mono HBB.out)) (rkindI.below H4.out (p9.mono HBB.out)) (nt HBB.out p9.size) cF cG aQ (.inl rfl)
 have HWI := lh cI
 clear cI p9 cF cG
 go_wp2_with fail
 refine HWI.out.mono ?_
 rintro e w3 ⟨v, rfl, ⟨S, C, G, H9, rfl, hs, dI, bD, bE⟩, bF⟩
 have cJ := HB2.out.lt
 have HBE := lh (HB2.out.below bF cJ)
 have hr := Js 3 zv
 have HX := lh (And.intro (show ∀ x, G x -> x ≠ gR from fun x hx => by have := (bD x hx).1; omega) (show ∀ x, H9 x -> x ≠ gR from fun x hx => by have := bE x hx; omega))
 have HB4 := lh (HB3.out.trans (bF.mono HB3.out.size))
 have HO := lh (And.intro hs (And.intro dI (And.intro bD bE)))
 have cK := HB3.out.size
 clear hs dI bD bE bF HWI x0 x1 x2 x3 x4 x5 dA cJ
 go_wp2_with (refine Jr rfl _ (.tmp 6) (.tmp 41) rfl gR #[.bool ng, .slice A7 l7 d7, .slice A8 l8 d8, .slice A1 n1 c1, .slice S.A S.n S.c, .slice C.A C.n C.c] _ rfl rfl _ HBE.out (by kernel_rfl) rfl (by simp [Value.oneCell']) ?_; intro w7 j6 j7; have HX7 := lh j7; have HB7 := lh j6; clear j7 j6)
 obtain ⟨p0, p1, p2, p3, p4, p5⟩ := HB7.out.c6
 refine bodyPost_ret (v := .tuple #[.agg #[.bool ng, .slice A7 l7 d7, .slice A8 l8 d8, .slice A1 n1 c1, .slice S.A S.n S.c, .slice C.A C.n C.c], .int .i64 0]) (by simp [results, Tryz.results31, go_sem, p0, p1, p2, p3, p4, p5]) rfl ?_
 exact ⟨_, rfl, .inl ⟨rfl, _, rfl, S, C, G, H9, rfl, hr.loc HO.out.1 HX7.out.size (fun x hx => HX7.out.block x (hr.lt HO.out.1 hx) (HX.out.1 x hx)), HO.out.2.1.loc (Xt hr _) HX7.out.size (fun x hx => HX7.out.block x (HO.out.2.1.lt (Xt hr _) hx) (HX.out.2 x hx)), fun x hx => ⟨nt cK (HO.out.2.2.1 x hx).1, (HO.out.2.2.1 x hx).2⟩, fun x hx => nt cK (HO.out.2.2.2 x hx)⟩, HB4.out.trans (HX7.out.below HB4.out.size o9)⟩
