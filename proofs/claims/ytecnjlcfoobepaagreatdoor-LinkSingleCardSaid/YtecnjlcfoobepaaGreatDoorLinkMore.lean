import Derived.Test.YtecnjlcfoobepaaGreatDoorLinkFine
namespace Go.Proofs.YtecnjlcfoobepaaGreatDoor
open Go.RowKit
set_option linter.unusedSimpArgs false
set_option linter.unusedVariables false
theorem far_at {w : World} {gf n c : Nat} {f : List (List Rat)} (h : OwnQQ w (.slice (some ⟨gf, 0, none⟩) n c) f) (hs : SymF f) {a b : Nat} (ha : a < f.length) (hb : b < f.length) :
  ∃ gr c', At1 w gf a (.slice (some ⟨gr, 0, none⟩) f.length c') ∧ AtQ w gr (b * 5) (dOf f a b) := by
 obtain ⟨l, hl⟩ : ∃ l, f[a]? = some l := ⟨_, List.getElem?_eq_getElem ha⟩
 have hld : f.getD a [] = l := by rw [List.getD_eq_getElem?_getD, hl]; rfl
 have hlen := hs.row a ha
 rw [hld] at hlen
 obtain ⟨A, m, k, hc, ho⟩ := OwnS.at_ h hl
 obtain ⟨g, rfl, hm⟩ := OwnQ.addr' ho (by omega)
 rw [hm, hlen] at hc
 obtain ⟨x, hx⟩ : ∃ x, l[b]? = some x := ⟨_, List.getElem?_eq_getElem (by omega)⟩
 have hd : dOf f a b = x := by
  unfold dOf
  rw [hld, List.getD_eq_getElem?_getD, hx]
  rfl
 rw [hd]
 exact ⟨g, k, At1.mk' hc, OwnQ.at_ ho hx⟩
theorem dOf_QS {f : List (List Rat)} {m : Nat} (h : ∀ l ∈ f, ∀ x ∈ l, QS m x) (hm : 1 ≤ m) (a b : Nat) : QS m (dOf f a b) := by
 unfold dOf
 rw [List.getD_eq_getElem?_getD (l := f)]
 cases hl : f[a]? with
 | none => exact QS.getD (fun x hx => by cases hx) hm b
 | some l => exact QS.getD (h l (List.mem_of_getElem? hl)) hm b
set_option maxRecDepth 100000 in
set_option maxHeartbeats 1000000 in
theorem hand_q (n : Int) (w : World) (h0 : -9223372036854775808 ≤ n) (h1 : n ≤ 9223372036854775807) (hT : Tab w) : Calls Tryz.prog 43 #[.int .i64 n] w (Ret (qV (rOf n)) w) := by
 have hr := fun w => hand_r n w h0 h1
 have hin := fun B V w h hB hT => hand_in (rOf n) B V w h hB ((rOf_size n).mono (by omega)) hT
 generalize rOf n = q at *
 unfold qV at hin ⊢
 have HR := Lib.hid hr
 have HIN := Lib.hid hin
 have HT := Lib.hid hT
 clear hr hin hT h0 h1
 have b0 := Blk.new w  56 #[.bool false, .int .u64 0, .string ⟨#[]⟩, .int .u64 0, .string ⟨#[]⟩]; have hB := balloc1 w (.cells #[.bool false, .int .u64 0, .string ⟨#[]⟩, .int .u64 0, .string ⟨#[]⟩] 56); have hZ := Lib.hid (show (w.alloc (.cells #[.bool false, .int .u64 0, .string ⟨#[]⟩, .int .u64 0, .string ⟨#[]⟩] 56)).heap.size = w.heap.size + 1 from by simp)
 go_enter Tryz.func43, Tryz.ntmps43
 go_wp2_with fail
 generalize (w.alloc (.cells #[.bool false, .int .u64 0, .string ⟨#[]⟩, .int .u64 0, .string ⟨#[]⟩] 56)) = W at *
 refine (HR.out W).mono ?_
 rintro e w1 ⟨V, rfl, hq, hb1⟩
 have HQ := Lib.hid hq
 have b0 := b0.below hb1 b0.lt
 have hB := bthen hB hb1
 obtain ⟨g1, A1, l1, c1, A2, l2, c2, rfl⟩ := hq.shape
 clear hq hb1
 go_wp2_with fail
 refine (HIN.out _ _ _ HQ.out (Nat.le_refl _) (HT.out.next hB)).mono ?_
 rintro e w2 ⟨rfl, hb2⟩
 have b0 := b0.below hb2 b0.lt
 have hB := bthen hB hb2
 clear hb2 HIN HR
 obtain ⟨b0q0, b0q1, b0q2, b0q3, b0q4, b0f0, b0f1, b0f2, b0f3, b0f4, b0s0, b0s1, b0s2, b0s3, b0s4⟩ := b0.f5
 go_wp2
 refine bodyPost_ret (v := .agg #[.bool (decide (q.num < 0)), .int .u64 (lo q.num.natAbs : Int), .string (mo q.num.natAbs), .int .u64 (lo ((qden q)) : Int), .string (mo ((qden q)))]) (by simp [results, Tryz.results43, go_sem, b0s0, b0s1, b0s2, b0s3, b0s4]) rfl ?_
 exact ⟨rfl, bset5 hB (by omega) _ _ _ _ _⟩
set_option maxRecDepth 100000 in
set_option maxHeartbeats 1000000 in
theorem frac_mean (A : Option Addr) (n c B m : Nat) (l : List Rat) (w : World) (h : ReadsQ w B A n l) (hB : B ≤ w.heap.size) (hn : n ≤ 1000) (hn0 : 0 < n) (hm : m ≤ 100000) (hl : ∀ x ∈ l, QS m x) (hT : Tab w) :
  Calls Tryz.prog 44 #[.slice A n c] w (Ret (.tuple #[qV (sumQ l / ((n : Int) : Rat)), .bool true]) w) := by
 have hsum := fun w' (hb : Below w.heap.size w w') => frac_sum A n c B m l w' (h.below (hb.mono hB)) (Nat.le_trans hB hb.size) (by omega) hm hl (hT.next hb)
 have hof := fun w => frac_of (n : Int) w (by omega) (by omega)
 have hc : ((n : Int) : Rat) = ((n : Nat) : Rat) := Rat.intCast_natCast n
 have hqn : QS 11 ((n : Nat) : Rat) := QS.nat (k := 11) (n := n) (by omega) (by omega)
 have hn1 : ((n : Nat) : Rat) ≠ 0 := fun e => by
  have : n = 0 := by exact_mod_cast e
  omega
 have hqs : QS 549755813888 (sumQ l) := by
  have hln := h.len
  have := QS.sum l hl n
  rw [List.take_of_length_le (by omega)] at this
  refine this.mono ?_
  have := Nat.mul_le_mul hn (show m + 1 ≤ 100001 by omega)
  omega
 rw [hc] at hof ⊢
 have hdv := fun w (hT : Tab w) => frac_div (sumQ l) ((n : Nat) : Rat) w hqs (hqn.mono (by omega)) hn1 hT
 generalize sumQ l / ((n : Nat) : Rat) = q at *
 generalize sumQ l = x at *
 generalize ((n : Nat) : Rat) = y at *
 unfold qV at hsum hof hdv ⊢
 have HS := Lib.hid hsum
 have HO := Lib.hid hof
 have HD := Lib.hid hdv
 have HT := Lib.hid hT
 clear hsum hof hdv hT h hl hc hqn hn1 hqs
 have hB9 := hB
 clear hB
 have b0 := Blk.new w  56 #[.bool false, .int .u64 0, .string ⟨#[]⟩, .int .u64 0, .string ⟨#[]⟩]; have hB := balloc1 w (.cells #[.bool false, .int .u64 0, .string ⟨#[]⟩, .int .u64 0, .string ⟨#[]⟩] 56); have hZ := Lib.hid (show (w.alloc (.cells #[.bool false, .int .u64 0, .string ⟨#[]⟩, .int .u64 0, .string ⟨#[]⟩] 56)).heap.size = w.heap.size + 1 from by simp)
 have hB1 := hB
 go_enter Tryz.func44, Tryz.ntmps44
 go_wp2_with fail
 generalize (w.alloc (.cells #[.bool false, .int .u64 0, .string ⟨#[]⟩, .int .u64 0, .string ⟨#[]⟩] 56)) = W at *
 refine (HS.out W hB1).mono ?_
 rintro e w1 ⟨rfl, hb1⟩
 have b0 := b0.below hb1 b0.lt
 have hB1 := bthen hB1 hb1
 go_wp2_with fail
 refine (HO.out w1).mono ?_
 rintro e w2 ⟨rfl, hb2⟩
 have b0 := b0.below hb2 b0.lt
 have hB1 := bthen hB1 hb2
 go_wp2_with fail
 refine (HD.out w2 (HT.out.next hB1)).mono ?_
 rintro e w3 ⟨rfl, hb3⟩
 have b0 := b0.below hb3 b0.lt
 have hB1 := bthen hB1 hb3
 obtain ⟨b0q0, b0q1, b0q2, b0q3, b0q4, b0f0, b0f1, b0f2, b0f3, b0f4, b0s0, b0s1, b0s2, b0s3, b0s4⟩ := b0.f5
 go_wp2
 refine bodyPost_ret (v := .tuple #[.agg #[.bool (decide (q.num < 0)), .int .u64 (lo q.num.natAbs : Int), .string (mo q.num.natAbs), .int .u64 (lo ((qden q)) : Int), .string (mo ((qden q)))], .bool true]) (by simp [results, Tryz.results44, go_sem, b0s0, b0s1, b0s2, b0s3, b0s4]) rfl ?_
 exact ⟨rfl, bset5 hB1 (by omega) _ _ _ _ _⟩
end Go.Proofs.YtecnjlcfoobepaaGreatDoor
