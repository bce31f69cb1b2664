/- Part 23 of the texts that walk the program and tell its laws, joined in the order of their building. No conditions. -/
import Derived.Test.YtcbehfbfaonanaaJk21
import Derived.Test.YtcbehfbfaonanaaJk1
import Derived.Test.YtcbehfbfaonanaaJk8
import Derived.Test.YtcbehfbfaonanaaJk15
set_option maxRecDepth 100000
set_option maxHeartbeats 16000000
section
namespace Go.Proofs.Ytcbehfbfaonanaa.Wr
open Go.RowKit Go.Proofs.YtcbehfbfaonanaaW.PrintWords Go.Proofs.YtcbehfbfaonanaaW.PrintLast Go.Proofs.YtcbehfbfaonanaaW.PrintMore Go.Proofs.Ytcbehfbfaonanaa.Pk
set_option linter.unusedVariables false
set_option linter.unusedSimpArgs false
theorem ip_8 (w1 wc : World) (g : Nat) (f : Nat → Value) (x : Nat → Int) (s : Nat → ByteArray) (p : Nat → Bool) (A : Nat → Option Addr) (n c : Nat → Nat) (K : Exit → Act → World → Prop) (l0 : List It) (vo kd : Value) (HX0 : Aside0 (w1.heap[g]? = some (.cells (cX x s p (fun j => .slice (A j) (n j) (c j))) 32 (0, 0)))) (h3 : f 3 = vo) (h37 : f 37 = kd) (HO : Aside0 (RI wc w1.heap.size vo l0)) (HB : Aside0 (Below w1.heap.size w1 wc)) (HL : Aside0 (l0.length ≤ 1000))
  (hK : Aside0 (KI K g w1 kd (l0 ++ [iN ((n 3 : Nat) : Int)]))) : Code.wp Try.prog (cl ic8) K (ifr g f) wc := by
 have HX := aK ((HB.out.block g (blk_lt HX0.out)).trans HX0.out)
 unfold ifr
 rw [h3, h37]
 conv => arg 2; whnf
 go_wp2_with (first | ((with_reducible refine gate_in [42] (by decide) ?_); refine ld (T := 22) (g := g) (v := .slice _ _ _) rfl rfl HX.out rfl rfl TuE rfl ?_) | ((with_reducible refine gate_in [44] (by decide) ?_); refine Kd.event_run rfl (v := .slice (some ⟨wc.heap.size, 0, none⟩) 1 1) (w1 := wc.alloc (.cells #[.int .i64 ((n 3 : Nat) : Int)] 3)) (by first | (go_simp; done) | (go_simp; rfl)) ?_; have hb := below_alloc (Below.refl wc.heap.size wc) (.cells #[.int .i64 ((n 3 : Nat) : Int)] 3); have HO := aK (HO.out.below hb); have HB := aK (HB.out.trans (hb.mono HB.out.size)); have HX := aK ((HB.out.block g (blk_lt HX0.out)).trans HX0.out); clear hb) | (go_at_call 51; (with_reducible refine (n1_c _ _).mono ?_); rintro e wc ⟨vn, rfl, hu, hb⟩; have HU := aK hu; have HO := aK (HO.out.below hb); have HB := aK (HB.out.trans (hb.mono HB.out.size)); have HX := aK ((HB.out.block g (blk_lt HX0.out)).trans HX0.out); clear hu hb) | ((with_reducible refine gate_builtin (b := .append) rfl ?_); refine appI rfl rfl rfl rfl HO.out HU.out HB.out HB.out.size (by have := HL.out; simp only [List.length_append, List.length_cons, List.length_nil]; omega) ?_; intro v1 wc ho hb hkp; have HO := aK ho; have HB := aK hb; have HX := aK ((HB.out.block g (blk_lt HX0.out)).trans HX0.out); clear ho hb HU hkp))
 exact hK.out _ wc _ ⟨rfl, rfl, rfl⟩ rfl HO.out HB.out rfl
theorem ip_19 (w1 wc : World) (g : Nat) (f : Nat → Value) (x : Nat → Int) (s : Nat → ByteArray) (p : Nat → Bool) (A : Nat → Option Addr) (n c : Nat → Nat) (K : Exit → Act → World → Prop) (l0 : List It) (vo kd : Value) (HX0 : Aside0 (w1.heap[g]? = some (.cells (cX x s p (fun j => .slice (A j) (n j) (c j))) 32 (0, 0)))) (h3 : f 3 = vo) (h37 : f 37 = kd) (HO : Aside0 (RI wc w1.heap.size vo l0)) (HB : Aside0 (Below w1.heap.size w1 wc)) (HL : Aside0 (l0.length ≤ 1000))
  (hK : Aside0 (KI K g w1 kd (l0 ++ [iN (x 4), iN (x 5)]))) : Code.wp Try.prog (cl ic19) K (ifr g f) wc := by
 have HX := aK ((HB.out.block g (blk_lt HX0.out)).trans HX0.out)
 unfold ifr
 rw [h3, h37]
 conv => arg 2; whnf
 go_wp2_with (first | ((with_reducible refine gate_in [95] (by decide) ?_); refine ldr (T := 24) (g := g) (vs := [.int .i64 _, .int .i64 _]) rfl rfl HX.out 2 rfl rfl Try.underlying24 rfl (by kernel_rfl) ?_) | (go_at_call 52; (with_reducible refine (p_c _ _ _).mono ?_); rintro e wc ⟨vn, rfl, hu, hb⟩; have HU := aK hu; have HO := aK (HO.out.below hb); have HB := aK (HB.out.trans (hb.mono HB.out.size)); have HX := aK ((HB.out.block g (blk_lt HX0.out)).trans HX0.out); clear hu hb) | ((with_reducible refine gate_builtin (b := .append) rfl ?_); refine appI rfl rfl rfl rfl HO.out HU.out HB.out HB.out.size (by have := HL.out; simp only [List.length_append, List.length_cons, List.length_nil]; omega) ?_; intro v1 wc ho hb hkp; have HO := aK ho; have HB := aK hb; have HX := aK ((HB.out.block g (blk_lt HX0.out)).trans HX0.out); clear ho hb HU hkp))
 exact hK.out _ wc _ ⟨rfl, rfl, rfl⟩ rfl HO.out HB.out rfl
theorem ip_20 (w1 wc : World) (g : Nat) (f : Nat → Value) (x : Nat → Int) (s : Nat → ByteArray) (p : Nat → Bool) (A : Nat → Option Addr) (n c : Nat → Nat) (K : Exit → Act → World → Prop) (l0 : List It) (vo kd : Value) (HX0 : Aside0 (w1.heap[g]? = some (.cells (cX x s p (fun j => .slice (A j) (n j) (c j))) 32 (0, 0)))) (h3 : f 3 = vo) (h37 : f 37 = kd) (HO : Aside0 (RI wc w1.heap.size vo l0)) (HB : Aside0 (Below w1.heap.size w1 wc)) (HL : Aside0 (l0.length ≤ 1000))
  (hK : Aside0 (KI K g w1 kd (l0 ++ [iN (x 6), iN (x 7), iN ((n 8 : Nat) : Int)]))) : Code.wp Try.prog (cl (cr ic19)) K (ifr g f) wc := by
 have HX := aK ((HB.out.block g (blk_lt HX0.out)).trans HX0.out)
 unfold ifr
 rw [h3, h37]
 conv => arg 2; whnf
 go_wp2_with (first | ((with_reducible refine gate_in [100, 102] (by decide) ?_); refine ld (T := 3) (g := g) (v := .int .i64 _) rfl rfl HX.out rfl rfl TuI rfl ?_) | ((with_reducible refine gate_in [104] (by decide) ?_); refine ld (T := 25) (g := g) (v := .slice _ _ _) rfl rfl HX.out rfl rfl TuP rfl ?_) | ((with_reducible refine gate_in [106] (by decide) ?_); refine Kd.event_run rfl (v := .slice (some ⟨wc.heap.size, 0, none⟩) 3 3) (w1 := wc.alloc (.cells #[.int .i64 (x 6), .int .i64 (x 7), .int .i64 ((n 8 : Nat) : Int)] 3)) (by first | (go_simp; done) | (go_simp; rfl)) ?_; have hb := below_alloc (Below.refl wc.heap.size wc) (.cells #[.int .i64 (x 6), .int .i64 (x 7), .int .i64 ((n 8 : Nat) : Int)] 3); have HO := aK (HO.out.below hb); have HB := aK (HB.out.trans (hb.mono HB.out.size)); have HX := aK ((HB.out.block g (blk_lt HX0.out)).trans HX0.out); clear hb) | (go_at_call 51; (with_reducible refine (n3_c _ _ _ _).mono ?_); rintro e wc ⟨vn, rfl, hu, hb⟩; have HU := aK hu; have HO := aK (HO.out.below hb); have HB := aK (HB.out.trans (hb.mono HB.out.size)); have HX := aK ((HB.out.block g (blk_lt HX0.out)).trans HX0.out); clear hu hb) | ((with_reducible refine gate_builtin (b := .append) rfl ?_); refine appI rfl rfl rfl rfl HO.out HU.out HB.out HB.out.size (by have := HL.out; simp only [List.length_append, List.length_cons, List.length_nil]; omega) ?_; intro v1 wc ho hb hkp; have HO := aK ho; have HB := aK hb; have HX := aK ((HB.out.block g (blk_lt HX0.out)).trans HX0.out); clear ho hb HU hkp))
 exact hK.out _ wc _ ⟨rfl, rfl, rfl⟩ rfl HO.out HB.out rfl
theorem ip_26 (w1 wc : World) (g : Nat) (f : Nat → Value) (x : Nat → Int) (s : Nat → ByteArray) (p : Nat → Bool) (A : Nat → Option Addr) (n c : Nat → Nat) (K : Exit → Act → World → Prop) (l0 : List It) (vo kd : Value) (HX0 : Aside0 (w1.heap[g]? = some (.cells (cX x s p (fun j => .slice (A j) (n j) (c j))) 32 (0, 0)))) (h3 : f 3 = vo) (h37 : f 37 = kd) (HO : Aside0 (RI wc w1.heap.size vo l0)) (HB : Aside0 (Below w1.heap.size w1 wc)) (HL : Aside0 (l0.length ≤ 1000))
  (hK : Aside0 (KI K g w1 kd (l0 ++ [iN ((n 9 : Nat) : Int)]))) : Code.wp Try.prog (cl (cr (cr (cr ic19)))) K (ifr g f) wc := by
 have HX := aK ((HB.out.block g (blk_lt HX0.out)).trans HX0.out)
 unfold ifr
 rw [h3, h37]
 conv => arg 2; whnf
 go_wp2_with (first | ((with_reducible refine gate_in [137] (by decide) ?_); refine ld (T := 26) (g := g) (v := .slice _ _ _) rfl rfl HX.out rfl rfl TuS rfl ?_) | ((with_reducible refine gate_in [139] (by decide) ?_); refine Kd.event_run rfl (v := .slice (some ⟨wc.heap.size, 0, none⟩) 1 1) (w1 := wc.alloc (.cells #[.int .i64 ((n 9 : Nat) : Int)] 3)) (by first | (go_simp; done) | (go_simp; rfl)) ?_; have hb := below_alloc (Below.refl wc.heap.size wc) (.cells #[.int .i64 ((n 9 : Nat) : Int)] 3); have HO := aK (HO.out.below hb); have HB := aK (HB.out.trans (hb.mono HB.out.size)); have HX := aK ((HB.out.block g (blk_lt HX0.out)).trans HX0.out); clear hb) | (go_at_call 51; (with_reducible refine (n1_c _ _).mono ?_); rintro e wc ⟨vn, rfl, hu, hb⟩; have HU := aK hu; have HO := aK (HO.out.below hb); have HB := aK (HB.out.trans (hb.mono HB.out.size)); have HX := aK ((HB.out.block g (blk_lt HX0.out)).trans HX0.out); clear hu hb) | ((with_reducible refine gate_builtin (b := .append) rfl ?_); refine appI rfl rfl rfl rfl HO.out HU.out HB.out HB.out.size (by have := HL.out; simp only [List.length_append, List.length_cons, List.length_nil]; omega) ?_; intro v1 wc ho hb hkp; have HO := aK ho; have HB := aK hb; have HX := aK ((HB.out.block g (blk_lt HX0.out)).trans HX0.out); clear ho hb HU hkp))
 exact hK.out _ wc _ ⟨rfl, rfl, rfl⟩ rfl HO.out HB.out rfl
theorem ip_33 (w1 wc : World) (g : Nat) (f : Nat → Value) (x : Nat → Int) (s : Nat → ByteArray) (p : Nat → Bool) (A : Nat → Option Addr) (n c : Nat → Nat) (K : Exit → Act → World → Prop) (l0 : List It) (vo kd : Value) (HX0 : Aside0 (w1.heap[g]? = some (.cells (cX x s p (fun j => .slice (A j) (n j) (c j))) 32 (0, 0)))) (h3 : f 3 = vo) (h37 : f 37 = kd) (HO : Aside0 (RI wc w1.heap.size vo l0)) (HB : Aside0 (Below w1.heap.size w1 wc)) (HL : Aside0 (l0.length ≤ 1000))
  (hK : Aside0 (KI K g w1 kd (l0 ++ [iN ((n 10 : Nat) : Int)]))) : Code.wp Try.prog (cl ic33) K (ifr g f) wc := by
 have HX := aK ((HB.out.block g (blk_lt HX0.out)).trans HX0.out)
 unfold ifr
 rw [h3, h37]
 conv => arg 2; whnf
 go_wp2_with (first | ((with_reducible refine gate_in [178] (by decide) ?_); refine ld (T := 27) (g := g) (v := .slice _ _ _) rfl rfl HX.out rfl rfl TuT rfl ?_) | ((with_reducible refine gate_in [180] (by decide) ?_); refine Kd.event_run rfl (v := .slice (some ⟨wc.heap.size, 0, none⟩) 1 1) (w1 := wc.alloc (.cells #[.int .i64 ((n 10 : Nat) : Int)] 3)) (by first | (go_simp; done) | (go_simp; rfl)) ?_; have hb := below_alloc (Below.refl wc.heap.size wc) (.cells #[.int .i64 ((n 10 : Nat) : Int)] 3); have HO := aK (HO.out.below hb); have HB := aK (HB.out.trans (hb.mono HB.out.size)); have HX := aK ((HB.out.block g (blk_lt HX0.out)).trans HX0.out); clear hb) | (go_at_call 51; (with_reducible refine (n1_c _ _).mono ?_); rintro e wc ⟨vn, rfl, hu, hb⟩; have HU := aK hu; have HO := aK (HO.out.below hb); have HB := aK (HB.out.trans (hb.mono HB.out.size)); have HX := aK ((HB.out.block g (blk_lt HX0.out)).trans HX0.out); clear hu hb) | ((with_reducible refine gate_builtin (b := .append) rfl ?_); refine appI rfl rfl rfl rfl HO.out HU.out HB.out HB.out.size (by have := HL.out; simp only [List.length_append, List.length_cons, List.length_nil]; omega) ?_; intro v1 wc ho hb hkp; have HO := aK ho; have HB := aK hb; have HX := aK ((HB.out.block g (blk_lt HX0.out)).trans HX0.out); clear ho hb HU hkp))
 exact hK.out _ wc _ ⟨rfl, rfl, rfl⟩ rfl HO.out HB.out rfl
theorem iz_9 (wc : World) (g : Nat) (f : Nat → Value) (K : Exit → Act → World → Prop) (vo kd : Value) (h3 : f 3 = vo) (h37 : f 37 = kd) (hK : Aside0 (∀ a, RFr 313 g a → a.tmps[3]? = some vo → a.tmps[37]? = some kd → a.tmps[4]? = some (.int .i64 ((0 : Nat) : Int)) → K .normal a wc)) : Code.wp Try.prog (cl (cr ic8)) K (ifr g f) wc := by
 unfold ifr
 rw [h3, h37]
 conv => arg 2; whnf
 go_wp2_with fail
 exact hK.out _ ⟨rfl, rfl, rfl⟩ rfl rfl rfl
theorem iz_21 (wc : World) (g : Nat) (f : Nat → Value) (K : Exit → Act → World → Prop) (vo kd : Value) (h3 : f 3 = vo) (h37 : f 37 = kd) (hK : Aside0 (∀ a, RFr 313 g a → a.tmps[3]? = some vo → a.tmps[37]? = some kd → a.tmps[6]? = some (.int .i64 ((0 : Nat) : Int)) → K .normal a wc)) : Code.wp Try.prog (cl (cl (cr (cr ic19)))) K (ifr g f) wc := by
 unfold ifr
 rw [h3, h37]
 conv => arg 2; whnf
 go_wp2_with fail
 exact hK.out _ ⟨rfl, rfl, rfl⟩ rfl rfl rfl
theorem iz_27 (wc : World) (g : Nat) (f : Nat → Value) (K : Exit → Act → World → Prop) (vo kd : Value) (h3 : f 3 = vo) (h37 : f 37 = kd) (hK : Aside0 (∀ a, RFr 313 g a → a.tmps[3]? = some vo → a.tmps[37]? = some kd → a.tmps[7]? = some (.int .i64 ((0 : Nat) : Int)) → K .normal a wc)) : Code.wp Try.prog (cl (cr (cr (cr (cr ic19))))) K (ifr g f) wc := by
 unfold ifr
 rw [h3, h37]
 conv => arg 2; whnf
 go_wp2_with fail
 exact hK.out _ ⟨rfl, rfl, rfl⟩ rfl rfl rfl
theorem iz_34 (wc : World) (g : Nat) (f : Nat → Value) (K : Exit → Act → World → Prop) (vo kd : Value) (h3 : f 3 = vo) (h37 : f 37 = kd) (hK : Aside0 (∀ a, RFr 313 g a → a.tmps[3]? = some vo → a.tmps[37]? = some kd → a.tmps[8]? = some (.int .i64 ((0 : Nat) : Int)) → K .normal a wc)) : Code.wp Try.prog (cl (cr ic33)) K (ifr g f) wc := by
 unfold ifr
 rw [h3, h37]
 conv => arg 2; whnf
 go_wp2_with fail
 exact hK.out _ ⟨rfl, rfl, rfl⟩ rfl rfl rfl
theorem lpI_entry (w1 wc : World) (g : Nat) (f : Nat → Value) (x : Nat → Int) (s : Nat → ByteArray) (p : Nat → Bool) (A : Nat → Option Addr) (n c : Nat → Nat) (K : Exit → Act → World → Prop) (l0 : List It) (vo kd : Value) (HX0 : Aside0 (w1.heap[g]? = some (.cells (cX x s p (fun j => .slice (A j) (n j) (c j))) 32 (0, 0)))) (h3 : f 3 = vo) (h37 : f 37 = kd) (hs0 : f 4 = .int .i64 ((0 : Nat) : Int)) (HO : Aside0 (RI wc w1.heap.size vo l0)) (HB : Aside0 (Below w1.heap.size w1 wc)) (HL : l0.length ≤ 100) (hP : ∀ c a d v w, K (.panic c) (a.put d v) w → K (.panic c) a w)
  (rows : List (List Value)) (hn : n 3 = rows.length) (hrd : ListRd w1 (.slice (A 3) (n 3) (c 3)) 7 rows) (hfit : ∀ r, r ∈ rows → fits entryF r) (hlen : rows.length ≤ 64)
  (hK : Aside0 (KI K g w1 kd (l0 ++ rows.flatMap (itR entryF)))) : Code.wp Try.prog (cr (cr ic8)) K (ifr g f) wc := by
 refine wp_block (id := 1) (c := cl (cr (cr ic8))) ?_
 refine wp_loop (c := cl (cl (cr (cr ic8)))) (fun a W => RFr 313 g a ∧ Below w1.heap.size w1 W ∧ a.tmps[37]? = some kd ∧ ∃ i : Nat, i ≤ rows.length ∧ a.tmps[4]? = some (.int .i64 (i : Int)) ∧ ∃ v, a.tmps[3]? = some v ∧ RI W w1.heap.size v (l0 ++ (rows.take i).flatMap (itR entryF))) (fun a _ => rows.length - ctr (a.tmps[4]?))
  ⟨⟨rfl, rfl, rfl⟩, HB.out, (show some (f 37) = some kd by rw [h37]), 0, by omega, (show some (f 4) = _ by rw [hs0]), vo, (show some (f 3) = some vo by rw [h3]), by simpa using HO.out⟩ ?_
 rintro a W ⟨hF, hB, h37', i, hi, hsi, v, h3', hR⟩
 have e := hF.openI
 have gf : ∀ k u, a.tmps[k]? = some u → (fun i => a.tmps.getD i undef) k = u := fun k u hk => by
  show a.tmps.getD k undef = u
  rw [Array.getD_eq_getD_getElem?, hk]
  rfl
 have f3 := gf 3 _ h3'
 have f37 := gf 37 _ h37'
 have fsi := gf 4 _ hsi
 clear gf
 generalize (fun i => a.tmps.getD i undef) = f' at e f3 f37 fsi
 subst e
 by_cases hil : i = rows.length
 ·refine ie_entry w1 W g f' x s p A n c _ i HX0 fsi (aK hB) v kd f3 f37 (by rw [hn, hil]; simp) (fun a2 k1 k2 k3 => ?_)
  show (if 1 = 1 then K .normal a2 W else K (.exit 1) a2 W)
  rw [if_pos rfl]
  exact hK.out a2 W v k1 k2 (by rw [hil, List.take_length] at hR; exact hR) hB k3
 ·have hlt : i < n 3 := by omega
  obtain ⟨ad, r, hA, hr, hc⟩ := rd_row (fs := entryF) hrd hn.symm hlt
  have hA := aK hA
  have hmem : r ∈ rows := List.mem_of_getElem? hr
  have hcell : ∀ W, Below w1.heap.size w1 W → ∀ j v, r[j]? = some v → W.cell? ((ad.add (i * 7)).add j) = some v := fun W hW j v hj => by
   obtain ⟨ad', r', hA', hr', hc'⟩ := rd_row (fs := entryF) (hrd.below (by omega) (fun r hr => fits_length (hfit r hr)) hW) hn.symm hlt
   rw [hA.out] at hA'
   rw [hr] at hr'
   cases hA'
   cases hr'
   rw [Addr.add_add]
   exact hc' j v hj
  obtain ⟨e0, e1, e2, e3, e4, e5, e6, rfl⟩ := entry_vals (hfit r hmem)
  have hlen' : (l0 ++ (rows.take i).flatMap (itR entryF)).length ≤ 1000 := by
   have := rows_len entryF 7 (by decide) (rows.take i)
   simp only [List.length_append, List.length_take] at this ⊢
   omega
  refine id_entry w1 W g f' x s p A n c _ (l0 ++ (rows.take i).flatMap (itR entryF)) v kd i ad e0 e1 e2 e3 e4 e5 e6 HX0 f3 f37 fsi (aK hR) (aK hB) (aK hlen') (fun c a d v w h => hP c a d v w h) hlt (by omega) hA (aK hcell) (aK (fun a2 W2 vo' k1 k2 k3 k4 k5 k6 => ⟨⟨k1, k4, k5, i + 1, by omega, k6, vo', k2, ?_⟩, ?_⟩))
  ·have e2 : l0 ++ (rows.take (i + 1)).flatMap (itR entryF) = (l0 ++ (rows.take i).flatMap (itR entryF)) ++ [iN e0, iN e1] ++ [iN e2, iN e3] ++ [iS (e4), iF (e5), iS (e6)] := by
    rw [List.take_add_one, hr, List.flatMap_append]
    simp [itR, itF, entryF, List.append_assoc]
   rw [e2]
   exact k3
  ·show rows.length - ctr (a2.tmps[4]?) < rows.length - ctr ((ifr g f').tmps[4]?)
   rw [k6, hsi]
   show rows.length - (((i + 1 : Nat) : Int)).toNat < rows.length - ((i : Nat) : Int).toNat
   omega
theorem lpI_pair (w1 wc : World) (g : Nat) (f : Nat → Value) (x : Nat → Int) (s : Nat → ByteArray) (p : Nat → Bool) (A : Nat → Option Addr) (n c : Nat → Nat) (K : Exit → Act → World → Prop) (l0 : List It) (vo kd : Value) (HX0 : Aside0 (w1.heap[g]? = some (.cells (cX x s p (fun j => .slice (A j) (n j) (c j))) 32 (0, 0)))) (h3 : f 3 = vo) (h37 : f 37 = kd) (hs0 : f 6 = .int .i64 ((0 : Nat) : Int)) (HO : Aside0 (RI wc w1.heap.size vo l0)) (HB : Aside0 (Below w1.heap.size w1 wc)) (HL : l0.length ≤ 100) (hP : ∀ c a d v w, K (.panic c) (a.put d v) w → K (.panic c) a w)
  (rows : List (List Value)) (hn : n 8 = rows.length) (hrd : ListRd w1 (.slice (A 8) (n 8) (c 8)) 5 rows) (hfit : ∀ r, r ∈ rows → fits pairF r) (hlen : rows.length ≤ 64)
  (hK : Aside0 (KI K g w1 kd (l0 ++ rows.flatMap (itR pairF)))) : Code.wp Try.prog (cr (cl (cr (cr ic19)))) K (ifr g f) wc := by
 refine wp_block (id := 3) (c := cl (cr (cl (cr (cr ic19))))) ?_
 refine wp_loop (c := cl (cl (cr (cl (cr (cr ic19)))))) (fun a W => RFr 313 g a ∧ Below w1.heap.size w1 W ∧ a.tmps[37]? = some kd ∧ ∃ i : Nat, i ≤ rows.length ∧ a.tmps[6]? = some (.int .i64 (i : Int)) ∧ ∃ v, a.tmps[3]? = some v ∧ RI W w1.heap.size v (l0 ++ (rows.take i).flatMap (itR pairF))) (fun a _ => rows.length - ctr (a.tmps[6]?))
  ⟨⟨rfl, rfl, rfl⟩, HB.out, (show some (f 37) = some kd by rw [h37]), 0, by omega, (show some (f 6) = _ by rw [hs0]), vo, (show some (f 3) = some vo by rw [h3]), by simpa using HO.out⟩ ?_
 rintro a W ⟨hF, hB, h37', i, hi, hsi, v, h3', hR⟩
 have e := hF.openI
 have gf : ∀ k u, a.tmps[k]? = some u → (fun i => a.tmps.getD i undef) k = u := fun k u hk => by
  show a.tmps.getD k undef = u
  rw [Array.getD_eq_getD_getElem?, hk]
  rfl
 have f3 := gf 3 _ h3'
 have f37 := gf 37 _ h37'
 have fsi := gf 6 _ hsi
 clear gf
 generalize (fun i => a.tmps.getD i undef) = f' at e f3 f37 fsi
 subst e
 by_cases hil : i = rows.length
 ·refine ie_pair w1 W g f' x s p A n c _ i HX0 fsi (aK hB) v kd f3 f37 (by rw [hn, hil]; simp) (fun a2 k1 k2 k3 => ?_)
  show (if 3 = 3 then K .normal a2 W else K (.exit 3) a2 W)
  rw [if_pos rfl]
  exact hK.out a2 W v k1 k2 (by rw [hil, List.take_length] at hR; exact hR) hB k3
 ·have hlt : i < n 8 := by omega
  obtain ⟨ad, r, hA, hr, hc⟩ := rd_row (fs := pairF) hrd hn.symm hlt
  have hA := aK hA
  have hmem : r ∈ rows := List.mem_of_getElem? hr
  have hcell : ∀ W, Below w1.heap.size w1 W → ∀ j v, r[j]? = some v → W.cell? ((ad.add (i * 5)).add j) = some v := fun W hW j v hj => by
   obtain ⟨ad', r', hA', hr', hc'⟩ := rd_row (fs := pairF) (hrd.below (by omega) (fun r hr => fits_length (hfit r hr)) hW) hn.symm hlt
   rw [hA.out] at hA'
   rw [hr] at hr'
   cases hA'
   cases hr'
   rw [Addr.add_add]
   exact hc' j v hj
  obtain ⟨e0, e1, e2, e3, e4, rfl⟩ := pair_vals (hfit r hmem)
  have hlen' : (l0 ++ (rows.take i).flatMap (itR pairF)).length ≤ 1000 := by
   have := rows_len pairF 7 (by decide) (rows.take i)
   simp only [List.length_append, List.length_take] at this ⊢
   omega
  refine id_pair w1 W g f' x s p A n c _ (l0 ++ (rows.take i).flatMap (itR pairF)) v kd i ad e0 e1 e2 e3 e4 HX0 f3 f37 fsi (aK hR) (aK hB) (aK hlen') (fun c a d v w h => hP c a d v w h) hlt (by omega) hA (aK hcell) (aK (fun a2 W2 vo' k1 k2 k3 k4 k5 k6 => ⟨⟨k1, k4, k5, i + 1, by omega, k6, vo', k2, ?_⟩, ?_⟩))
  ·have e2 : l0 ++ (rows.take (i + 1)).flatMap (itR pairF) = (l0 ++ (rows.take i).flatMap (itR pairF)) ++ [iS (e0)] ++ [iN e1, iN e2, iF e3, iS e4] := by
    rw [List.take_add_one, hr, List.flatMap_append]
    simp [itR, itF, pairF, List.append_assoc]
   rw [e2]
   exact k3
  ·show rows.length - ctr (a2.tmps[6]?) < rows.length - ctr ((ifr g f').tmps[6]?)
   rw [k6, hsi]
   show rows.length - (((i + 1 : Nat) : Int)).toNat < rows.length - ((i : Nat) : Int).toNat
   omega
theorem lpI_seen (w1 wc : World) (g : Nat) (f : Nat → Value) (x : Nat → Int) (s : Nat → ByteArray) (p : Nat → Bool) (A : Nat → Option Addr) (n c : Nat → Nat) (K : Exit → Act → World → Prop) (l0 : List It) (vo kd : Value) (HX0 : Aside0 (w1.heap[g]? = some (.cells (cX x s p (fun j => .slice (A j) (n j) (c j))) 32 (0, 0)))) (h3 : f 3 = vo) (h37 : f 37 = kd) (hs0 : f 7 = .int .i64 ((0 : Nat) : Int)) (HO : Aside0 (RI wc w1.heap.size vo l0)) (HB : Aside0 (Below w1.heap.size w1 wc)) (HL : l0.length ≤ 100) (hP : ∀ c a d v w, K (.panic c) (a.put d v) w → K (.panic c) a w)
  (rows : List (List Value)) (hn : n 9 = rows.length) (hrd : ListRd w1 (.slice (A 9) (n 9) (c 9)) 4 rows) (hfit : ∀ r, r ∈ rows → fits seenF r) (hlen : rows.length ≤ 64)
  (hK : Aside0 (KI K g w1 kd (l0 ++ rows.flatMap (itR seenF)))) : Code.wp Try.prog (cr (cr (cr (cr (cr ic19))))) K (ifr g f) wc := by
 refine wp_block (id := 5) (c := cl (cr (cr (cr (cr (cr ic19)))))) ?_
 refine wp_loop (c := cl (cl (cr (cr (cr (cr (cr ic19))))))) (fun a W => RFr 313 g a ∧ Below w1.heap.size w1 W ∧ a.tmps[37]? = some kd ∧ ∃ i : Nat, i ≤ rows.length ∧ a.tmps[7]? = some (.int .i64 (i : Int)) ∧ ∃ v, a.tmps[3]? = some v ∧ RI W w1.heap.size v (l0 ++ (rows.take i).flatMap (itR seenF))) (fun a _ => rows.length - ctr (a.tmps[7]?))
  ⟨⟨rfl, rfl, rfl⟩, HB.out, (show some (f 37) = some kd by rw [h37]), 0, by omega, (show some (f 7) = _ by rw [hs0]), vo, (show some (f 3) = some vo by rw [h3]), by simpa using HO.out⟩ ?_
 rintro a W ⟨hF, hB, h37', i, hi, hsi, v, h3', hR⟩
 have e := hF.openI
 have gf : ∀ k u, a.tmps[k]? = some u → (fun i => a.tmps.getD i undef) k = u := fun k u hk => by
  show a.tmps.getD k undef = u
  rw [Array.getD_eq_getD_getElem?, hk]
  rfl
 have f3 := gf 3 _ h3'
 have f37 := gf 37 _ h37'
 have fsi := gf 7 _ hsi
 clear gf
 generalize (fun i => a.tmps.getD i undef) = f' at e f3 f37 fsi
 subst e
 by_cases hil : i = rows.length
 ·refine ie_seen w1 W g f' x s p A n c _ i HX0 fsi (aK hB) v kd f3 f37 (by rw [hn, hil]; simp) (fun a2 k1 k2 k3 => ?_)
  show (if 5 = 5 then K .normal a2 W else K (.exit 5) a2 W)
  rw [if_pos rfl]
  exact hK.out a2 W v k1 k2 (by rw [hil, List.take_length] at hR; exact hR) hB k3
 ·have hlt : i < n 9 := by omega
  obtain ⟨ad, r, hA, hr, hc⟩ := rd_row (fs := seenF) hrd hn.symm hlt
  have hA := aK hA
  have hmem : r ∈ rows := List.mem_of_getElem? hr
  have hcell : ∀ W, Below w1.heap.size w1 W → ∀ j v, r[j]? = some v → W.cell? ((ad.add (i * 4)).add j) = some v := fun W hW j v hj => by
   obtain ⟨ad', r', hA', hr', hc'⟩ := rd_row (fs := seenF) (hrd.below (by omega) (fun r hr => fits_length (hfit r hr)) hW) hn.symm hlt
   rw [hA.out] at hA'
   rw [hr] at hr'
   cases hA'
   cases hr'
   rw [Addr.add_add]
   exact hc' j v hj
  obtain ⟨e0, e1, e2, e3, rfl⟩ := seen_vals (hfit r hmem)
  have hlen' : (l0 ++ (rows.take i).flatMap (itR seenF)).length ≤ 1000 := by
   have := rows_len seenF 7 (by decide) (rows.take i)
   simp only [List.length_append, List.length_take] at this ⊢
   omega
  refine id_seen w1 W g f' x s p A n c _ (l0 ++ (rows.take i).flatMap (itR seenF)) v kd i ad e0 e1 e2 e3 HX0 f3 f37 fsi (aK hR) (aK hB) (aK hlen') (fun c a d v w h => hP c a d v w h) hlt (by omega) hA (aK hcell) (aK (fun a2 W2 vo' k1 k2 k3 k4 k5 k6 => ⟨⟨k1, k4, k5, i + 1, by omega, k6, vo', k2, ?_⟩, ?_⟩))
  ·have e2 : l0 ++ (rows.take (i + 1)).flatMap (itR seenF) = (l0 ++ (rows.take i).flatMap (itR seenF)) ++ [iN e0, iN e1] ++ [iN e2, iN e3] := by
    rw [List.take_add_one, hr, List.flatMap_append]
    simp [itR, itF, seenF, List.append_assoc]
   rw [e2]
   exact k3
  ·show rows.length - ctr (a2.tmps[7]?) < rows.length - ctr ((ifr g f').tmps[7]?)
   rw [k6, hsi]
   show rows.length - (((i + 1 : Nat) : Int)).toNat < rows.length - ((i : Nat) : Int).toNat
   omega
theorem lpI_epoch (w1 wc : World) (g : Nat) (f : Nat → Value) (x : Nat → Int) (s : Nat → ByteArray) (p : Nat → Bool) (A : Nat → Option Addr) (n c : Nat → Nat) (K : Exit → Act → World → Prop) (l0 : List It) (vo kd : Value) (HX0 : Aside0 (w1.heap[g]? = some (.cells (cX x s p (fun j => .slice (A j) (n j) (c j))) 32 (0, 0)))) (h3 : f 3 = vo) (h37 : f 37 = kd) (hs0 : f 8 = .int .i64 ((0 : Nat) : Int)) (HO : Aside0 (RI wc w1.heap.size vo l0)) (HB : Aside0 (Below w1.heap.size w1 wc)) (HL : l0.length ≤ 100) (hP : ∀ c a d v w, K (.panic c) (a.put d v) w → K (.panic c) a w)
  (rows : List (List Value)) (hn : n 10 = rows.length) (hrd : ListRd w1 (.slice (A 10) (n 10) (c 10)) 3 rows) (hfit : ∀ r, r ∈ rows → fits epochF r) (hlen : rows.length ≤ 64)
  (hK : Aside0 (KI K g w1 kd (l0 ++ rows.flatMap (itR epochF)))) : Code.wp Try.prog (cr (cr ic33)) K (ifr g f) wc := by
 refine wp_block (id := 7) (c := cl (cr (cr ic33))) ?_
 refine wp_loop (c := cl (cl (cr (cr ic33)))) (fun a W => RFr 313 g a ∧ Below w1.heap.size w1 W ∧ a.tmps[37]? = some kd ∧ ∃ i : Nat, i ≤ rows.length ∧ a.tmps[8]? = some (.int .i64 (i : Int)) ∧ ∃ v, a.tmps[3]? = some v ∧ RI W w1.heap.size v (l0 ++ (rows.take i).flatMap (itR epochF))) (fun a _ => rows.length - ctr (a.tmps[8]?))
  ⟨⟨rfl, rfl, rfl⟩, HB.out, (show some (f 37) = some kd by rw [h37]), 0, by omega, (show some (f 8) = _ by rw [hs0]), vo, (show some (f 3) = some vo by rw [h3]), by simpa using HO.out⟩ ?_
 rintro a W ⟨hF, hB, h37', i, hi, hsi, v, h3', hR⟩
 have e := hF.openI
 have gf : ∀ k u, a.tmps[k]? = some u → (fun i => a.tmps.getD i undef) k = u := fun k u hk => by
  show a.tmps.getD k undef = u
  rw [Array.getD_eq_getD_getElem?, hk]
  rfl
 have f3 := gf 3 _ h3'
 have f37 := gf 37 _ h37'
 have fsi := gf 8 _ hsi
 clear gf
 generalize (fun i => a.tmps.getD i undef) = f' at e f3 f37 fsi
 subst e
 by_cases hil : i = rows.length
 ·refine ie_epoch w1 W g f' x s p A n c _ i HX0 fsi (aK hB) v kd f3 f37 (by rw [hn, hil]; simp) (fun a2 k1 k2 k3 => ?_)
  show (if 7 = 7 then K .normal a2 W else K (.exit 7) a2 W)
  rw [if_pos rfl]
  exact hK.out a2 W v k1 k2 (by rw [hil, List.take_length] at hR; exact hR) hB k3
 ·have hlt : i < n 10 := by omega
  obtain ⟨ad, r, hA, hr, hc⟩ := rd_row (fs := epochF) hrd hn.symm hlt
  have hA := aK hA
  have hmem : r ∈ rows := List.mem_of_getElem? hr
  have hcell : ∀ W, Below w1.heap.size w1 W → ∀ j v, r[j]? = some v → W.cell? ((ad.add (i * 3)).add j) = some v := fun W hW j v hj => by
   obtain ⟨ad', r', hA', hr', hc'⟩ := rd_row (fs := epochF) (hrd.below (by omega) (fun r hr => fits_length (hfit r hr)) hW) hn.symm hlt
   rw [hA.out] at hA'
   rw [hr] at hr'
   cases hA'
   cases hr'
   rw [Addr.add_add]
   exact hc' j v hj
  obtain ⟨e0, e1, e2, rfl⟩ := epoch_vals (hfit r hmem)
  have hlen' : (l0 ++ (rows.take i).flatMap (itR epochF)).length ≤ 1000 := by
   have := rows_len epochF 7 (by decide) (rows.take i)
   simp only [List.length_append, List.length_take] at this ⊢
   omega
  refine id_epoch w1 W g f' x s p A n c _ (l0 ++ (rows.take i).flatMap (itR epochF)) v kd i ad e0 e1 e2 HX0 f3 f37 fsi (aK hR) (aK hB) (aK hlen') (fun c a d v w h => hP c a d v w h) hlt (by omega) hA (aK hcell) (aK (fun a2 W2 vo' k1 k2 k3 k4 k5 k6 => ⟨⟨k1, k4, k5, i + 1, by omega, k6, vo', k2, ?_⟩, ?_⟩))
  ·have e2 : l0 ++ (rows.take (i + 1)).flatMap (itR epochF) = (l0 ++ (rows.take i).flatMap (itR epochF)) ++ [iN e0, iN e1] ++ [iF (e2)] := by
    rw [List.take_add_one, hr, List.flatMap_append]
    simp [itR, itF, epochF, List.append_assoc]
   rw [e2]
   exact k3
  ·show rows.length - ctr (a2.tmps[8]?) < rows.length - ctr ((ifr g f').tmps[8]?)
   rw [k6, hsi]
   show rows.length - (((i + 1 : Nat) : Int)).toNat < rows.length - ((i : Nat) : Int).toNat
   omega
def Six (x : Nat → Int) (s : Nat → ByteArray) (p : Nat → Bool) (A : Nat → Option Addr) (n c : Nat → Nat) (l0 its : List It) (w : World) : Prop := ∀ (w1 wc : World) (g : Nat) (f : Nat → Value) (K : Exit → Act → World → Prop) (vo : Value), Below w.heap.size w w1 → Aside0 (w1.heap[g]? = some (.cells (cX x s p (fun j => .slice (A j) (n j) (c j))) 32 (0, 0))) → f 3 = vo → Aside0 (RI wc w1.heap.size vo l0) → Aside0 (Below w1.heap.size w1 wc) →
 (∀ c a d v w, K (.panic c) (a.put d v) w → K (.panic c) a w) → (∀ a W vo', RFr 313 g a → a.tmps[3]? = some vo' → RI W w1.heap.size vo' its → Below w1.heap.size w1 W → K .normal a W) → Code.wp Try.prog (cl ib6) K (ifr g f) wc
theorem fin_ret_I {g : Nat} {a : Act} {w' : World} {post : Ending → World → Prop} (hF : RFr 313 g a) {v : Value} (h2 : a.tmps[2]? = some v) (hp : post (.returned v) w') : bodyPost Try.prog Try.f23 post .ret a w' := by
 refine bodyPost_ret (results_tmp (t := 2) rfl a.tmps _ w') hF.2.2 ?_
 rw [Array.getD_eq_getD_getElem?, h2]
 exact hp
theorem items_a (w : World) (x : Nat → Int) (s : Nat → ByteArray) (p : Nat → Bool) (A : Nat → Option Addr) (n c : Nat → Nat) (its : List It) (h4 : (x 0 != 4) = true) (h6 : (x 0 != 6) = true) (h : Six x s p A n c ([iN (x 0)] ++ [iN (x 1)] ++ [iN (x 2)]) its w) : Calls Try.prog 23 #[.agg (cX x s p (fun j => .slice (A j) (n j) (c j)))] w (GivesI its w) := by
 refine calls_of_wp (c := ib0) Try.func23 rfl ?_
 refine wp_seq (x := cl ib0) (y := ib1) (ir0_c w _ _ (fun g a1 w1 hX1 hF1 hB1 => ?_))
 show ib1.wp Try.prog _ a1 w1
 have fin : ∀ a W vo, RFr 313 g a → a.tmps[2]? = some vo → RI W w1.heap.size vo its → Below w1.heap.size w1 W → bodyPost Try.prog Try.f23 (GivesI its w) .ret a W := fun a W vo k1 k2 k3 k4 => fin_ret_I k1 k2 ⟨vo, rfl, k3.low hB1.size, hB1.trans (k4.mono hB1.size)⟩
 have hP : ∀ c a d v w', bodyPost Try.prog Try.f23 (GivesI its w) (.panic c) (a.put d v) w' → bodyPost Try.prog Try.f23 (GivesI its w) (.panic c) a w' := fun c a d v w' k => by cases d <;> exact k
 generalize bodyPost Try.prog Try.f23 (GivesI its w) = Q at fin hP ⊢
 have HX0 := aK hX1
 refine hF1.wpI (fun f _ => wp_seq (x := cl ib1) (y := ib2) (ir1_c w1 g f x s p A n c _ HX0 (aK (fun a W vo k1 k2 k3 k4 => ?_))))
 refine k1.wpI (fun f hf => wp_seq (x := cl ib2) (y := ib4) (is2_y w1 W g f x s p A n c _ [iN (x 0)] vo (f 37) HX0 (hf 3 _ k2) rfl (aK k3) (aK k4) (aK (by simp)) h4 h6 (aK (fun a W vo k1 k2 k3 k4 _ => ?_))))
 refine k1.wpI (fun f hf => wp_seq (x := cl ib4) (y := ib6) (is4_y w1 W g f x s p A n c _ ([iN (x 0)] ++ [iN (x 1)]) vo (f 37) HX0 (hf 3 _ k2) rfl (aK k3) (aK k4) (aK (by simp)) h4 (aK (fun a W vo k1 k2 k3 k4 _ => ?_))))
 refine k1.wpI (fun f hf => wp_seq (x := cl ib6) (y := ib58) (h w1 W g f _ vo hB1 HX0 (hf 3 _ k2) (aK k3) (aK k4) (fun c a d v w h => hP c a d v w h) (fun a W vo k1 k2 k3 k4 => ?_)))
 exact k1.wpI (fun f hf => ir58_c W g f Q vo (hf 3 _ k2) (aK (fun a2 j1 j2 => fin a2 W vo j1 j2 k3 k4)))
theorem items_b (w : World) (x : Nat → Int) (s : Nat → ByteArray) (p : Nat → Bool) (A : Nat → Option Addr) (n c : Nat → Nat) (its : List It) (h4 : (x 0 != 4) = false) (h : Six x s p A n c ([iN (x 0)]) its w) : Calls Try.prog 23 #[.agg (cX x s p (fun j => .slice (A j) (n j) (c j)))] w (GivesI its w) := by
 refine calls_of_wp (c := ib0) Try.func23 rfl ?_
 refine wp_seq (x := cl ib0) (y := ib1) (ir0_c w _ _ (fun g a1 w1 hX1 hF1 hB1 => ?_))
 show ib1.wp Try.prog _ a1 w1
 have fin : ∀ a W vo, RFr 313 g a → a.tmps[2]? = some vo → RI W w1.heap.size vo its → Below w1.heap.size w1 W → bodyPost Try.prog Try.f23 (GivesI its w) .ret a W := fun a W vo k1 k2 k3 k4 => fin_ret_I k1 k2 ⟨vo, rfl, k3.low hB1.size, hB1.trans (k4.mono hB1.size)⟩
 have hP : ∀ c a d v w', bodyPost Try.prog Try.f23 (GivesI its w) (.panic c) (a.put d v) w' → bodyPost Try.prog Try.f23 (GivesI its w) (.panic c) a w' := fun c a d v w' k => by cases d <;> exact k
 generalize bodyPost Try.prog Try.f23 (GivesI its w) = Q at fin hP ⊢
 have HX0 := aK hX1
 refine hF1.wpI (fun f _ => wp_seq (x := cl ib1) (y := ib2) (ir1_c w1 g f x s p A n c _ HX0 (aK (fun a W vo k1 k2 k3 k4 => ?_))))
 refine k1.wpI (fun f hf => wp_seq (x := cl ib2) (y := ib4) (is2_n4 w1 W g f x s p A n c _ [iN (x 0)] vo (f 37) HX0 (hf 3 _ k2) rfl (aK k3) (aK k4) (aK (by simp)) h4 (aK (fun a W vo k1 k2 k3 k4 _ => ?_))))
 refine k1.wpI (fun f hf => wp_seq (x := cl ib4) (y := ib6) (is4_n w1 W g f x s p A n c _ ([iN (x 0)]) vo (f 37) HX0 (hf 3 _ k2) rfl (aK k3) (aK k4) (aK (by simp)) h4 (aK (fun a W vo k1 k2 k3 k4 _ => ?_))))
 refine k1.wpI (fun f hf => wp_seq (x := cl ib6) (y := ib58) (h w1 W g f _ vo hB1 HX0 (hf 3 _ k2) (aK k3) (aK k4) (fun c a d v w h => hP c a d v w h) (fun a W vo k1 k2 k3 k4 => ?_)))
 exact k1.wpI (fun f hf => ir58_c W g f Q vo (hf 3 _ k2) (aK (fun a2 j1 j2 => fin a2 W vo j1 j2 k3 k4)))
theorem items_c_ (w : World) (x : Nat → Int) (s : Nat → ByteArray) (p : Nat → Bool) (A : Nat → Option Addr) (n c : Nat → Nat) (its : List It) (h4 : (x 0 != 4) = true) (h6 : (x 0 != 6) = false) (h : Six x s p A n c ([iN (x 0)] ++ [iN (x 2)]) its w) : Calls Try.prog 23 #[.agg (cX x s p (fun j => .slice (A j) (n j) (c j)))] w (GivesI its w) := by
 refine calls_of_wp (c := ib0) Try.func23 rfl ?_
 refine wp_seq (x := cl ib0) (y := ib1) (ir0_c w _ _ (fun g a1 w1 hX1 hF1 hB1 => ?_))
 show ib1.wp Try.prog _ a1 w1
 have fin : ∀ a W vo, RFr 313 g a → a.tmps[2]? = some vo → RI W w1.heap.size vo its → Below w1.heap.size w1 W → bodyPost Try.prog Try.f23 (GivesI its w) .ret a W := fun a W vo k1 k2 k3 k4 => fin_ret_I k1 k2 ⟨vo, rfl, k3.low hB1.size, hB1.trans (k4.mono hB1.size)⟩
 have hP : ∀ c a d v w', bodyPost Try.prog Try.f23 (GivesI its w) (.panic c) (a.put d v) w' → bodyPost Try.prog Try.f23 (GivesI its w) (.panic c) a w' := fun c a d v w' k => by cases d <;> exact k
 generalize bodyPost Try.prog Try.f23 (GivesI its w) = Q at fin hP ⊢
 have HX0 := aK hX1
 refine hF1.wpI (fun f _ => wp_seq (x := cl ib1) (y := ib2) (ir1_c w1 g f x s p A n c _ HX0 (aK (fun a W vo k1 k2 k3 k4 => ?_))))
 refine k1.wpI (fun f hf => wp_seq (x := cl ib2) (y := ib4) (is2_n6 w1 W g f x s p A n c _ [iN (x 0)] vo (f 37) HX0 (hf 3 _ k2) rfl (aK k3) (aK k4) (aK (by simp)) h4 h6 (aK (fun a W vo k1 k2 k3 k4 _ => ?_))))
 refine k1.wpI (fun f hf => wp_seq (x := cl ib4) (y := ib6) (is4_y w1 W g f x s p A n c _ ([iN (x 0)]) vo (f 37) HX0 (hf 3 _ k2) rfl (aK k3) (aK k4) (aK (by simp)) h4 (aK (fun a W vo k1 k2 k3 k4 _ => ?_))))
 refine k1.wpI (fun f hf => wp_seq (x := cl ib6) (y := ib58) (h w1 W g f _ vo hB1 HX0 (hf 3 _ k2) (aK k3) (aK k4) (fun c a d v w h => hP c a d v w h) (fun a W vo k1 k2 k3 k4 => ?_)))
 exact k1.wpI (fun f hf => ir58_c W g f Q vo (hf 3 _ k2) (aK (fun a2 j1 j2 => fin a2 W vo j1 j2 k3 k4)))
theorem six_2 (w : World) (x : Nat → Int) (s : Nat → ByteArray) (p : Nat → Bool) (A : Nat → Option Addr) (n c : Nat → Nat) (hx : x 0 = 2) : Six x s p A n c ([iN (x 0)] ++ [iN (x 1)] ++ [iN (x 2)]) (([iN (x 0)] ++ [iN (x 1)] ++ [iN (x 2)]) ++ [iN (x 11), iN (x 12)]) w := fun w1 wc g f K vo hB1 HX0 h3 HO HB hP hK =>
 it_2 w1 wc g f x s p A n c K _ vo (f 37) HX0 h3 rfl HO HB (aK (by simp)) (by rw [hx]; rfl) (by rw [hx]; rfl) (by rw [hx]; rfl) (by rw [hx]; rfl) (by rw [hx]; rfl) (by rw [hx]; rfl) (by rw [hx]; rfl) (by rw [hx]; rfl) (by rw [hx]; rfl)  (aK (fun a W vo k1 k2 k3 k4 _ => hK a W vo k1 k2 k3 k4))
theorem six_5 (w : World) (x : Nat → Int) (s : Nat → ByteArray) (p : Nat → Bool) (A : Nat → Option Addr) (n c : Nat → Nat) (hx : x 0 = 5) : Six x s p A n c ([iN (x 0)] ++ [iN (x 1)] ++ [iN (x 2)]) (([iN (x 0)] ++ [iN (x 1)] ++ [iN (x 2)]) ++ [iN (x 11), iN (x 12)] ++ [iF (p 13)]) w := fun w1 wc g f K vo hB1 HX0 h3 HO HB hP hK =>
 it_5 w1 wc g f x s p A n c K _ vo (f 37) HX0 h3 rfl HO HB (aK (by simp)) (by rw [hx]; rfl) (by rw [hx]; rfl) (by rw [hx]; rfl) (by rw [hx]; rfl) (by rw [hx]; rfl) (by rw [hx]; rfl) (by rw [hx]; rfl) (by rw [hx]; rfl) (by rw [hx]; rfl)  (aK (fun a W vo k1 k2 k3 k4 _ => hK a W vo k1 k2 k3 k4))
theorem six_6 (w : World) (x : Nat → Int) (s : Nat → ByteArray) (p : Nat → Bool) (A : Nat → Option Addr) (n c : Nat → Nat) (hx : x 0 = 6) : Six x s p A n c ([iN (x 0)] ++ [iN (x 2)]) (([iN (x 0)] ++ [iN (x 2)])) w := fun w1 wc g f K vo hB1 HX0 h3 HO HB hP hK =>
 it_6 w1 wc g f x s p A n c K _ vo (f 37) HX0 h3 rfl HO HB (aK (by simp)) (by rw [hx]; rfl) (by rw [hx]; rfl) (by rw [hx]; rfl) (by rw [hx]; rfl) (by rw [hx]; rfl) (by rw [hx]; rfl) (by rw [hx]; rfl) (by rw [hx]; rfl) (by rw [hx]; rfl)  (aK (fun a W vo k1 k2 k3 k4 _ => hK a W vo k1 k2 k3 k4))
theorem six_7 (w : World) (x : Nat → Int) (s : Nat → ByteArray) (p : Nat → Bool) (A : Nat → Option Addr) (n c : Nat → Nat) (hx : x 0 = 7) : Six x s p A n c ([iN (x 0)] ++ [iN (x 1)] ++ [iN (x 2)]) (([iN (x 0)] ++ [iN (x 1)] ++ [iN (x 2)]) ++ [iN (x 14), iN (x 15)] ++ [iS (s 16)] ++ [iN (x 19), iN (x 20)]) w := fun w1 wc g f K vo hB1 HX0 h3 HO HB hP hK =>
 it_7 w1 wc g f x s p A n c K _ vo (f 37) HX0 h3 rfl HO HB (aK (by simp)) (by rw [hx]; rfl) (by rw [hx]; rfl) (by rw [hx]; rfl) (by rw [hx]; rfl) (by rw [hx]; rfl) (by rw [hx]; rfl) (by rw [hx]; rfl) (by rw [hx]; rfl) (by rw [hx]; rfl)  (aK (fun a W vo k1 k2 k3 k4 _ => hK a W vo k1 k2 k3 k4))
theorem six_9 (w : World) (x : Nat → Int) (s : Nat → ByteArray) (p : Nat → Bool) (A : Nat → Option Addr) (n c : Nat → Nat) (hx : x 0 = 9) : Six x s p A n c ([iN (x 0)] ++ [iN (x 1)] ++ [iN (x 2)]) (([iN (x 0)] ++ [iN (x 1)] ++ [iN (x 2)]) ++ [iN (x 14), iN (x 15), iN (x 21)] ++ [iN (x 22), iN (x 23), iF (p 24), iS (s 25)] ++ [iN (x 11), iN (x 12)] ++ [iN (x 19), iN (x 20)]) w := fun w1 wc g f K vo hB1 HX0 h3 HO HB hP hK =>
 it_9 w1 wc g f x s p A n c K _ vo (f 37) HX0 h3 rfl HO HB (aK (by simp)) (by rw [hx]; rfl) (by rw [hx]; rfl) (by rw [hx]; rfl) (by rw [hx]; rfl) (by rw [hx]; rfl) (by rw [hx]; rfl) (by rw [hx]; rfl) (by rw [hx]; rfl) (by rw [hx]; rfl)  (aK (fun a W vo k1 k2 k3 k4 _ => hK a W vo k1 k2 k3 k4))
theorem six_10 (w : World) (x : Nat → Int) (s : Nat → ByteArray) (p : Nat → Bool) (A : Nat → Option Addr) (n c : Nat → Nat) (hx : x 0 = 10) : Six x s p A n c ([iN (x 0)] ++ [iN (x 1)] ++ [iN (x 2)]) (([iN (x 0)] ++ [iN (x 1)] ++ [iN (x 2)]) ++ [iN (x 14), iN (x 15), iN (x 21)] ++ [iN (x 4), iN (x 5)] ++ [iN (x 19), iN (x 20)]) w := fun w1 wc g f K vo hB1 HX0 h3 HO HB hP hK =>
 it_10 w1 wc g f x s p A n c K _ vo (f 37) HX0 h3 rfl HO HB (aK (by simp)) (by rw [hx]; rfl) (by rw [hx]; rfl) (by rw [hx]; rfl) (by rw [hx]; rfl) (by rw [hx]; rfl) (by rw [hx]; rfl) (by rw [hx]; rfl) (by rw [hx]; rfl) (by rw [hx]; rfl)  (aK (fun a W vo k1 k2 k3 k4 _ => hK a W vo k1 k2 k3 k4))
theorem six_8 (w : World) (x : Nat → Int) (s : Nat → ByteArray) (p : Nat → Bool) (A : Nat → Option Addr) (n c : Nat → Nat) (hx : x 0 = 8) : Six x s p A n c ([iN (x 0)] ++ [iN (x 1)] ++ [iN (x 2)]) (([iN (x 0)] ++ [iN (x 1)] ++ [iN (x 2)]) ++ [iN (x 14), iN (x 15)] ++ [iS (s 16)] ++ [iF (p 17), iS (s 18)] ++ [iN (x 19), iN (x 20)]) w := fun w1 wc g f K vo hB1 HX0 h3 HO HB hP hK =>
 it_8 w1 wc g f x s p A n c K _ vo (f 37) HX0 h3 rfl HO HB (aK (by simp)) (by rw [hx]; rfl) (by rw [hx]; rfl) (by rw [hx]; rfl) (by rw [hx]; rfl) (by rw [hx]; rfl) (by rw [hx]; rfl) (by rw [hx]; rfl) (by rw [hx]; rfl) (by rw [hx]; rfl) hP  (aK (fun a W vo k1 k2 k3 k4 _ => hK a W vo k1 k2 k3 k4))
theorem ev_tmp {a : Act} {k : Nat} {v : Value} (h : a.tmps[k]? = some v) : a.eval (.tmp k) = v := by
 show a.tmps.getD k undef = v
 rw [Array.getD_eq_getD_getElem?, h]
 rfl
theorem six_1 (w : World) (x : Nat → Int) (s : Nat → ByteArray) (p : Nat → Bool) (A : Nat → Option Addr) (n c : Nat → Nat) (hx : x 0 = 1) (R3 : List (List Value)) (hn3 : n 3 = R3.length) (hr3 : ListRd w (.slice (A 3) (n 3) (c 3)) 7 R3) (hf3 : ∀ r, r ∈ R3 → fits entryF r) (hl3 : R3.length ≤ 8) : Six x s p A n c ([iN (x 0)] ++ [iN (x 1)] ++ [iN (x 2)]) (([iN (x 0)] ++ [iN (x 1)] ++ [iN (x 2)]) ++ [iN ((n 3 : Nat) : Int)] ++ R3.flatMap (itR entryF)) w := by
 intro w1 wc g f K vo hB1 HX0 h3 HO HB hP hK
 refine wp_seq (x := cl (cl ib6)) (y := cr (cl ib6)) (ir6_c w1 wc g f x s p A n c _ vo (f 37) HX0 h3 rfl HB (aK (fun a j1 j2 j3 => ?_)))
 refine wp_block (id := 0) (c := ic7) ?_
 refine j1.wpI (fun f hf => wp_seq (x := cl ic7) (y := cr ic7) (ir7_c w1 wc g f x s p A n c _ vo _ HX0 (hf 3 _ j2) (hf 37 _ j3) HB rfl true (by rw [hx]; rfl) (aK (fun a j1 j2 j3 j4 => ?_))))
 refine wp_cond_true (c := .tmp 38) (x := ic8) (y := ic16) (ev_tmp j4) ?_
 have HLa : Aside0 (([] : List It).length ≤ 50) := aK (by simp)
 refine j1.wpI (fun f hf => wp_seq (x := cl ic8) (y := cr ic8) (ip_8 w1 _ g f x s p A n c _ ([iN (x 0)] ++ [iN (x 1)] ++ [iN (x 2)]) _ _ HX0 (hf 3 _ j2) (hf 37 _ j3) HO HB (aK (by have := HLa.out; simp only [List.length_append, List.length_cons, List.length_nil] at this ⊢; omega)) (aK (fun a W vo j1 j2 j4 j5 j3 => ?_))))
 have HO := aK j4
 have HB := aK j5
 refine j1.wpI (fun f hf => wp_seq (x := cl (cr ic8)) (y := cr (cr ic8)) (iz_9 _ g f _ _ _ (hf 3 _ j2) (hf 37 _ j3) (aK (fun a j1 j2 j3 j4 => ?_))))
 exact j1.wpI (fun f hf => lpI_entry w1 _ g f x s p A n c _ (([iN (x 0)] ++ [iN (x 1)] ++ [iN (x 2)]) ++ [iN ((n 3 : Nat) : Int)]) _ _ HX0 (hf 3 _ j2) (hf 37 _ j3) (hf 4 _ j4) HO HB (by have := HLa.out; simp only [List.length_append, List.length_cons, List.length_nil] at this ⊢; omega) (fun c a d v w h => hP c a d v w h) R3 hn3 (hr3.below (by omega) (fun r hr => fits_length (hf3 r hr)) hB1) hf3 (by omega) (aK (fun a W vo k1 k2 k3 k4 _ => hK a W vo k1 k2 k3 k4)))
theorem six_4 (w : World) (x : Nat → Int) (s : Nat → ByteArray) (p : Nat → Bool) (A : Nat → Option Addr) (n c : Nat → Nat) (hx : x 0 = 4) (R10 : List (List Value)) (hn10 : n 10 = R10.length) (hr10 : ListRd w (.slice (A 10) (n 10) (c 10)) 3 R10) (hf10 : ∀ r, r ∈ R10 → fits epochF r) (hl10 : R10.length ≤ 64) : Six x s p A n c ([iN (x 0)]) (([iN (x 0)]) ++ [iN ((n 10 : Nat) : Int)] ++ R10.flatMap (itR epochF)) w := by
 intro w1 wc g f K vo hB1 HX0 h3 HO HB hP hK
 refine wp_seq (x := cl (cl ib6)) (y := cr (cl ib6)) (ir6_c w1 wc g f x s p A n c _ vo (f 37) HX0 h3 rfl HB (aK (fun a j1 j2 j3 => ?_)))
 refine wp_block (id := 0) (c := ic7) ?_
 refine j1.wpI (fun f hf => wp_seq (x := cl ic7) (y := cr ic7) (ir7_c w1 wc g f x s p A n c _ vo _ HX0 (hf 3 _ j2) (hf 37 _ j3) HB rfl false (by rw [hx]; rfl) (aK (fun a j1 j2 j3 j4 => ?_))))
 refine wp_cond_false (c := .tmp 38) (x := ic8) (y := ic16) (ev_tmp j4) ?_
 refine j1.wpI (fun f hf => wp_seq (x := cl ic16) (y := cr ic16) (ir16_c w1 wc g f x s p A n c _ vo _ HX0 (hf 3 _ j2) (hf 37 _ j3) HB rfl false (by rw [hx]; rfl) (aK (fun a j1 j2 j3 j4 => ?_))))
 refine wp_cond_false (c := .tmp 84) (x := (c1 (cr ic16))) (y := ic18) (ev_tmp j4) ?_
 refine j1.wpI (fun f hf => wp_seq (x := cl ic18) (y := cr ic18) (ir18_c w1 wc g f x s p A n c _ vo _ HX0 (hf 3 _ j2) (hf 37 _ j3) HB rfl false (by rw [hx]; rfl) (aK (fun a j1 j2 j3 j4 => ?_))))
 refine wp_cond_false (c := .tmp 91) (x := ic19) (y := ic32) (ev_tmp j4) ?_
 refine j1.wpI (fun f hf => wp_seq (x := cl ic32) (y := cr ic32) (ir32_c w1 wc g f x s p A n c _ vo _ HX0 (hf 3 _ j2) (hf 37 _ j3) HB rfl true (by rw [hx]; rfl) (aK (fun a j1 j2 j3 j4 => ?_))))
 refine wp_cond_true (c := .tmp 174) (x := ic33) (y := (c2 (cr ic32))) (ev_tmp j4) ?_
 have HLa : Aside0 (([] : List It).length ≤ 50) := aK (by simp)
 refine j1.wpI (fun f hf => wp_seq (x := cl ic33) (y := cr ic33) (ip_33 w1 _ g f x s p A n c _ ([iN (x 0)]) _ _ HX0 (hf 3 _ j2) (hf 37 _ j3) HO HB (aK (by have := HLa.out; simp only [List.length_append, List.length_cons, List.length_nil] at this ⊢; omega)) (aK (fun a W vo j1 j2 j4 j5 j3 => ?_))))
 have HO := aK j4
 have HB := aK j5
 refine j1.wpI (fun f hf => wp_seq (x := cl (cr ic33)) (y := cr (cr ic33)) (iz_34 _ g f _ _ _ (hf 3 _ j2) (hf 37 _ j3) (aK (fun a j1 j2 j3 j4 => ?_))))
 exact j1.wpI (fun f hf => lpI_epoch w1 _ g f x s p A n c _ (([iN (x 0)]) ++ [iN ((n 10 : Nat) : Int)]) _ _ HX0 (hf 3 _ j2) (hf 37 _ j3) (hf 8 _ j4) HO HB (by have := HLa.out; simp only [List.length_append, List.length_cons, List.length_nil] at this ⊢; omega) (fun c a d v w h => hP c a d v w h) R10 hn10 (hr10.below (by omega) (fun r hr => fits_length (hf10 r hr)) hB1) hf10 (by omega) (aK (fun a W vo k1 k2 k3 k4 _ => hK a W vo k1 k2 k3 k4)))
theorem six_3 (w : World) (x : Nat → Int) (s : Nat → ByteArray) (p : Nat → Bool) (A : Nat → Option Addr) (n c : Nat → Nat) (hx : x 0 = 3) (R8 : List (List Value)) (hn8 : n 8 = R8.length) (hr8 : ListRd w (.slice (A 8) (n 8) (c 8)) 5 R8) (hf8 : ∀ r, r ∈ R8 → fits pairF r) (hl8 : R8.length ≤ 8) (R9 : List (List Value)) (hn9 : n 9 = R9.length) (hr9 : ListRd w (.slice (A 9) (n 9) (c 9)) 4 R9) (hf9 : ∀ r, r ∈ R9 → fits seenF r) (hl9 : R9.length ≤ 8) : Six x s p A n c ([iN (x 0)] ++ [iN (x 1)] ++ [iN (x 2)]) ((([iN (x 0)] ++ [iN (x 1)] ++ [iN (x 2)]) ++ [iN (x 4), iN (x 5)] ++ [iN (x 6), iN (x 7), iN ((n 8 : Nat) : Int)]) ++ R8.flatMap (itR pairF) ++ [iN ((n 9 : Nat) : Int)] ++ R9.flatMap (itR seenF)) w := by
 intro w1 wc g f K vo hB1 HX0 h3 HO HB hP hK
 refine wp_seq (x := cl (cl ib6)) (y := cr (cl ib6)) (ir6_c w1 wc g f x s p A n c _ vo (f 37) HX0 h3 rfl HB (aK (fun a j1 j2 j3 => ?_)))
 refine wp_block (id := 0) (c := ic7) ?_
 refine j1.wpI (fun f hf => wp_seq (x := cl ic7) (y := cr ic7) (ir7_c w1 wc g f x s p A n c _ vo _ HX0 (hf 3 _ j2) (hf 37 _ j3) HB rfl false (by rw [hx]; rfl) (aK (fun a j1 j2 j3 j4 => ?_))))
 refine wp_cond_false (c := .tmp 38) (x := ic8) (y := ic16) (ev_tmp j4) ?_
 refine j1.wpI (fun f hf => wp_seq (x := cl ic16) (y := cr ic16) (ir16_c w1 wc g f x s p A n c _ vo _ HX0 (hf 3 _ j2) (hf 37 _ j3) HB rfl false (by rw [hx]; rfl) (aK (fun a j1 j2 j3 j4 => ?_))))
 refine wp_cond_false (c := .tmp 84) (x := (c1 (cr ic16))) (y := ic18) (ev_tmp j4) ?_
 refine j1.wpI (fun f hf => wp_seq (x := cl ic18) (y := cr ic18) (ir18_c w1 wc g f x s p A n c _ vo _ HX0 (hf 3 _ j2) (hf 37 _ j3) HB rfl true (by rw [hx]; rfl) (aK (fun a j1 j2 j3 j4 => ?_))))
 refine wp_cond_true (c := .tmp 91) (x := ic19) (y := ic32) (ev_tmp j4) ?_
 have HLa : Aside0 ((R8.flatMap (itR pairF)).length ≤ 40) := aK (by have := rows_len pairF 5 (by decide) R8; omega)
 refine j1.wpI (fun f hf => wp_seq (x := cl ic19) (y := cr ic19) (ip_19 w1 _ g f x s p A n c _ ([iN (x 0)] ++ [iN (x 1)] ++ [iN (x 2)]) _ _ HX0 (hf 3 _ j2) (hf 37 _ j3) HO HB (aK (by have := HLa.out; simp only [List.length_append, List.length_cons, List.length_nil] at this ⊢; omega)) (aK (fun a W vo j1 j2 j4 j5 j3 => ?_))))
 have HO := aK j4
 have HB := aK j5
 refine j1.wpI (fun f hf => wp_seq (x := cl (cr ic19)) (y := cr (cr ic19)) (ip_20 w1 _ g f x s p A n c _ (([iN (x 0)] ++ [iN (x 1)] ++ [iN (x 2)]) ++ [iN (x 4), iN (x 5)]) _ _ HX0 (hf 3 _ j2) (hf 37 _ j3) HO HB (aK (by have := HLa.out; simp only [List.length_append, List.length_cons, List.length_nil] at this ⊢; omega)) (aK (fun a W vo j1 j2 j4 j5 j3 => ?_))))
 have HO := aK j4
 have HB := aK j5
 refine j1.wpI (fun f hf => wp_seq (x := cl (cr (cr ic19))) (y := cr (cr (cr ic19))) (wp_seq (x := cl (cl (cr (cr ic19)))) (y := cr (cl (cr (cr ic19)))) (iz_21 _ g f _ _ _ (hf 3 _ j2) (hf 37 _ j3) (aK (fun a j1 j2 j3 j4 => ?_)))))
 refine j1.wpI (fun f hf => lpI_pair w1 _ g f x s p A n c _ (([iN (x 0)] ++ [iN (x 1)] ++ [iN (x 2)]) ++ [iN (x 4), iN (x 5)] ++ [iN (x 6), iN (x 7), iN ((n 8 : Nat) : Int)]) _ _ HX0 (hf 3 _ j2) (hf 37 _ j3) (hf 6 _ j4) HO HB (by have := HLa.out; simp only [List.length_append, List.length_cons, List.length_nil] at this ⊢; omega) (fun c a d v w h => hP c a d v w h) R8 hn8 (hr8.below (by omega) (fun r hr => fits_length (hf8 r hr)) hB1) hf8 (by omega) (aK (fun a W vo j1 j2 j4 j5 j3 => ?_)))
 have HO := aK j4
 have HB := aK j5
 refine j1.wpI (fun f hf => wp_seq (x := cl (cr (cr (cr ic19)))) (y := cr (cr (cr (cr ic19)))) (ip_26 w1 _ g f x s p A n c _ ((([iN (x 0)] ++ [iN (x 1)] ++ [iN (x 2)]) ++ [iN (x 4), iN (x 5)] ++ [iN (x 6), iN (x 7), iN ((n 8 : Nat) : Int)]) ++ R8.flatMap (itR pairF)) _ _ HX0 (hf 3 _ j2) (hf 37 _ j3) HO HB (aK (by have := HLa.out; simp only [List.length_append, List.length_cons, List.length_nil] at this ⊢; omega)) (aK (fun a W vo j1 j2 j4 j5 j3 => ?_))))
 have HO := aK j4
 have HB := aK j5
 refine j1.wpI (fun f hf => wp_seq (x := cl (cr (cr (cr (cr ic19))))) (y := cr (cr (cr (cr (cr ic19))))) (iz_27 _ g f _ _ _ (hf 3 _ j2) (hf 37 _ j3) (aK (fun a j1 j2 j3 j4 => ?_))))
 exact j1.wpI (fun f hf => lpI_seen w1 _ g f x s p A n c _ ((([iN (x 0)] ++ [iN (x 1)] ++ [iN (x 2)]) ++ [iN (x 4), iN (x 5)] ++ [iN (x 6), iN (x 7), iN ((n 8 : Nat) : Int)]) ++ R8.flatMap (itR pairF) ++ [iN ((n 9 : Nat) : Int)]) _ _ HX0 (hf 3 _ j2) (hf 37 _ j3) (hf 7 _ j4) HO HB (by have := HLa.out; simp only [List.length_append, List.length_cons, List.length_nil] at this ⊢; omega) (fun c a d v w h => hP c a d v w h) R9 hn9 (hr9.below (by omega) (fun r hr => fits_length (hf9 r hr)) hB1) hf9 (by omega) (aK (fun a W vo k1 k2 k3 k4 _ => hK a W vo k1 k2 k3 k4)))
end Go.Proofs.Ytcbehfbfaonanaa.Wr
end
section

namespace Go.Proofs.Ytcbehfbfaonanaa.Pk
open Go.RowKit Go.Proofs.YtcbehfbfaonanaaW.PrintWords Go.Proofs.YtcbehfbfaonanaaW.PrintLast Go.Proofs.YtcbehfbfaonanaaW.PrintMore Go.Proofs.Ytcbehfbfaonanaa.PRf
set_option linter.unusedVariables false
set_option linter.unusedSimpArgs false
def itemB (x : S98) : List Int := if x.f0 = 1 then [if x.f1 = 0 then 0 else 1] else if x.f0 = 2 then enc x.f2.size ++ bytesOf x.f2 else enc x.f1.toNat
def good (x : S98) : Prop := if x.f0 = 1 then True else if x.f0 = 2 then x.f2.size ≤ 9007199254740992 else 0 ≤ x.f1 ∧ x.f1 ≤ 9007199254740992
theorem wstep_good {x : S98} (h : good x) (acc : List Int) : wstep (acc, false) x = (acc ++ itemB x, false) := by
 obtain ⟨x0, x1, x2⟩ := x
 unfold wstep itemB
 unfold good at h
 simp only at h ⊢
 by_cases h1 : x0 = 1
 ·rw [if_pos h1, if_pos h1]
  unfold wflag
  by_cases hz : x1 = 0
  ·subst hz
   rw [if_neg (by decide), wnum_good (by decide) (by decide), show (0 : Int).toNat = 0 from rfl, enc_lt (by decide)]
   rfl
  ·rw [if_pos (by simpa using hz), if_neg hz, wnum_good (by decide) (by decide), show (1 : Int).toNat = 1 from rfl, enc_lt (by decide)]
   rfl
 ·rw [if_neg h1] at h
  rw [if_neg h1, if_neg h1]
  by_cases h2 : x0 = 2
  ·rw [if_pos h2] at h
   rw [if_pos h2, if_pos h2]
   unfold wtext
   rw [wnum_good (by omega) (by omega), Int.toNat_natCast, if_neg (by simp), List.append_assoc]
  ·rw [if_neg h2] at h
   rw [if_neg h2, if_neg h2, wnum_good h.1 h.2]
theorem fold_good {l : List S98} : ∀ acc : List Int, (∀ x ∈ l, good x) → l.foldl wstep (acc, false) = (acc ++ l.flatMap itemB, false) := by
 induction l with
 | nil => intro acc _; simp
 | cons x l ih =>
  intro acc h
  rw [List.foldl_cons, wstep_good (h x (by simp)), ih _ (fun y hy => h y (by simp [hy])), List.flatMap_cons, List.append_assoc]
theorem wall_all {l : List S98} (h : ∀ x ∈ l, good x) : wall l = (l.flatMap itemB, false) := by
 unfold wall
 rw [fold_good [] h]
 rfl
end Go.Proofs.Ytcbehfbfaonanaa.Pk
namespace Go.Proofs.Ytcbehfbfaonanaa.Wr
open Go.RowKit Go.Proofs.YtcbehfbfaonanaaW.PrintWords Go.Proofs.YtcbehfbfaonanaaW.PrintLast Go.Proofs.YtcbehfbfaonanaaW.PrintMore Go.Proofs.Ytcbehfbfaonanaa.Pk
def itStep (m : M) : Step → List It
 | .row i fs => itR fs (valsAt m.c i fs.length)
 | .most => itR [.num 0 0] (valsAt m.c 7 1)
 | .lst j fs _ => iN ((m.L j).length : Int) :: (m.L j).flatMap (itR fs)
def itemsM (m : M) : List It := (wholeS (kindM m)).flatMap (itStep m)
theorem itF_good {f : Fld} {v : Value} (h : InF f v) : good (itF f v) ∧ itemB (itF f v) = fldB f v := by
 cases f with
 | num lo hi =>
  cases v with
  | int k n => cases k <;> first | exact h.elim | (exact ⟨⟨h.2.2.1, h.2.2.2⟩, rfl⟩)
  | _ => exact h.elim
 | flag =>
  cases v with
  | bool b => cases b <;> exact ⟨trivial, rfl⟩
  | _ => exact h.elim
 | text most =>
  cases v with
  | string s => exact ⟨h.2, rfl⟩
  | _ => exact h.elim
theorem itR_good : ∀ {fs : List Fld} {vs : List Value}, InRow fs vs → (∀ x, x ∈ itR fs vs → good x) ∧ (itR fs vs).flatMap itemB = rowB fs vs
 | [], [], _ => ⟨(fun x hx => nomatch hx), rfl⟩
 | f :: fs, v :: vs, h => by
  obtain ⟨h1, h2⟩ := itF_good h.1
  obtain ⟨h3, h4⟩ := itR_good h.2
  refine ⟨fun x hx => ?_, ?_⟩
  ·rcases List.mem_cons.1 hx with rfl | hx
   ·exact h1
   ·exact h3 x hx
  ·show itemB (itF f v) ++ (itR fs vs).flatMap itemB = fldB f v ++ rowB fs vs
   rw [h2, h4]
theorem rows_good {fs : List Fld} : ∀ {rs : List (List Value)}, (∀ r, r ∈ rs → InRow fs r) → (∀ x, x ∈ rs.flatMap (itR fs) → good x) ∧ (rs.flatMap (itR fs)).flatMap itemB = rowsB fs rs
 | [], _ => ⟨(fun x hx => nomatch hx), rfl⟩
 | r :: rs, h => by
  obtain ⟨h1, h2⟩ := itR_good (h r (.head _))
  obtain ⟨h3, h4⟩ := rows_good (fs := fs) (rs := rs) (fun q hq => h q (.tail _ hq))
  refine ⟨fun x hx => ?_, ?_⟩
  ·rw [List.flatMap_cons] at hx
   rcases List.mem_append.1 hx with hx | hx
   ·exact h1 x hx
   ·exact h3 x hx
  ·rw [List.flatMap_cons, List.flatMap_append, h2, h4]
   rfl
theorem itStep_good {m : M} (hm : ∀ j, (m.L j).length ≤ 1048576) {t : Step} (h : InStep m t) : (∀ x, x ∈ itStep m t → good x) ∧ (itStep m t).flatMap itemB = stepB m t := by
 cases t with
 | row i fs => exact itR_good h
 | most =>
  have h := h
  simp only [InStep, valsAt, InRow] at h
  have h := h.1
  obtain ⟨n, hn⟩ : ∃ n, m.c 7 = .int .i64 n := by
   revert h
   cases m.c 7 with
   | int k n => cases k <;> first | (intro h; exact h.elim) | (intro _; exact ⟨n, rfl⟩)
   | _ => intro h; exact h.elim
  rw [hn] at h
  have h' : InRow [.num 0 9007199254740992] (valsAt m.c 7 1) := by
   simp only [valsAt, InRow, hn]
   exact ⟨⟨h.2.2.1, h.2.2.2, h.2.2.1, h.2.2.2⟩, trivial⟩
  obtain ⟨k1, k2⟩ := itR_good h'
  have e1 : itStep m .most = itR [.num 0 9007199254740992] (valsAt m.c 7 1) := by
   show itR [.num 0 0] (valsAt m.c 7 1) = _
   simp only [valsAt, hn]
   rfl
  have e2 : stepB m .most = rowB [.num 0 9007199254740992] (valsAt m.c 7 1) := by
   show rowB [.num (maxOf (m.c 6)) 128] (valsAt m.c 7 1) = _
   simp only [valsAt, hn]
   rfl
  rw [e1, e2]
  exact ⟨k1, k2⟩
 | lst j fs n =>
  obtain ⟨h1, h2⟩ := rows_good h.2
  have hl := hm j
  refine ⟨fun x hx => ?_, ?_⟩
  ·rcases List.mem_cons.1 hx with rfl | hx
   ·show (0 : Int) ≤ ((m.L j).length : Int) ∧ ((m.L j).length : Int) ≤ 9007199254740992
    omega
   ·exact h1 x hx
  ·show itemB (iN ((m.L j).length : Int)) ++ ((m.L j).flatMap (itR fs)).flatMap itemB = _
   rw [h2]
   rfl
theorem items_good {m : M} (hm : ∀ j, (m.L j).length ≤ 1048576) : ∀ {ts : List Step}, (∀ t, t ∈ ts → InStep m t) → (∀ x, x ∈ ts.flatMap (itStep m) → good x) ∧ (ts.flatMap (itStep m)).flatMap itemB = stepsB m ts
 | [], _ => ⟨(fun x hx => nomatch hx), rfl⟩
 | t :: ts, h => by
  obtain ⟨h1, h2⟩ := itStep_good hm (h t (.head _))
  obtain ⟨h3, h4⟩ := items_good hm (ts := ts) (fun q hq => h q (.tail _ hq))
  refine ⟨fun x hx => ?_, ?_⟩
  ·rw [List.flatMap_cons] at hx
   rcases List.mem_append.1 hx with hx | hx
   ·exact h1 x hx
   ·exact h3 x hx
  ·rw [List.flatMap_cons, List.flatMap_append, h2, h4]
   rfl
theorem items_pay {m : M} (ht : Typed m) (hf : Fit m) (hm : ∀ j, (m.L j).length ≤ 1048576) (h : InAll m) : wall (itemsM m) = (payB m, false) := by
 obtain ⟨h1, h2⟩ := items_good hm h.2
 rw [pay_eq ht hf h, ← h2]
 exact wall_all h1
end Go.Proofs.Ytcbehfbfaonanaa.Wr

end
section
namespace Go.Proofs.Ytcbehfbfaonanaa.Wr
open Go.RowKit Go.Proofs.YtcbehfbfaonanaaW.PrintWords Go.Proofs.YtcbehfbfaonanaaW.PrintLast Go.Proofs.YtcbehfbfaonanaaW.PrintMore Go.Proofs.Ytcbehfbfaonanaa.Pk
set_option linter.unusedVariables false
set_option linter.unusedSimpArgs false
theorem its_1 {m : M} (ht : Typed m) (hk : kindM m = 1) : ([iN (xi m.c 0)] ++ [iN (xi m.c 1)] ++ [iN (xi m.c 2)]) ++ [iN (((m.L 3).length : Nat) : Int)] ++ (m.L 3).flatMap (itR entryF) = itemsM m := by
 unfold itemsM
 rw [hk]
 simp only [wholeS, script_1, List.flatMap_cons, List.flatMap_nil, itStep, valsAt, posF, valueF, List.length_cons, List.length_nil, Nat.reduceAdd, itR, itF, ce0 ht, ce1 ht, ce2 ht, List.append_assoc, List.cons_append, List.nil_append, List.append_nil]
theorem its_2 {m : M} (ht : Typed m) (hk : kindM m = 2) : ([iN (xi m.c 0)] ++ [iN (xi m.c 1)] ++ [iN (xi m.c 2)]) ++ [iN (xi m.c 11), iN (xi m.c 12)] = itemsM m := by
 unfold itemsM
 rw [hk]
 simp only [wholeS, script_2, List.flatMap_cons, List.flatMap_nil, itStep, valsAt, posF, valueF, List.length_cons, List.length_nil, Nat.reduceAdd, itR, itF, ce0 ht, ce1 ht, ce2 ht, ce11 ht, ce12 ht, List.append_assoc, List.cons_append, List.nil_append, List.append_nil]
theorem its_3 {m : M} (ht : Typed m) (hk : kindM m = 3) : (([iN (xi m.c 0)] ++ [iN (xi m.c 1)] ++ [iN (xi m.c 2)]) ++ [iN (xi m.c 4), iN (xi m.c 5)] ++ [iN (xi m.c 6), iN (xi m.c 7), iN (((m.L 8).length : Nat) : Int)]) ++ (m.L 8).flatMap (itR pairF) ++ [iN (((m.L 9).length : Nat) : Int)] ++ (m.L 9).flatMap (itR seenF) = itemsM m := by
 unfold itemsM
 rw [hk]
 simp only [wholeS, script_3, List.flatMap_cons, List.flatMap_nil, itStep, valsAt, posF, valueF, List.length_cons, List.length_nil, Nat.reduceAdd, itR, itF, ce0 ht, ce1 ht, ce2 ht, ce4 ht, ce5 ht, ce6 ht, ce7 ht, List.append_assoc, List.cons_append, List.nil_append, List.append_nil]
theorem its_4 {m : M} (ht : Typed m) (hk : kindM m = 4) : ([iN (xi m.c 0)]) ++ [iN (((m.L 10).length : Nat) : Int)] ++ (m.L 10).flatMap (itR epochF) = itemsM m := by
 unfold itemsM
 rw [hk]
 simp only [wholeS, script_4, List.flatMap_cons, List.flatMap_nil, itStep, valsAt, posF, valueF, List.length_cons, List.length_nil, Nat.reduceAdd, itR, itF, ce0 ht, List.append_assoc, List.cons_append, List.nil_append, List.append_nil]
theorem its_5 {m : M} (ht : Typed m) (hk : kindM m = 5) : ([iN (xi m.c 0)] ++ [iN (xi m.c 1)] ++ [iN (xi m.c 2)]) ++ [iN (xi m.c 11), iN (xi m.c 12)] ++ [iF (bi m.c 13)] = itemsM m := by
 unfold itemsM
 rw [hk]
 simp only [wholeS, script_5, List.flatMap_cons, List.flatMap_nil, itStep, valsAt, posF, valueF, List.length_cons, List.length_nil, Nat.reduceAdd, itR, itF, ce0 ht, ce1 ht, ce2 ht, ce11 ht, ce12 ht, ce13 ht, List.append_assoc, List.cons_append, List.nil_append, List.append_nil]
theorem its_6 {m : M} (ht : Typed m) (hk : kindM m = 6) : ([iN (xi m.c 0)] ++ [iN (xi m.c 2)]) = itemsM m := by
 unfold itemsM
 rw [hk]
 simp only [wholeS, script_6, List.flatMap_cons, List.flatMap_nil, itStep, valsAt, posF, valueF, List.length_cons, List.length_nil, Nat.reduceAdd, itR, itF, ce0 ht, ce2 ht, List.append_assoc, List.cons_append, List.nil_append, List.append_nil]
theorem its_7 {m : M} (ht : Typed m) (hk : kindM m = 7) : ([iN (xi m.c 0)] ++ [iN (xi m.c 1)] ++ [iN (xi m.c 2)]) ++ [iN (xi m.c 14), iN (xi m.c 15)] ++ [iS (si m.c 16)] ++ [iN (xi m.c 19), iN (xi m.c 20)] = itemsM m := by
 unfold itemsM
 rw [hk]
 simp only [wholeS, script_7, List.flatMap_cons, List.flatMap_nil, itStep, valsAt, posF, valueF, List.length_cons, List.length_nil, Nat.reduceAdd, itR, itF, ce0 ht, ce1 ht, ce2 ht, ce14 ht, ce15 ht, ce16 ht, ce19 ht, ce20 ht, List.append_assoc, List.cons_append, List.nil_append, List.append_nil]
theorem its_8 {m : M} (ht : Typed m) (hk : kindM m = 8) : ([iN (xi m.c 0)] ++ [iN (xi m.c 1)] ++ [iN (xi m.c 2)]) ++ [iN (xi m.c 14), iN (xi m.c 15)] ++ [iS (si m.c 16)] ++ [iF (bi m.c 17), iS (si m.c 18)] ++ [iN (xi m.c 19), iN (xi m.c 20)] = itemsM m := by
 unfold itemsM
 rw [hk]
 simp only [wholeS, script_8, List.flatMap_cons, List.flatMap_nil, itStep, valsAt, posF, valueF, List.length_cons, List.length_nil, Nat.reduceAdd, itR, itF, ce0 ht, ce1 ht, ce2 ht, ce14 ht, ce15 ht, ce16 ht, ce17 ht, ce18 ht, ce19 ht, ce20 ht, List.append_assoc, List.cons_append, List.nil_append, List.append_nil]
theorem its_9 {m : M} (ht : Typed m) (hk : kindM m = 9) : ([iN (xi m.c 0)] ++ [iN (xi m.c 1)] ++ [iN (xi m.c 2)]) ++ [iN (xi m.c 14), iN (xi m.c 15), iN (xi m.c 21)] ++ [iN (xi m.c 22), iN (xi m.c 23), iF (bi m.c 24), iS (si m.c 25)] ++ [iN (xi m.c 11), iN (xi m.c 12)] ++ [iN (xi m.c 19), iN (xi m.c 20)] = itemsM m := by
 unfold itemsM
 rw [hk]
 simp only [wholeS, script_9, List.flatMap_cons, List.flatMap_nil, itStep, valsAt, posF, valueF, List.length_cons, List.length_nil, Nat.reduceAdd, itR, itF, ce0 ht, ce1 ht, ce2 ht, ce14 ht, ce15 ht, ce21 ht, ce22 ht, ce23 ht, ce24 ht, ce25 ht, ce11 ht, ce12 ht, ce19 ht, ce20 ht, List.append_assoc, List.cons_append, List.nil_append, List.append_nil]
theorem its_10 {m : M} (ht : Typed m) (hk : kindM m = 10) : ([iN (xi m.c 0)] ++ [iN (xi m.c 1)] ++ [iN (xi m.c 2)]) ++ [iN (xi m.c 14), iN (xi m.c 15), iN (xi m.c 21)] ++ [iN (xi m.c 4), iN (xi m.c 5)] ++ [iN (xi m.c 19), iN (xi m.c 20)] = itemsM m := by
 unfold itemsM
 rw [hk]
 simp only [wholeS, script_10, List.flatMap_cons, List.flatMap_nil, itStep, valsAt, posF, valueF, List.length_cons, List.length_nil, Nat.reduceAdd, itR, itF, ce0 ht, ce1 ht, ce2 ht, ce14 ht, ce15 ht, ce21 ht, ce4 ht, ce5 ht, ce19 ht, ce20 ht, List.append_assoc, List.cons_append, List.nil_append, List.append_nil]
theorem items_c (w : World) (va : Value) (m : M) (sv : Nat → Value) (h : MsgRd w va m sv) (hA : InAll m) : Calls Try.prog 23 #[va] w (GivesI (itemsM m) w) := by
 have ht := h.typed
 have hf := h.fit
 have hr : ∀ j fs, (j, fs) ∈ lists → sv j = .slice (sA (sv j)) (m.L j).length (sC (sv j)) := fun j fs hj => by
  obtain ⟨a, c, e, _⟩ := h.rd j fs hj
  rw [e]; rfl
 have e : va = .agg (cX (xi m.c) (si m.c) (bi m.c) (fun j => .slice (sA (sv j)) (m.L j).length (sC (sv j)))) := by
  rw [h.eq]
  unfold msgV
  rw [msg_cX ht]
  unfold cX
  rw [hr 3 entryF (by simp [lists]), hr 8 pairF (by simp [lists]), hr 9 seenF (by simp [lists]), hr 10 epochF (by simp [lists])]
 have hrd : ∀ j fs, (j, fs) ∈ lists → ListRd w (.slice (sA (sv j)) (m.L j).length (sC (sv j))) fs.length (m.L j) := fun j fs hj => by
  have := h.rd j fs hj
  rwa [hr j fs hj] at this
 obtain ⟨k, hk⟩ : ∃ x, m.c 0 = .int .i64 x := ht 0 rfl
 have hx : xi m.c 0 = k := by unfold xi; rw [hk]
 have hkm := kindM_of hk
 obtain ⟨hr10, hA⟩ := hA
 rw [hkm] at hr10 hA
 rw [e]
 clear e hr h
 rcases in_10 hr10 with rfl | rfl | rfl | rfl | rfl | rfl | rfl | rfl | rfl | rfl
 ·rw [← its_1 ht hkm]
  exact items_a w (xi m.c) (si m.c) (bi m.c) (fun j => sA (sv j)) (fun j => (m.L j).length) (fun j => sC (sv j)) _ (by rw [hx]; rfl) (by rw [hx]; rfl) (six_1 w (xi m.c) (si m.c) (bi m.c) (fun j => sA (sv j)) (fun j => (m.L j).length) (fun j => sC (sv j)) hx (m.L 3) rfl (hrd 3 entryF (by simp [lists])) (hf 3 entryF (by simp [lists])) (hA (.lst 3 entryF 8) (by simp [wholeS, script_1])).1)
 ·rw [← its_2 ht hkm]
  exact items_a w (xi m.c) (si m.c) (bi m.c) (fun j => sA (sv j)) (fun j => (m.L j).length) (fun j => sC (sv j)) _ (by rw [hx]; rfl) (by rw [hx]; rfl) (six_2 w (xi m.c) (si m.c) (bi m.c) (fun j => sA (sv j)) (fun j => (m.L j).length) (fun j => sC (sv j)) hx)
 ·rw [← its_3 ht hkm]
  exact items_a w (xi m.c) (si m.c) (bi m.c) (fun j => sA (sv j)) (fun j => (m.L j).length) (fun j => sC (sv j)) _ (by rw [hx]; rfl) (by rw [hx]; rfl) (six_3 w (xi m.c) (si m.c) (bi m.c) (fun j => sA (sv j)) (fun j => (m.L j).length) (fun j => sC (sv j)) hx (m.L 8) rfl (hrd 8 pairF (by simp [lists])) (hf 8 pairF (by simp [lists])) (hA (.lst 8 pairF 8) (by simp [wholeS, script_3])).1 (m.L 9) rfl (hrd 9 seenF (by simp [lists])) (hf 9 seenF (by simp [lists])) (hA (.lst 9 seenF 8) (by simp [wholeS, script_3])).1)
 ·rw [← its_4 ht hkm]
  exact items_b w (xi m.c) (si m.c) (bi m.c) (fun j => sA (sv j)) (fun j => (m.L j).length) (fun j => sC (sv j)) _ (by rw [hx]; rfl) (six_4 w (xi m.c) (si m.c) (bi m.c) (fun j => sA (sv j)) (fun j => (m.L j).length) (fun j => sC (sv j)) hx (m.L 10) rfl (hrd 10 epochF (by simp [lists])) (hf 10 epochF (by simp [lists])) (hA (.lst 10 epochF 64) (by simp [wholeS, script_4])).1)
 ·rw [← its_5 ht hkm]
  exact items_a w (xi m.c) (si m.c) (bi m.c) (fun j => sA (sv j)) (fun j => (m.L j).length) (fun j => sC (sv j)) _ (by rw [hx]; rfl) (by rw [hx]; rfl) (six_5 w (xi m.c) (si m.c) (bi m.c) (fun j => sA (sv j)) (fun j => (m.L j).length) (fun j => sC (sv j)) hx)
 ·rw [← its_6 ht hkm]
  exact items_c_ w (xi m.c) (si m.c) (bi m.c) (fun j => sA (sv j)) (fun j => (m.L j).length) (fun j => sC (sv j)) _ (by rw [hx]; rfl) (by rw [hx]; rfl) (six_6 w (xi m.c) (si m.c) (bi m.c) (fun j => sA (sv j)) (fun j => (m.L j).length) (fun j => sC (sv j)) hx)
 ·rw [← its_7 ht hkm]
  exact items_a w (xi m.c) (si m.c) (bi m.c) (fun j => sA (sv j)) (fun j => (m.L j).length) (fun j => sC (sv j)) _ (by rw [hx]; rfl) (by rw [hx]; rfl) (six_7 w (xi m.c) (si m.c) (bi m.c) (fun j => sA (sv j)) (fun j => (m.L j).length) (fun j => sC (sv j)) hx)
 ·rw [← its_8 ht hkm]
  exact items_a w (xi m.c) (si m.c) (bi m.c) (fun j => sA (sv j)) (fun j => (m.L j).length) (fun j => sC (sv j)) _ (by rw [hx]; rfl) (by rw [hx]; rfl) (six_8 w (xi m.c) (si m.c) (bi m.c) (fun j => sA (sv j)) (fun j => (m.L j).length) (fun j => sC (sv j)) hx)
 ·rw [← its_9 ht hkm]
  exact items_a w (xi m.c) (si m.c) (bi m.c) (fun j => sA (sv j)) (fun j => (m.L j).length) (fun j => sC (sv j)) _ (by rw [hx]; rfl) (by rw [hx]; rfl) (six_9 w (xi m.c) (si m.c) (bi m.c) (fun j => sA (sv j)) (fun j => (m.L j).length) (fun j => sC (sv j)) hx)
 ·rw [← its_10 ht hkm]
  exact items_a w (xi m.c) (si m.c) (bi m.c) (fun j => sA (sv j)) (fun j => (m.L j).length) (fun j => sC (sv j)) _ (by rw [hx]; rfl) (by rw [hx]; rfl) (six_10 w (xi m.c) (si m.c) (bi m.c) (fun j => sA (sv j)) (fun j => (m.L j).length) (fun j => sC (sv j)) hx)
end Go.Proofs.Ytcbehfbfaonanaa.Wr
end
section
namespace Go.Proofs.Ytcbehfbfaonanaa.Wr
open Go.RowKit Go.Proofs.YtcbehfbfaonanaaW.PrintWords Go.Proofs.YtcbehfbfaonanaaW.PrintLast Go.Proofs.YtcbehfbfaonanaaW.PrintMore Go.Proofs.Ytcbehfbfaonanaa.Pk
open Go.Proofs.Ytcbehfbfaonanaa.PFr (sealL openL ansE Ok meridianref03_Seal.calls rseal_f)
set_option linter.unusedVariables false
set_option linter.unusedSimpArgs false
theorem str_toList {l1 l2 : List Int} (h1 : ∀ x ∈ l1, Pk.IsB x) (h2 : ∀ x ∈ l2, Pk.IsB x) : ((strOfNums l1).toList == (strOfNums l2).toList) = true ↔ l1 = l2 := by
 rw [beq_iff_eq]
 constructor
 ·intro h
  have h' := baToList_inj h
  have e1 := congrArg bytesOf h'
  rwa [bytesOf_strOf h1, bytesOf_strOf h2] at e1
 ·rintro rfl; rfl
theorem bsame_c (w : World) (va vb : Value) (l0 l1 : List Int) (ha : BRd w va l0) (hb : BRd w vb l1) (h1 : ∀ x ∈ l0, Pk.IsB x) (h2 : ∀ x ∈ l1, Pk.IsB x) :
  Calls Try.prog 14 #[va, vb] w (IsEqB (l0 = l1) w) := by
 obtain ⟨A0, c0, rfl, r0, _⟩ := ha
 obtain ⟨A1, c1, rfl, r1, _⟩ := hb
 have hcv3 := Kd.C_string (P := Try.prog) (A := A0) (c := c0) Try.underlying37 Try.underlying5 Try.underlying9 r0
 have hcv4 := Kd.C_string (P := Try.prog) (A := A1) (c := c1) Try.underlying37 Try.underlying5 Try.underlying9 r1
 have HI := aK (str_toList h1 h2)
 clear h1 h2 r0 r1
 go_enter Try.func14, Try.ntmps14
 go_wp2
 go_ret
 exact ⟨_, rfl, HI.out, by repeat (first | exact Below.refl _ _ | apply below_drew1 | apply pw_below_drewN)⟩
theorem rseal_c (w : World) (v : Value) (p : List Int) (h : BRd w v p) (hb : ∀ x ∈ p, Pk.IsB x) (hl : p.length ≤ 140737488351232) (hO : Ok p) :
  Calls Try.prog 24 #[v] w (fun e w' => Below w.heap.size w w' ∧ ∃ v', e = .returned (.tuple #[v', .bool true]) ∧ BRd w' v' (sealL p)) := by
 obtain ⟨A, c, rfl, h1, h2⟩ := h
 obtain ⟨k, hk⟩ := (rseal_f hb hl).rounds
 rw [if_pos hO] at hk
 refine (meridianref03_Seal.calls k A c p _ _ w h1 h2 hk).mono ?_
 rintro e w' ⟨v', rfl, hR, hB⟩
 obtain ⟨A', c', rfl⟩ := Kd.R_slice hR
 exact ⟨hB, _, rfl, A', c', rfl, (Kd.R_reads' hR).2.2, (Kd.R_reads' hR).2.1⟩
theorem inRow_lite : ∀ {fs : List Fld} {vs : List Value}, InRow fs vs → (∀ f, f ∈ fs → ∀ k, f = .text k → k ≤ 1024) → Lites 1048576 vs
 | [], [], _, _ => fun v hv => nomatch hv
 | f :: fs, v :: vs, h, hk => fun u hu => by
  rcases List.mem_cons.1 hu with rfl | hu
  ·intro x e
   subst e
   have h1 := h.1
   cases f with
   | text k =>
    have h2 := hk _ (.head _) k rfl
    have h3 := h1.1
    omega
   | num a b => exact h1.elim
   | flag => exact h1.elim
  ·exact inRow_lite h.2 (fun f hf => hk f (.tail _ hf)) u hu
theorem right_small {m : M} (ht : Typed m) (hf : Fit m) (hoff : ∀ i, scalar i = false → ∀ x, m.c i ≠ .string x) (hn : ∀ j, (∀ fs, (j, fs) ∉ lists) → m.L j = []) (h : RightM m) : Small m := by
 obtain ⟨_, ⟨l3, l8, l9, l10, _⟩, _, ⟨_, _, s16, s18, s25⟩, r3, r8, r9, r10⟩ := (rcond_iff ht hf).2 h
 have key : ∀ j, (∃ fs, (j, fs) ∈ lists) ∨ m.L j = [] := fun j => by
  by_cases hj : ∃ fs, (j, fs) ∈ lists
  ·exact .inl hj
  ·exact .inr (hn j (fun fs hfs => hj ⟨fs, hfs⟩))
 refine ⟨⟨fun i x e => ?_, fun j r hr => ?_⟩, fun j => ?_, hf.wide hn⟩
 ·cases hs : scalar i with
  | false => exact absurd e (hoff i hs x)
  | true =>
   have ti := ht i hs
   rw [e] at ti
   have hlt : i < 26 := by unfold scalar at hs; simp only [Bool.and_eq_true, decide_eq_true_eq] at hs; exact hs.1
   have hk : i = 16 ∨ i = 18 ∨ i = 25 := by
    unfold kindOf at ti
    by_cases h1 : i = 13 ∨ i = 17 ∨ i = 24
    ·rw [if_pos h1] at ti
     obtain ⟨b, hb⟩ := ti
     cases hb
    ·rw [if_neg h1] at ti
     by_cases h2 : i = 16 ∨ i = 18 ∨ i = 25
     ·exact h2
     ·rw [if_neg h2] at ti
      obtain ⟨b, hb⟩ := ti
      cases hb
   rcases hk with rfl | rfl | rfl
   ·have : si m.c 16 = x := by unfold si; rw [e]
    rw [this] at s16; omega
   ·have : si m.c 18 = x := by unfold si; rw [e]
    rw [this] at s18; omega
   ·have : si m.c 25 = x := by unfold si; rw [e]
    rw [this] at s25; omega
 ·rcases key j with ⟨fs, hj⟩ | e
  ·simp only [lists, List.mem_cons, Prod.mk.injEq, List.not_mem_nil, or_false] at hj
   rcases hj with ⟨rfl, _⟩ | ⟨rfl, _⟩ | ⟨rfl, _⟩ | ⟨rfl, _⟩
   ·exact inRow_lite (r3 r hr) (by intro f hf k e; subst e; simp [entryF] at hf; omega)
   ·exact inRow_lite (r8 r hr) (by intro f hf k e; subst e; simp [pairF] at hf; omega)
   ·exact inRow_lite (r9 r hr) (by intro f hf k e; subst e; simp [seenF] at hf)
   ·exact inRow_lite (r10 r hr) (by intro f hf k e; subst e; simp [epochF] at hf)
  ·rw [e] at hr; exact absurd hr (List.not_mem_nil)
 ·rcases key j with ⟨fs, hj⟩ | e
  ·simp only [lists, List.mem_cons, Prod.mk.injEq, List.not_mem_nil, or_false] at hj
   rcases hj with ⟨rfl, _⟩ | ⟨rfl, _⟩ | ⟨rfl, _⟩ | ⟨rfl, _⟩ <;> omega
  ·rw [e]; simp
theorem copy_L (m : M) : ∀ (ts : List Step) (a : M) (j : Nat), (copy m a ts).L j = m.L j ∨ (copy m a ts).L j = a.L j
 | [], a, j => .inr rfl
 | t :: ts, a, j => by
  rcases copy_L m ts (copyS m a t) j with h | h
  ·exact .inl h
  ·cases t with
   | row i fs => exact .inr h
   | most => exact .inr h
   | lst k fs n =>
    have e : (copyS m a (.lst k fs n)).L j = if j = k then m.L k else a.L j := rfl
    by_cases hk : j = k
    ·subst hk
     rw [e, if_pos rfl] at h
     exact .inl h
    ·rw [e, if_neg hk] at h
     exact .inr h
theorem only_len {m : M} {N : Nat} (h : ∀ j, (m.L j).length ≤ N) (j : Nat) : ((onlyM m).L j).length ≤ N := by
 rcases copy_L m (wholeS (kindM m)) zeroM j with e | e
 ·show ((copy m zeroM (wholeS (kindM m))).L j).length ≤ N
  rw [e]; exact h j
 ·show ((copy m zeroM (wholeS (kindM m))).L j).length ≤ N
  rw [e]; exact Nat.zero_le _
end Go.Proofs.Ytcbehfbfaonanaa.Wr
end
section
namespace Go.Proofs.Ytcbehfbfaonanaa.Wr
open Go.RowKit Go.Proofs.YtcbehfbfaonanaaW.PrintWords Go.Proofs.YtcbehfbfaonanaaW.PrintLast Go.Proofs.YtcbehfbfaonanaaW.PrintMore Go.Proofs.Ytcbehfbfaonanaa.Pk
open Go.Proofs.Ytcbehfbfaonanaa.PFr (sealL openL ansE Ok)
set_option linter.unusedVariables false
set_option linter.unusedSimpArgs false
theorem touch_scalar {n : Int} {u : Step} (h : u ∈ wholeS n) {k : Nat} (ht : touch u k = true) : scalar k = true := by
 have ho := whole_ok n u h
 cases u with
 | row i fs =>
  have ht' : (decide (i ≤ k) && decide (k < i + fs.length)) = true := ht
  simp only [Bool.and_eq_true, decide_eq_true_eq] at ht'
  have := okRow_scalar ho (k - i) (by omega)
  rwa [show i + (k - i) = k by omega] at this
 | most =>
  have : k = 7 := by simpa [touch] using ht
  subst this; rfl
 | lst j fs m => cases ht
theorem touchL_list {n : Int} {u : Step} (h : u ∈ wholeS n) {k : Nat} (ht : touchL u k = true) : ∃ fs, (k, fs) ∈ lists := by
 have ho := whole_ok n u h
 cases u with
 | row i fs => cases ht
 | most => cases ht
 | lst j fs m =>
  have : k = j := by simpa [touchL] using ht
  subst this
  exact ⟨fs, ho.1⟩
theorem rd_off (p : List Int) {i : Nat} (hs : scalar i = false) : (rdM p).c i = zeroC i := by
 have hR : rdR p = (iForm 0 0 0).run (p, false, false) zeroM (wholeS (kindM ((iForm 0 0 0).rowM (p, false, false) zeroM 0 [.num 1 10]).2)) := rfl
 show (rdR p).2.c i = _
 rw [hR]
 refine run_keep _ _ _ (fun u hu => ?_)
 cases ht : touch u i with
 | false => rfl
 | true => rw [touch_scalar hu ht] at hs; cases hs
theorem rd_none (p : List Int) {j : Nat} (hj : ∀ fs, (j, fs) ∉ lists) : (rdM p).L j = [] := by
 have hR : rdR p = (iForm 0 0 0).run (p, false, false) zeroM (wholeS (kindM ((iForm 0 0 0).rowM (p, false, false) zeroM 0 [.num 1 10]).2)) := rfl
 show (rdR p).2.L j = _
 rw [hR]
 refine (run_keepL _ _ _ (fun u hu => ?_)).trans rfl
 cases ht : touchL u j with
 | false => rfl
 | true => obtain ⟨fs, hfs⟩ := touchL_list hu ht; exact absurd hfs (hj fs)
theorem rd_small {p : List Int} (hb : ∀ x ∈ p, Pk.IsB x) (h : rdOk p = true) (ht : Typed (rdM p)) (hf : Fit (rdM p)) : Small (rdM p) := by
 refine right_small ht hf (fun i hs x e => ?_) (fun j hj => rd_none p hj) (rd_dec hb h ht hf).2.2
 rw [rd_off p hs] at e
 unfold zeroC kindOf at e
 by_cases h1 : i = 13 ∨ i = 17 ∨ i = 24
 ·rw [if_pos h1] at e; cases e
 ·rw [if_neg h1] at e
  by_cases h2 : i = 16 ∨ i = 18 ∨ i = 25
  ·rcases h2 with rfl | rfl | rfl <;> cases hs
  ·rw [if_neg h2] at e; cases e
def IsRE (m : M) (w : World) (e : Ending) (w' : World) : Prop := Below w.heap.size w w' ∧
 ((RightM m ∧ ∃ v, e = .returned (.tuple #[v, .bool true]) ∧ BRd w' v (sealL (payB m))) ∨ (¬ RightM m ∧ e = .returned (.tuple #[.slice none 0 0, .bool false])))
theorem refEnc_no (w : World) (cs : Array Value) (hi : (Try.prog.info? 32).map (·.size) = some cs.size) (HR : Aside0 (∀ W, Below w.heap.size w W → Calls Try.prog 21 #[.agg cs] W (fun e w' => e = .returned (.bool false) ∧ Below W.heap.size W w'))) :
  Calls Try.prog 12 #[.agg cs] w (fun e w' => e = .returned (.tuple #[.slice none 0 0, .bool false]) ∧ Below w.heap.size w w') := by
 go_enter Try.func12, Try.ntmps12
 go_wp2_with (first | ((with_reducible refine gate_dst (N := 1) rfl ?_); refine box_row rfl 32 (.tmp 0) rfl cs rfl ?_; intro g1 w1 hg hbox hb; have HX1 := aK hbox; have HB1 := aK hb; clear hg hbox hb) | ((with_reducible refine gate_dst (N := 6) rfl ?_); refine load_row rfl 32 (.tmp 1) rfl g1 rfl cs 32 HX1.out _ Try.underlying32 rfl hi ?_) | (go_at_call 21; (with_reducible refine (HR.out _ HB1.out).mono ?_); rintro e w2 ⟨rfl, hB⟩; have HB2 := aK (HB1.out.trans (hB.mono HB1.out.size)); clear hB))
 go_ret2
 exact ⟨rfl, HB2.out⟩
theorem refEnc_yes (w : World) (cs : Array Value) (p : List Int) (hi : (Try.prog.info? 32).map (·.size) = some cs.size) (HR : Aside0 (∀ W, Below w.heap.size w W → Calls Try.prog 21 #[.agg cs] W (fun e w' => e = .returned (.bool true) ∧ Below W.heap.size W w')))
  (HI : Aside0 (∀ W, Below w.heap.size w W → Calls Try.prog 23 #[.agg cs] W (fun e w' => ∃ v, e = .returned v ∧ Below W.heap.size W w' ∧ ∀ W', Below w'.heap.size w' W' → Calls Try.prog 22 #[v] W' (fun e w'' => ∃ v2, e = .returned (.tuple #[v2, .bool true]) ∧ Below W'.heap.size W' w'' ∧ BRd w'' v2 p))))
  (HS : Aside0 (∀ W v, BRd W v p → Calls Try.prog 24 #[v] W (fun e w' => Below W.heap.size W w' ∧ ∃ v', e = .returned (.tuple #[v', .bool true]) ∧ BRd w' v' (sealL p)))) :
  Calls Try.prog 12 #[.agg cs] w (fun e w' => Below w.heap.size w w' ∧ ∃ v, e = .returned (.tuple #[v, .bool true]) ∧ BRd w' v (sealL p)) := by
 go_enter Try.func12, Try.ntmps12
 go_wp2_with (first | ((with_reducible refine gate_dst (N := 1) rfl ?_); refine box_row rfl 32 (.tmp 0) rfl cs rfl ?_; intro g1 w1 hg hbox hb; have HX1 := aK hbox; have HB1 := aK hb; clear hg hbox hb) | ((with_reducible refine gate_dst (N := 6) rfl ?_); refine load_row rfl 32 (.tmp 1) rfl g1 rfl cs 32 HX1.out _ Try.underlying32 rfl hi ?_) | (go_at_call 21; (with_reducible refine (HR.out _ HB1.out).mono ?_); rintro e w2 ⟨rfl, hB⟩; have HB2 := aK (HB1.out.trans (hB.mono HB1.out.size)); have HX2 := aK ((hB.block g1 (blk_lt HX1.out)).trans HX1.out); clear hB) | ((with_reducible refine gate_dst (N := 10) rfl ?_); refine load_row rfl 32 (.tmp 1) rfl g1 rfl cs 32 HX2.out _ Try.underlying32 rfl hi ?_) | (go_at_call 23; (with_reducible refine (HI.out _ HB2.out).mono ?_); rintro e w3 ⟨vi, rfl, hB, hby⟩; have HB3 := aK (HB2.out.trans (hB.mono HB2.out.size)); have HY := aK (hby w3 (Below.refl _ _)); clear hB hby) | (go_at_call 22; (with_reducible refine HY.out.mono ?_); rintro e w4 ⟨v2, rfl, hB, hv⟩; have HB4 := aK (HB3.out.trans (hB.mono HB3.out.size)); have HV := aK hv; clear hB hv) | (go_at_call 24; (with_reducible refine (HS.out _ _ HV.out).mono ?_); rintro e w5 ⟨hB, v5, rfl, hv⟩; have HB5 := aK (HB4.out.trans (hB.mono HB4.out.size)); have HV5 := aK hv; clear hB hv))
 go_ret2
 exact ⟨HB5.out, _, rfl, HV5.out⟩
theorem itR_size : ∀ {fs : List Fld} {vs : List Value}, InRow fs vs → (∀ f, f ∈ fs → ∀ k, f = .text k → k ≤ 1024) → ∀ x ∈ itR fs vs, x.f2.size ≤ 100000
 | [], _, _, _ => fun x hx => nomatch hx
 | _ :: _, [], h, _ => h.elim
 | f :: fs, v :: vs, h, hk => fun x hx => by
  rcases List.mem_cons.1 hx with rfl | hx
  ·have h1 := h.1
   cases f with
   | text k =>
    cases v with
    | string s =>
     have h2 := hk _ (.head _) k rfl
     have h3 := h1.1
     show s.size ≤ 100000
     omega
    | _ => exact h1.elim
   | num a b =>
    cases v with
    | int kk n => cases kk <;> exact Nat.zero_le _
    | _ => exact Nat.zero_le _
   | flag =>
    cases v with
    | bool b => exact Nat.zero_le _
    | _ => exact Nat.zero_le _
  ·exact itR_size h.2 (fun f hf => hk f (.tail _ hf)) x hx
def litF (fs : List Fld) : Bool := fs.all (fun f => match f with | .text k => decide (k ≤ 1024) | _ => true)
theorem litF_at {fs : List Fld} (h : litF fs = true) : ∀ f, f ∈ fs → ∀ k, f = .text k → k ≤ 1024 := fun f hf k e => by
 have := List.all_eq_true.1 h f hf
 rw [e] at this
 simpa using this
def litS : Step → Bool
 | .row _ fs => litF fs && decide (fs.length ≤ 8)
 | .most => true
 | .lst _ fs k => litF fs && (decide (fs.length ≤ 8) && decide (k ≤ 64))
theorem lit_whole {n : Int} (h : 1 ≤ n ∧ n ≤ 10) : (wholeS n).all litS = true ∧ (wholeS n).length ≤ 20 := by
 rcases in_10 h with rfl | rfl | rfl | rfl | rfl | rfl | rfl | rfl | rfl | rfl <;> exact ⟨by decide, by decide⟩
theorem step_size {m : M} {t : Step} (h : InStep m t) (hl : litS t = true) : (∀ x ∈ itStep m t, x.f2.size ≤ 100000) ∧ (itStep m t).length ≤ 600 := by
 cases t with
 | row i fs =>
  simp only [litS, Bool.and_eq_true, decide_eq_true_eq] at hl
  have := itR_len fs (valsAt m.c i fs.length)
  exact ⟨itR_size h (litF_at hl.1), by show (itR fs _).length ≤ 600; omega⟩
 | most =>
  have := itR_len [.num 0 0] (valsAt m.c 7 1)
  refine ⟨fun x hx => ?_, by show (itR _ _).length ≤ 600; simp only [List.length_cons, List.length_nil] at this; omega⟩
  have e : itStep m .most = [itF (.num 0 0) (m.c 7)] := rfl
  rw [e] at hx
  obtain rfl : x = _ := by simpa using hx
  cases m.c 7 with
  | int k n => cases k <;> exact Nat.zero_le _
  | _ => exact Nat.zero_le _
 | lst j fs k =>
  simp only [litS, Bool.and_eq_true, decide_eq_true_eq] at hl
  obtain ⟨h1, h2⟩ := h
  have hr := rows_len fs 8 hl.2.1 (m.L j)
  refine ⟨fun x hx => ?_, ?_⟩
  ·rcases List.mem_cons.1 hx with rfl | hx
   ·exact Nat.zero_le _
   ·obtain ⟨r, hr, hx⟩ := List.mem_flatMap.1 hx
    exact itR_size (h2 r hr) (litF_at hl.1) x hx
  ·show (iN _ :: (m.L j).flatMap (itR fs)).length ≤ 600
   simp only [List.length_cons]
   omega
theorem items_few {m : M} (h : InAll m) : (∀ x ∈ itemsM m, x.f2.size ≤ 100000) ∧ (itemsM m).length ≤ 12000 := by
 obtain ⟨hl, hn⟩ := lit_whole h.1
 have key : ∀ ts : List Step, (∀ t, t ∈ ts → InStep m t) → ts.all litS = true → (∀ x ∈ ts.flatMap (itStep m), x.f2.size ≤ 100000) ∧ (ts.flatMap (itStep m)).length ≤ 600 * ts.length := by
  intro ts
  induction ts with
  | nil => intro _ _; exact ⟨(fun x hx => nomatch hx), Nat.zero_le _⟩
  | cons t ts ih =>
   intro h1 h2
   simp only [List.all_cons, Bool.and_eq_true] at h2
   obtain ⟨a1, a2⟩ := step_size (h1 t (.head _)) h2.1
   obtain ⟨b1, b2⟩ := ih (fun q hq => h1 q (.tail _ hq)) h2.2
   refine ⟨fun x hx => ?_, ?_⟩
   ·rw [List.flatMap_cons] at hx
    rcases List.mem_append.1 hx with hx | hx
    ·exact a1 x hx
    ·exact b1 x hx
   ·simp only [List.flatMap_cons, List.length_append, List.length_cons]
    omega
 obtain ⟨k1, k2⟩ := key _ h.2 hl
 exact ⟨k1, by unfold itemsM; omega⟩
theorem ref_encode_c (w : World) (va : Value) (m : M) (sv : Nat → Value) (h : MsgRd w va m sv) (hs : ∀ j, (m.L j).length ≤ 1048576) (hsm : RightM m → Small m) : Calls Try.prog 12 #[va] w (IsRE m w) := by
 have hsz : (Try.prog.info? 32).map (·.size) = some (msgC m.c sv).size := info_rmsg
 have hR := fun (W : World) (hB : Below w.heap.size w W) => refRight_c W va m sv (h.below hB) hs (only_len hs)
 have e := h.eq
 unfold msgV at e
 by_cases hr : RightM m
 ·have hA := ((right_iff h.typed h.fit).1 hr).1
  have hI := fun (W : World) (hB : Below w.heap.size w W) => items_c W va m sv (h.below hB) hA
  rw [e] at hR hI ⊢
  have hp := payB_isB (hsm hr)
  have hok := pay_ok h.typed hr.1
  refine (refEnc_yes w _ (payB m) hsz (aK (fun W hB => isB_true hr (hR W hB))) (aK (fun W hB => (hI W hB).mono ?_)) (aK (fun W v hv => rseal_c W v _ hv hp (by unfold Ok at hok; omega) hok))).mono ?_
  ·rintro e w' ⟨v, rfl, hv, hB2⟩
   refine ⟨v, rfl, hB2, fun W' hW' => ?_⟩
   obtain ⟨A, c, rfl, h1, h2⟩ := Kd.R_reads (hv.below hW')
   obtain ⟨i1, i2⟩ := items_few hA
   refine (refBytes_c A c (itemsM m) W' h2 i1 (by omega)).mono ?_
   intro e w'' hw
   have hpay := items_pay h.typed h.fit hs hA
   obtain ⟨q, c', rfl, hg⟩ := hw.good (by rw [hpay])
   rw [hpay] at hg ⊢
   exact ⟨_, rfl, hg.2.2.2.2, OwnB.rd hg.1⟩
  ·rintro e w' ⟨hB, v, rfl, hv⟩
   exact ⟨hB, .inl ⟨hr, v, rfl, hv⟩⟩
 ·rw [e] at hR ⊢
  refine (refEnc_no w _ hsz (aK (fun W hB => isB_false hr (hR W hB)))).mono ?_
  rintro e w' ⟨rfl, hB⟩
  exact ⟨hB, .inr ⟨hr, rfl⟩⟩
theorem own_cell {W : World} {g : Nat} {cur : Array Value} {l : List Int} (h2 : W.heap[g]? = some (.cells cur 5 (0, 0))) (h6 : cur.toList.take (l.length * 1) = nums .u8 l) {i : Nat} (hi : i < l.length) : W.cell? ⟨g, i, none⟩ = some (.int .u8 (rd l i)) := by
 refine (blk_cell h2 i).trans ?_
 have h : (cur.toList.take (l.length * 1))[i]? = (nums .u8 l)[i]? := by rw [h6]
 rw [List.getElem?_take, if_pos (by omega)] at h
 rw [← Array.getElem?_toList, h, nums, List.getElem?_map, List.getElem?_eq_getElem hi]
 have : rd l (i : Int) = l[i] := by unfold rd; simp [hi, List.getD_eq_getElem?_getD]
 rw [this]
 rfl
end Go.Proofs.Ytcbehfbfaonanaa.Wr
end
section
namespace Go.Proofs.Ytcbehfbfaonanaa.Wr
open Go.RowKit Go.Proofs.YtcbehfbfaonanaaW.PrintWords Go.Proofs.YtcbehfbfaonanaaW.PrintLast Go.Proofs.YtcbehfbfaonanaaW.PrintMore Go.Proofs.Ytcbehfbfaonanaa.Pk
open Go.Proofs.Ytcbehfbfaonanaa.PFr (sealL openL ansE Ok x2)
set_option linter.unusedVariables false
set_option linter.unusedSimpArgs false
theorem wp_store1 {W : World} {g i : Nat} {c : Value} {u : Int} {o : Oper} {a : Act} {K : Act → World → Prop} {Q : Exit → Act → World → Prop} (x z : Operand) (ho : o.op = .store 5 x z) (hx : a.eval x = .pointer (some ⟨g, i, none⟩)) (hz : a.eval z = .int .u8 u) (hc : W.cell? ⟨g, i, none⟩ = some c) (hfz : W.frozen? ⟨g, i, none⟩ = false) (h : K (a.put o.dst undef) (W.setCell ⟨g, i, none⟩ (.int .u8 u))) : Oper.wp Try.prog o a W K Q := by
 unfold Oper.wp execOp
 simp only [ho, hx, hz]
 go_simp
 exact h
theorem only_setCell (g : Nat) (i : Nat) (v : Value) (W : World) : Only (· = g) W (W.setCell ⟨g, i, none⟩ v) := only_setCells g [v] i W
theorem run_index {W : World} {gc n c i : Nat} {o : Oper} {ρ : Operand → Value} {x z : Operand} (hi : i < n) (ho : o.op = .indexAddr 37 x z := by rfl) (hx : ρ x = .slice (some ⟨gc, 0, none⟩) n c := by rfl) (hz : ρ z = .int .i64 (i : Int) := by rfl) : (execOp ρ o).run Try.prog W = .ok (.value (.pointer (some ⟨gc, i, none⟩))) W := by
 have h1 : (0 : Int) ≤ (i : Int) := by omega
 have h2 : (i : Int) < n := by omega
 unfold execOp
 simp only [ho, hx, hz]
 go_simp
end Go.Proofs.Ytcbehfbfaonanaa.Wr
end
section
namespace Go.Proofs.Ytcbehfbfaonanaa.Wr
open Go.RowKit Go.Proofs.YtcbehfbfaonanaaW.PrintWords Go.Proofs.YtcbehfbfaonanaaW.PrintLast Go.Proofs.YtcbehfbfaonanaaW.PrintMore Go.Proofs.Ytcbehfbfaonanaa.Pk
open Go.Proofs.Ytcbehfbfaonanaa.PFr (sealL openL ansE Ok)
set_option linter.unusedVariables false
set_option linter.unusedSimpArgs false
structure RB (g : Nat) (vb : Value) (a : Act) : Prop where
 size : a.tmps.size = 86
 arg : a.tmps[1]? = some vb
 box : a.tmps[2]? = some (.pointer (some ⟨g, 0, none⟩))
 defers : a.defers = []
def bfr (g : Nat) (vb : Value) (f : Nat → Value) : Act := ⟨#[f 0, vb, .pointer (some ⟨g, 0, none⟩), f 3, f 4, f 5, f 6, f 7, f 8, f 9, f 10, f 11, f 12, f 13, f 14, f 15, f 16, f 17, f 18, f 19, f 20, f 21, f 22, f 23, f 24, f 25, f 26, f 27, f 28, f 29, f 30, f 31, f 32, f 33, f 34, f 35, f 36, f 37, f 38, f 39, f 40, f 41, f 42, f 43, f 44, f 45, f 46, f 47, f 48, f 49, f 50, f 51, f 52, f 53, f 54, f 55, f 56, f 57, f 58, f 59, f 60, f 61, f 62, f 63, f 64, f 65, f 66, f 67, f 68, f 69, f 70, f 71, f 72, f 73, f 74, f 75, f 76, f 77, f 78, f 79, f 80, f 81, f 82, f 83, f 84, f 85], []⟩
theorem getD_of {a : Act} {k : Nat} {v : Value} (h : a.tmps[k]? = some v) : a.tmps.getD k undef = v := by rw [Array.getD_eq_getD_getElem?, h]; rfl
theorem lit_of {n : Nat} {a : Act} (h1 : a.tmps.size = n) (h3 : a.defers = []) (l : List Value) (hl : (List.range n).map (fun i => a.tmps.getD i undef) = l) : a = ⟨l.toArray, []⟩ := by
 cases a with
 | mk t d =>
  simp only at h1 h3 hl
  subst h3 hl
  congr 1
  refine Array.ext_getElem? (fun i => ?_)
  simp only [List.getElem?_toArray, List.getElem?_map]
  by_cases hi : i < n
  ·rw [List.getElem?_range hi]
   simp [Array.getD, h1, hi]
  ·rw [Array.getElem?_eq_none (by omega)]
   rw [List.getElem?_eq_none (by rw [List.length_range]; omega)]
   rfl
theorem RB.wp {g : Nat} {vb : Value} {a : Act} {w : World} {c : Code} {Q : Exit → Act → World → Prop} (h : RB g vb a) (hw : ∀ f, (∀ i v, a.tmps[i]? = some v → f i = v) → c.wp Try.prog Q (bfr g vb f) w) : c.wp Try.prog Q a w := by
 have e : a = bfr g vb (fun i => a.tmps.getD i undef) := lit_of h.size h.defers _ (by
  have e1 := getD_of h.arg
  have e2 := getD_of h.box
  rw [← e1, ← e2]
  rfl)
 rw [e]
 exact hw _ (fun i v hv => getD_of hv)
noncomputable def wb0 : Code := Try.f4.body.getD .skip
noncomputable def wb1 : Code := cr wb0
noncomputable def wb3 : Code := cr wb1
noncomputable def wb5 : Code := cr wb3
noncomputable def wb16 : Code := cr wb5
noncomputable def wc7 : Code := c1 (cr (cr (cl wb5)))
noncomputable def wc14 : Code := cr (cr (cr wc7))
def MB (W : World) (g : Nat) (cs : Array Value) : Prop := W.heap[g]? = some (.cells cs 32 (0, 0))
theorem MB.below {W W' : World} {g : Nat} {cs : Array Value} (h : MB W g cs) (hB : Below W.heap.size W W') : MB W' g cs := (hB.block g (blk_lt h)).trans h
theorem wb_0 (w : World) (vb : Value) (cs : Array Value) (K : Exit → Act → World → Prop) (hK : ∀ g a w', MB w' g cs → RB g vb a → Below w.heap.size w w' → K .normal a w') :
  Code.wp Try.prog (cl wb0) K ⟨#[.agg cs, vb] ++ Array.replicate (Try.f4.ntmps - (#[Value.agg cs, vb] : Array Value).size) undef, []⟩ w := by
 simp only [Try.ntmps4, List.size_toArray, List.length_cons, List.length_nil, Nat.reduceAdd, Nat.reduceSub, Array.replicate_succ,
  Array.replicate_zero, List.push_toArray, List.append_toArray, List.nil_append, List.cons_append]
 have hK := aK hK
 conv => arg 2; whnf
 go_wp2_with (first | ((with_reducible refine gate_dst (N := 2) rfl ?_); refine box_row rfl 32 (.tmp 0) rfl cs rfl ?_; intro g1 w1 hg hbox hb; have HB1 := aK hb; have HX1 := aK hbox; clear hb hg hbox))
 exact hK.out g1 _ _ HX1.out ⟨rfl, rfl, rfl, rfl⟩ HB1.out
theorem wb_1 (W wc : World) (g : Nat) (vb : Value) (f : Nat → Value) (cs : Array Value) (K : Exit → Act → World → Prop) (HX0 : Aside0 (MB W g cs)) (HB : Aside0 (Below W.heap.size W wc))
  (hK : Aside0 (∀ a W', RB g vb a → Below W.heap.size W W' → K .normal a W')) : Code.wp Try.prog (cl wb1) K (bfr g vb f) wc := by
 have HX := aK (HX0.out.below HB.out)
 unfold bfr
 conv => arg 2; whnf
 go_wp2_with (first | (go_at_call 8; (with_reducible refine (awakeC _).mono ?_); rintro e wc ⟨rfl, hB⟩; have HB := aK (HB.out.trans (hB.mono HB.out.size)); have HX := aK (HX0.out.below HB.out); clear hB))
 exact hK.out _ wc ⟨rfl, rfl, rfl, rfl⟩ HB.out
theorem wb_3a (W wc : World) (g : Nat) (vb : Value) (f : Nat → Value) (cs : Array Value) (K : Exit → Act → World → Prop) (HX0 : Aside0 (MB W g cs)) (HB : Aside0 (Below W.heap.size W wc)) (hi : (Try.prog.info? 32).map (·.size) = some cs.size) (HL : Aside0 (∀ W' : World, Below W.heap.size W W' → Calls Try.prog 9 #[.agg cs] W' (fun e w' => e = .returned (.bool false) ∧ Below W'.heap.size W' w')))
  (hK : Aside0 (∀ a W', RB g vb a → a.tmps[4]? = some (.bool true) → Below W.heap.size W W' → K .ret a W')) : Code.wp Try.prog (cl wb3) K (bfr g vb f) wc := by
 have HX := aK (HX0.out.below HB.out)
 unfold bfr
 conv => arg 2; whnf
 go_wp2_with (first | ((with_reducible refine gate_in [17] (by decide) ?_); refine load_row rfl 32 (.tmp 2) rfl g rfl cs 32 HX.out _ Try.underlying32 rfl hi ?_) | (go_at_call 9; (with_reducible refine (HL.out _ HB.out).mono ?_); rintro e wc ⟨rfl, hB⟩; have HB := aK (HB.out.trans (hB.mono HB.out.size)); have HX := aK (HX0.out.below HB.out); clear hB))
 exact hK.out _ wc ⟨rfl, rfl, rfl, rfl⟩ rfl HB.out
theorem wb_3b (W wc : World) (g : Nat) (vb : Value) (f : Nat → Value) (cs : Array Value) (K : Exit → Act → World → Prop) (HX0 : Aside0 (MB W g cs)) (HB : Aside0 (Below W.heap.size W wc)) (hi : (Try.prog.info? 32).map (·.size) = some cs.size) (HL : Aside0 (∀ W' : World, Below W.heap.size W W' → Calls Try.prog 9 #[.agg cs] W' (fun e w' => e = .returned (.bool true) ∧ Below W'.heap.size W' w'))) (A : Option Addr) (n c : Nat) (hvb : vb = .slice A n c) (hd : decide ((100000 : Int) < ((n : Nat) : Int)) = true)
  (hK : Aside0 (∀ a W', RB g vb a → a.tmps[4]? = some (.bool true) → Below W.heap.size W W' → K .ret a W')) : Code.wp Try.prog (cl wb3) K (bfr g vb f) wc := by
 have HX := aK (HX0.out.below HB.out)
 unfold bfr
 subst hvb
 conv => arg 2; whnf
 go_wp2_with (first | ((with_reducible refine gate_in [17] (by decide) ?_); refine load_row rfl 32 (.tmp 2) rfl g rfl cs 32 HX.out _ Try.underlying32 rfl hi ?_) | (go_at_call 9; (with_reducible refine (HL.out _ HB.out).mono ?_); rintro e wc ⟨rfl, hB⟩; have HB := aK (HB.out.trans (hB.mono HB.out.size)); have HX := aK (HX0.out.below HB.out); clear hB))
 exact hK.out _ wc ⟨rfl, rfl, rfl, rfl⟩ rfl HB.out
theorem wb_3c (W wc : World) (g : Nat) (vb : Value) (f : Nat → Value) (cs : Array Value) (K : Exit → Act → World → Prop) (HX0 : Aside0 (MB W g cs)) (HB : Aside0 (Below W.heap.size W wc)) (hi : (Try.prog.info? 32).map (·.size) = some cs.size) (HL : Aside0 (∀ W' : World, Below W.heap.size W W' → Calls Try.prog 9 #[.agg cs] W' (fun e w' => e = .returned (.bool true) ∧ Below W'.heap.size W' w'))) (A : Option Addr) (n c : Nat) (hvb : vb = .slice A n c) (hd : decide ((100000 : Int) < ((n : Nat) : Int)) = false)
  (hK : Aside0 (∀ a W', RB g vb a → Below W.heap.size W W' → K .normal a W')) : Code.wp Try.prog (cl wb3) K (bfr g vb f) wc := by
 have HX := aK (HX0.out.below HB.out)
 unfold bfr
 subst hvb
 conv => arg 2; whnf
 go_wp2_with (first | ((with_reducible refine gate_in [17] (by decide) ?_); refine load_row rfl 32 (.tmp 2) rfl g rfl cs 32 HX.out _ Try.underlying32 rfl hi ?_) | (go_at_call 9; (with_reducible refine (HL.out _ HB.out).mono ?_); rintro e wc ⟨rfl, hB⟩; have HB := aK (HB.out.trans (hB.mono HB.out.size)); have HX := aK (HX0.out.below HB.out); clear hB))
 exact hK.out _ wc ⟨rfl, rfl, rfl, rfl⟩ HB.out
theorem wb_5 (W wc : World) (g : Nat) (vb : Value) (f : Nat → Value) (cs : Array Value) (K : Exit → Act → World → Prop) (HX0 : Aside0 (MB W g cs)) (HB : Aside0 (Below W.heap.size W wc)) (hi : (Try.prog.info? 32).map (·.size) = some cs.size) (ok : Bool) (P : Value → World → Prop) (HE : Aside0 (∀ W' : World, Below W.heap.size W W' → Calls Try.prog 12 #[.agg cs] W' (fun e w' => ∃ v, e = .returned (.tuple #[v, .bool ok]) ∧ Below W'.heap.size W' w' ∧ P v w')))
  (hK : Aside0 (∀ a W' v, RB g vb a → a.tmps[5]? = some v → a.tmps[6]? = some (.bool ok) → P v W' → Below W.heap.size W W' → K .normal a W')) : Code.wp Try.prog (cl (cl wb5)) K (bfr g vb f) wc := by
 have HX := aK (HX0.out.below HB.out)
 unfold bfr
 conv => arg 2; whnf
 go_wp2_with (first | ((with_reducible refine gate_in [26] (by decide) ?_); refine load_row rfl 32 (.tmp 2) rfl g rfl cs 32 HX.out _ Try.underlying32 rfl hi ?_) | (go_at_call 12; (with_reducible refine (HE.out _ HB.out).mono ?_); rintro e wc ⟨v5, rfl, hB, hp⟩; have HP := aK hp; clear hp; have HB := aK (HB.out.trans (hB.mono HB.out.size)); have HX := aK (HX0.out.below HB.out); clear hB))
 exact hK.out _ wc _ ⟨rfl, rfl, rfl, rfl⟩ rfl rfl HP.out HB.out
theorem wb_6 (W wc : World) (g : Nat) (vb : Value) (f : Nat → Value) (cs : Array Value) (K : Exit → Act → World → Prop) (HX0 : Aside0 (MB W g cs)) (HB : Aside0 (Below W.heap.size W wc)) (v5 : Value) (ok : Bool) (h5 : f 5 = v5) (h6 : f 6 = .bool ok)
  (hK : Aside0 (∀ a, RB g vb a → a.tmps[5]? = some v5 → a.tmps[30]? = some (.bool ok) → K .normal a wc)) : Code.wp Try.prog (cl (cr (cl wb5))) K (bfr g vb f) wc := by
 have HX := aK (HX0.out.below HB.out)
 unfold bfr
 rw [h5, h6]
 conv => arg 2; whnf
 go_wp2_with (first | fail)
 exact hK.out _ ⟨rfl, rfl, rfl, rfl⟩ rfl rfl
theorem wb_7 (W wc : World) (g : Nat) (vb : Value) (f : Nat → Value) (cs : Array Value) (K : Exit → Act → World → Prop) (HX0 : Aside0 (MB W g cs)) (HB : Aside0 (Below W.heap.size W wc)) (v5 : Value) (h5 : f 5 = v5) (B : List Int) (HV : Aside0 (BRd wc v5 B)) (hl : B.length ≤ 140737488355328)
  (hK : Aside0 (∀ a W' v1, RB g vb a → a.tmps[7]? = some v1 → OwnB W' W.heap.size v1 B → Below W.heap.size W W' → K .normal a W')) : Code.wp Try.prog (cl wc7) K (bfr g vb f) wc := by
 have HX := aK (HX0.out.below HB.out)
 unfold bfr
 rw [h5]
 conv => arg 2; whnf
 go_wp2_with (first | ((with_reducible refine gate_in [31] (by decide) ?_); refine Kd.event_run rfl (v := .slice (some ⟨wc.heap.size, 0, none⟩) 0 0) (w1 := wc.alloc (.cells #[] 5 (0, 0))) (by first | (go_simp; done) | (go_simp; rfl)) ?_; have HO := aK (own_weaken (OwnB.lit wc) HB.out.size); have hB := below_alloc (Below.refl wc.heap.size wc) (.cells #[] 5 (0, 0)); have HV := aK (HV.out.below hB); have HB := aK (HB.out.trans (hB.mono HB.out.size)); have HX := aK (HX0.out.below HB.out); clear hB) | ((with_reducible refine gate_builtin (b := .append) rfl ?_); refine append_bytes W.heap.size rfl _ _ rfl _ v5 [] B rfl rfl HO.out HV.out HB.out HB.out.size (by simpa using hl) ?_; intro v1 wc ho hB; have HO := aK ho; have HB := aK hB; clear ho hB))
 exact hK.out _ wc _ ⟨rfl, rfl, rfl, rfl⟩ rfl HO.out HB.out
theorem wb_8 (W wc : World) (g : Nat) (vb : Value) (f : Nat → Value) (cs : Array Value) (K : Exit → Act → World → Prop) (HX0 : Aside0 (MB W g cs)) (HB : Aside0 (Below W.heap.size W wc)) (v7 : Value) (h7 : f 7 = v7) (er : Int) (P : Array Value → World → Prop) (HM : Aside0 (∀ cx W1 W2, P cx W1 → Below W1.heap.size W1 W2 → P cx W2)) (HD : Aside0 (∀ W' : World, Below W.heap.size W W' → Calls Try.prog 18 #[v7] W' (fun e w' => ∃ cx, e = .returned (.tuple #[.agg cx, .int .i64 er]) ∧ (cx.size = 26 ∧ OneAll cx) ∧ Below W'.heap.size W' w' ∧ P cx w')))
  (hK : Aside0 (∀ a W' gx cx, RB g vb a → a.tmps[7]? = some v7 → a.tmps[8]? = some (.pointer (some ⟨gx, 0, none⟩)) → a.tmps[9]? = some (.int .i64 er) → W'.heap[gx]? = some (.cells cx 35 (0, 0)) → (cx.size = 26 ∧ OneAll cx) → P cx W' → wc.heap.size ≤ gx → Below W.heap.size W W' → K .normal a W')) : Code.wp Try.prog (cl (cr wc7)) K (bfr g vb f) wc := by
 have HX := aK (HX0.out.below HB.out)
 unfold bfr
 rw [h7]
 conv => arg 2; whnf
 go_wp2_with (first | (go_at_call 18; (with_reducible refine (HD.out _ HB.out).mono ?_); rintro e wc ⟨cx, rfl, hs, hB, hp⟩; have HWS := aK hB.size; have HP := aK hp; have HS := aK hs; clear hp hs; have HB := aK (HB.out.trans (hB.mono HB.out.size)); have HX := aK (HX0.out.below HB.out); clear hB; have HBD := aK HB.out.size) | ((with_reducible refine gate_in [8] (by decide) ?_); refine alloc_row rfl 35 rfl _ (zero_msg _) ?_; intro gx wc hg hbox hB; have HG := aK hbox; have HGE := aK hg; have HD1 := aK hB; clear hg hbox; have HB := aK (HB.out.trans (hB.mono HB.out.size)); have HX := aK (HX0.out.below HB.out); clear hB) | ((with_reducible refine gate_store (t := 35) (p := 8) rfl ?_); refine store_row rfl 35 (.tmp 8) (.tmp 37) rfl gx rfl cx _ rfl 35 HG.out (HS.out.1.trans (msgC_size _ _).symm) (by rw [HS.out.1]; exact info_msg) HS.out.2 ?_; intro wc hX hO; have HG2 := aK hX; have HD2 := aK (below_only HD1.out hO HD1.out.size (fun k hk => by rw [hk, HGE.out]; exact Nat.le_refl _)); have HP3 := aK (HM.out _ _ _ HP.out HD2.out); have HB := aK (below_only HB.out hO HB.out.size (fun k hk => by rw [hk, HGE.out]; exact HBD.out)); have HX := aK (HX0.out.below HB.out); clear hX hO))
 exact hK.out _ wc gx cx ⟨rfl, rfl, rfl, rfl⟩ rfl rfl rfl HG2.out HS.out HP3.out (by rw [HGE.out]; exact HWS.out) HB.out
theorem wb_16 (W wc : World) (g : Nat) (vb : Value) (f : Nat → Value) (cs : Array Value) (K : Exit → Act → World → Prop) (HX0 : Aside0 (MB W g cs)) (HB : Aside0 (Below W.heap.size W wc)) (er : Int) (P : Array Value → World → Prop) (HM : Aside0 (∀ cx W1 W2, P cx W1 → Below W1.heap.size W1 W2 → P cx W2)) (HD : Aside0 (∀ W' : World, Below W.heap.size W W' → Calls Try.prog 18 #[vb] W' (fun e w' => ∃ cx, e = .returned (.tuple #[.agg cx, .int .i64 er]) ∧ (cx.size = 26 ∧ OneAll cx) ∧ Below W'.heap.size W' w' ∧ P cx w')))
  (hK : Aside0 (∀ a W' gx cx, RB g vb a → a.tmps[11]? = some (.pointer (some ⟨gx, 0, none⟩)) → a.tmps[12]? = some (.int .i64 er) → W'.heap[gx]? = some (.cells cx 35 (0, 0)) → (cx.size = 26 ∧ OneAll cx) → P cx W' → Below W.heap.size W W' → K .normal a W')) : Code.wp Try.prog (cl wb16) K (bfr g vb f) wc := by
 have HX := aK (HX0.out.below HB.out)
 unfold bfr
 conv => arg 2; whnf
 go_wp2_with (first | (go_at_call 18; (with_reducible refine (HD.out _ HB.out).mono ?_); rintro e wc ⟨cx, rfl, hs, hB, hp⟩; have HWS := aK hB.size; have HP := aK hp; have HS := aK hs; clear hp hs; have HB := aK (HB.out.trans (hB.mono HB.out.size)); have HX := aK (HX0.out.below HB.out); clear hB; have HBD := aK HB.out.size) | ((with_reducible refine gate_in [11] (by decide) ?_); refine alloc_row rfl 35 rfl _ (zero_msg _) ?_; intro gx wc hg hbox hB; have HG := aK hbox; have HGE := aK hg; have HD1 := aK hB; clear hg hbox; have HB := aK (HB.out.trans (hB.mono HB.out.size)); have HX := aK (HX0.out.below HB.out); clear hB) | ((with_reducible refine gate_store (t := 35) (p := 11) rfl ?_); refine store_row rfl 35 (.tmp 11) (.tmp 63) rfl gx rfl cx _ rfl 35 HG.out (HS.out.1.trans (msgC_size _ _).symm) (by rw [HS.out.1]; exact info_msg) HS.out.2 ?_; intro wc hX hO; have HG2 := aK hX; have HD2 := aK (below_only HD1.out hO HD1.out.size (fun k hk => by rw [hk, HGE.out]; exact Nat.le_refl _)); have HP3 := aK (HM.out _ _ _ HP.out HD2.out); have HB := aK (below_only HB.out hO HB.out.size (fun k hk => by rw [hk, HGE.out]; exact HBD.out)); have HX := aK (HX0.out.below HB.out); clear hX hO))
 exact hK.out _ wc gx cx ⟨rfl, rfl, rfl, rfl⟩ rfl rfl HG2.out HS.out HP3.out HB.out
theorem wb_9 (W wc : World) (g : Nat) (vb : Value) (f : Nat → Value) (cs : Array Value) (K : Exit → Act → World → Prop) (HX0 : Aside0 (MB W g cs)) (HB : Aside0 (Below W.heap.size W wc)) (A : Option Addr) (n c : Nat) (v8 v9 : Value) (h7 : f 7 = .slice A n c) (h8 : f 8 = v8) (h9 : f 9 = v9)
  (hK : Aside0 (∀ a, RB g vb a → a.tmps[7]? = some (.slice A n c) → a.tmps[8]? = some v8 → a.tmps[9]? = some v9 → a.tmps[40]? = some (.int .i64 ((n : Nat) : Int)) → a.tmps[41]? = some (.int .i64 ((0 : Nat) : Int)) → K .normal a wc)) : Code.wp Try.prog (cl (cl (cr (cr wc7)))) K (bfr g vb f) wc := by
 have HX := aK (HX0.out.below HB.out)
 unfold bfr
 rw [h7, h8, h9]
 conv => arg 2; whnf
 go_wp2_with (first | fail)
 exact hK.out _ ⟨rfl, rfl, rfl, rfl⟩ rfl rfl rfl rfl rfl
theorem wb_le (W wc : World) (g : Nat) (vb : Value) (f : Nat → Value) (cs : Array Value) (K : Exit → Act → World → Prop) (HX0 : Aside0 (MB W g cs)) (HB : Aside0 (Below W.heap.size W wc)) (q n c i : Nat) (v8 v9 : Value) (h7 : f 7 = .slice (some ⟨q, 0, none⟩) n c) (h8 : f 8 = v8) (h9 : f 9 = v9) (h40 : f 40 = .int .i64 ((n : Nat) : Int)) (h41 : f 41 = .int .i64 ((i : Nat) : Int)) (hd : decide ((i : Int) < ((n : Nat) : Int)) = false)
  (hK : Aside0 (∀ a, RB g vb a → a.tmps[8]? = some v8 → a.tmps[9]? = some v9 → K (.exit 0) a wc)) : Code.wp Try.prog (cl (cl (cr (cl (cr (cr wc7)))))) K (bfr g vb f) wc := by
 have HX := aK (HX0.out.below HB.out)
 unfold bfr
 rw [h7, h8, h9, h40, h41]
 have hq := eq_false (of_decide_eq_false hd)
 have hn := eq_false (show ¬ i < n by have := of_decide_eq_false hd; omega)
 conv => arg 2; whnf
 go_wp2_with (first | fail)
 first | exact hK.out _ ⟨rfl, rfl, rfl, rfl⟩ rfl rfl | (all_goals first | exact ⟨rfl, rfl, rfl, rfl⟩ | rfl)
theorem wb_ls (W wc : World) (g : Nat) (vb : Value) (f : Nat → Value) (cs : Array Value) (K : Exit → Act → World → Prop) (HX0 : Aside0 (MB W g cs)) (HB : Aside0 (Below W.heap.size W wc)) (q n c i : Nat) (v8 v9 : Value) (h7 : f 7 = .slice (some ⟨q, 0, none⟩) n c) (h8 : f 8 = v8) (h9 : f 9 = v9) (h40 : f 40 = .int .i64 ((n : Nat) : Int)) (h41 : f 41 = .int .i64 ((i : Nat) : Int)) (hi : i < n) (hn : n ≤ 1000000000) (cur : Array Value) (y : Int) (HQ : Aside0 (wc.heap[q]? = some (.cells cur 5 (0, 0)))) (HY : Aside0 (cur[i]? = some (.int .u8 y)))
  (hK : Aside0 (∀ a, RB g vb a → a.tmps[7]? = some (.slice (some ⟨q, 0, none⟩) n c) → a.tmps[8]? = some v8 → a.tmps[9]? = some v9 → a.tmps[40]? = some (.int .i64 ((n : Nat) : Int)) → a.tmps[41]? = some (.int .i64 ((i + 1 : Nat) : Int)) → K .normal a (wc.setCell ⟨q, i, none⟩ (.int .u8 (IntKind.u8.wrap (y + 1)))))) : Code.wp Try.prog (cl (cl (cr (cl (cr (cr wc7)))))) K (bfr g vb f) wc := by
 have HX := aK (HX0.out.below HB.out)
 unfold bfr
 rw [h7, h8, h9, h40, h41]
 have HI := aK hi
 have hd : decide ((i : Int) < ((n : Nat) : Int)) = true := by simp; omega
 have hp := eq_true (show (0 : Int) ≤ (i : Int) by omega)
 have hq := eq_true (show (i : Int) < ((n : Nat) : Int) by omega)
 have hw : IntKind.i64.wrap ((i : Int) + 1) = ((i + 1 : Nat) : Int) := by rw [IntKind.wrap_i64]; omega
 clear hi hn
 conv => arg 2; whnf
 go_wp2_with (first | ((with_reducible refine gate_in [46, 49] (by decide) ?_); refine Kd.event_run rfl (run_index HI.out) ?_) | ((with_reducible refine gate_in [47] (by decide) ?_); refine ldq (T := 5) (q := ⟨q, i, none⟩) (v := .int .u8 y) rfl rfl ((blk_cell HQ.out i).trans HY.out) rfl Try.underlying5 rfl ?_) | ((with_reducible refine gate_store (t := 5) (p := 49) rfl ?_); refine wpList_plain rfl (fun K2 hK2 => wp_store1 (g := q) (i := i) (c := .int .u8 y) (u := IntKind.u8.wrap (y + 1)) _ _ rfl rfl rfl ((blk_cell HQ.out i).trans HY.out) (blk_frozen HQ.out i) (hK2 _ _ ?_))))
 exact hK.out _ ⟨rfl, rfl, rfl, rfl⟩ rfl rfl rfl rfl (by first | rfl | (rw [← hw]; rfl) | (simp; done))
theorem wb_14 (wc : World) (g : Nat) (vb : Value) (f : Nat → Value) (cs cx : Array Value) (gx : Nat) (K : Exit → Act → World → Prop) (HX : MB wc g cs) (HG : wc.heap[gx]? = some (.cells cx 35 (0, 0))) (hs : cs.size = 26) (hx : cx.size = 26) (hP : ∀ c a d v w, K (.panic c) (a.put d v) w → K (.panic c) a w)
  (h8 : f 8 = .pointer (some ⟨gx, 0, none⟩)) (h9 : f 9 = .int .i64 0)
  (HT : ∀ W', Below wc.heap.size wc W' → Calls Try.prog 16 #[.agg cx] W' (fun e w' => e = .returned (.agg cx) ∧ Below W'.heap.size W' w'))
  (HS : ∀ W', Below wc.heap.size wc W' → Calls Try.prog 15 #[.agg cx, .agg cs] W' (fun e w' => e = .returned (.bool true) ∧ Below W'.heap.size W' w'))
  (hK : Aside0 (∀ a W', RB g vb a → a.tmps[59]? = some (.bool false) → Below wc.heap.size wc W' → K .normal a W')) : Code.wp Try.prog (cl wc14) K (bfr g vb f) wc := by
 have FX : ∀ W', Below wc.heap.size wc W' → W'.heap[gx]? = some (.cells cx 35 (0, 0)) := fun W' hB => (hB.block gx (blk_lt HG)).trans HG
 have FM : ∀ W', Below wc.heap.size wc W' → W'.heap[g]? = some (.cells cs 32 (0, 0)) := fun W' hB => HX.below hB
 unfold bfr
 rw [h8, h9]
 conv => arg 2; whnf
 refine wp_region_held_drew (S := fun W' => Below wc.heap.size wc W') (by kernel_rfl) ((Below.refl _ _).drew) (fun hHeld => ?_)
 refine tkH 0 51 (.int .i64 0) rfl rfl (by kernel_rfl) (fun c a d v w h => hP c a d v w h) ‹_› (by rfl) (by intro W2 hSW; go_simp; (try with_reducible rfl)) ?_; try simp only [Act.put, aS, aZ, aC]
 refine tkH 1 52 (.bool false) rfl rfl (by kernel_rfl) (fun c a d v w h => hP c a d v w h) ‹_› (by rfl) (by intro W2 hSW; go_simp; (try with_reducible rfl)) ?_; try simp only [Act.put, aS, aZ, aC]
 refine tkH 2 53 (.bool false) rfl rfl (by kernel_rfl) (fun c a d v w h => hP c a d v w h) ‹_› (by rfl) (by intro W2 hSW; go_simp; (try with_reducible rfl)) ?_; try simp only [Act.put, aS, aZ, aC]
 refine tkH 3 54 (.agg cx) rfl rfl (by kernel_rfl) (fun c a d v w h => hP c a d v w h) ‹_› (by rfl) (by exact fun W2 hSW => run_load_mid rfl (g := gx) (off := 0) rfl cx.toList (fun j v hj => by rw [Nat.zero_add]; exact (blk_cell (FX W2 hSW) j).trans (by simpa using hj)) Try.underlying35 rfl (by rw [Array.length_toList, hx]; exact info_msg)) ?_; try simp only [Act.put, aS, aZ, aC]
 refine tkH 5 56 (.agg cs) rfl rfl (by kernel_rfl) (fun c a d v w h => hP c a d v w h) ‹_› (by rfl) (by exact fun W2 hSW => run_load_mid rfl (g := g) (off := 0) rfl cs.toList (fun j v hj => by rw [Nat.zero_add]; exact (blk_cell (FM W2 hSW) j).trans (by simpa using hj)) Try.underlying32 rfl (by rw [Array.length_toList, hs]; exact info_rmsg)) ?_; try simp only [Act.put, aS, aZ, aC]
 refine callH 4 55 rfl rfl (by kernel_rfl) (by rfl) Try.func16 (by kernel_rfl) #[.agg cx] rfl (by simp only [List.map_toArray, List.map_cons, List.map_nil]; rfl) ((HT _ ‹_›).mono ?_); rintro e W2 ⟨rfl, hB⟩; have hHeld := Below.trans ‹_› (hB.mono (Below.size ‹_›)); refine ⟨_, rfl, hHeld, ?_⟩; clear hB; try simp only [Act.put, aS, aZ, aC]
 refine callH 6 57 rfl rfl (by kernel_rfl) (by rfl) Try.func15 (by kernel_rfl) #[.agg cx, .agg cs] rfl (by simp only [List.map_toArray, List.map_cons, List.map_nil]; rfl) ((HS _ ‹_›).mono ?_); rintro e W2 ⟨rfl, hB⟩; have hHeld := Below.trans ‹_› (hB.mono (Below.size ‹_›)); refine ⟨_, rfl, hHeld, ?_⟩; clear hB; try simp only [Act.put, aS, aZ, aC]
 refine tkH 7 58 (.bool false) rfl rfl (by kernel_rfl) (fun c a d v w h => hP c a d v w h) ‹_› (by rfl) (by intro W2 hSW; go_simp; (try with_reducible rfl)) ?_; try simp only [Act.put, aS, aZ, aC]
 refine tkH 8 59 (.bool false) rfl rfl (by kernel_rfl) (fun c a d v w h => hP c a d v w h) ‹_› (by rfl) (by intro W2 hSW; go_simp; (try with_reducible rfl)) ?_; try simp only [Act.put, aS, aZ, aC]
 refine wpAnyH_done (by kernel_rfl) ?_ _
 exact hK.out _ _ ⟨rfl, rfl, rfl, rfl⟩ rfl ‹_›
theorem wb_17 (W wc : World) (g : Nat) (vb : Value) (f : Nat → Value) (cs : Array Value) (K : Exit → Act → World → Prop) (HX0 : Aside0 (MB W g cs)) (HB : Aside0 (Below W.heap.size W wc)) (gx : Nat) (er : Int) (b : Bool) (hb : (er != 0) = b) (h11 : f 11 = .pointer (some ⟨gx, 0, none⟩)) (h12 : f 12 = .int .i64 er)
  (hK : Aside0 (∀ a, RB g vb a → a.tmps[11]? = some (.pointer (some ⟨gx, 0, none⟩)) → a.tmps[12]? = some (.int .i64 er) → a.tmps[66]? = some (.bool b) → K .normal a wc)) : Code.wp Try.prog (cl (cl (cr wb16))) K (bfr g vb f) wc := by
 have HX := aK (HX0.out.below HB.out)
 unfold bfr
 rw [h11, h12]
 conv => arg 2; whnf
 go_wp2_with (first | fail)
 exact hK.out _ ⟨rfl, rfl, rfl, rfl⟩ rfl rfl (by rw [← hb]; rfl)
theorem build_zero {o : Oper} {ρ : Operand → Value} (W : World) (ho : o.op = .build 35 #[]) : (execOp ρ o).run Try.prog W = .ok (.value (.agg (msgC zeroC nils))) W := by
 have h := zero_msg W
 unfold execOp
 simp only [ho]
 simp [Instr.build, Sem.run_bind, h, Instr.fill, Value.cells]
theorem wb_18 (W wc : World) (g : Nat) (vb : Value) (f : Nat → Value) (cs : Array Value) (K : Exit → Act → World → Prop) (HX0 : Aside0 (MB W g cs)) (HB : Aside0 (Below W.heap.size W wc)) (gx : Nat) (cx : Array Value) (hx : cx.size = 26) (HG : Aside0 (wc.heap[gx]? = some (.cells cx 35 (0, 0)))) (h11 : f 11 = .pointer (some ⟨gx, 0, none⟩)) (h12 : f 12 = .int .i64 2) (HS : Aside0 (∀ W', Below W.heap.size W W' → Below wc.heap.size wc W' → Calls Try.prog 17 #[.agg cx, .agg (msgC zeroC nils)] W' (fun e w' => e = .returned (.bool true) ∧ Below W'.heap.size W' w')))
  (hK : Aside0 (∀ a W', RB g vb a → a.tmps[4]? = some (.bool true) → Below W.heap.size W W' → K .ret a W')) : Code.wp Try.prog (c1 (cr (cl (cr wb16)))) K (bfr g vb f) wc := by
 have HX := aK (HX0.out.below HB.out)
 unfold bfr
 rw [h11, h12]
 conv => arg 2; whnf
 go_wp2_with (first | ((with_reducible refine gate_in [70] (by decide) ?_); refine gate_guard rfl ?_; refine load_row rfl 35 (.tmp 11) rfl gx rfl cx 35 HG.out _ Try.underlying35 rfl (by rw [hx]; exact info_msg) ?_) | ((with_reducible refine gate_in [71] (by decide) ?_); refine gate_guard rfl ?_; refine Kd.event_run rfl (build_zero _ rfl) ?_) | (go_at_call 17; (with_reducible refine (HS.out _ HB.out (Below.refl _ _)).mono ?_); rintro e wc ⟨rfl, hB⟩; have HB := aK (HB.out.trans (hB.mono HB.out.size)); have HX := aK (HX0.out.below HB.out); clear hB))
 exact hK.out _ wc ⟨rfl, rfl, rfl, rfl⟩ rfl HB.out
theorem wb_19 (W wc : World) (g : Nat) (vb : Value) (f : Nat → Value) (cs : Array Value) (K : Exit → Act → World → Prop) (HX0 : Aside0 (MB W g cs)) (HB : Aside0 (Below W.heap.size W wc)) (gx : Nat) (cx : Array Value) (hx : cx.size = 26) (HG : Aside0 (wc.heap[gx]? = some (.cells cx 35 (0, 0)))) (h11 : f 11 = .pointer (some ⟨gx, 0, none⟩)) (P : Value → World → Prop) (HE : Aside0 (∀ W', Below wc.heap.size wc W' → Calls Try.prog 11 #[.agg cx] W' (fun e w' => ∃ v, e = .returned (.tuple #[v, .int .i64 0]) ∧ Below W'.heap.size W' w' ∧ P v w')))
  (hK : Aside0 (∀ a W' v, RB g vb a → a.tmps[13]? = some v → a.tmps[14]? = some (.int .i64 0) → P v W' → Below W.heap.size W W' → K .normal a W')) : Code.wp Try.prog (cl (cr (cr wb16))) K (bfr g vb f) wc := by
 have HX := aK (HX0.out.below HB.out)
 unfold bfr
 rw [h11]
 conv => arg 2; whnf
 go_wp2_with (first | ((with_reducible refine gate_in [75] (by decide) ?_); refine load_row rfl 35 (.tmp 11) rfl gx rfl cx 35 HG.out _ Try.underlying35 rfl (by rw [hx]; exact info_msg) ?_) | (go_at_call 11; (with_reducible refine (HE.out _ (Below.refl _ _)).mono ?_); rintro e wc ⟨v13, rfl, hB, hp⟩; have HP := aK hp; clear hp; have HB := aK (HB.out.trans (hB.mono HB.out.size)); have HX := aK (HX0.out.below HB.out); clear hB))
 exact hK.out _ wc _ ⟨rfl, rfl, rfl, rfl⟩ rfl rfl HP.out HB.out
theorem wb_20 (W wc : World) (g : Nat) (vb : Value) (f : Nat → Value) (cs : Array Value) (K : Exit → Act → World → Prop) (HX0 : Aside0 (MB W g cs)) (HB : Aside0 (Below W.heap.size W wc)) (v13 : Value) (h13 : f 13 = v13) (h14 : f 14 = .int .i64 0) (HS : Aside0 (∀ W', Below wc.heap.size wc W' → Calls Try.prog 14 #[vb, v13] W' (fun e w' => e = .returned (.bool true) ∧ Below W'.heap.size W' w')))
  (hK : Aside0 (∀ a W', RB g vb a → a.tmps[4]? = some (.bool true) → Below W.heap.size W W' → K .ret a W')) : Code.wp Try.prog (cr (cr (cr wb16))) K (bfr g vb f) wc := by
 have HX := aK (HX0.out.below HB.out)
 unfold bfr
 rw [h13, h14]
 conv => arg 2; whnf
 go_wp2_with (first | (go_at_call 14; (with_reducible refine (HS.out _ (Below.refl _ _)).mono ?_); rintro e wc ⟨rfl, hB⟩; have HB := aK (HB.out.trans (hB.mono HB.out.size)); have HX := aK (HX0.out.below HB.out); clear hB))
 exact hK.out _ wc ⟨rfl, rfl, rfl, rfl⟩ rfl HB.out
def DM (m : M) (B : Nat) (cx : Array Value) (W : World) : Prop := ∃ sv, cx = msgC m.c sv ∧ MsgRd W (.agg cx) m sv ∧ ∀ j fs, (j, fs) ∈ lists → ∀ k, arr (sv j) = some k → m.L j ≠ [] → B ≤ k
theorem DM.below {m : M} {B : Nat} : ∀ cx W1 W2, DM m B cx W1 → Below W1.heap.size W1 W2 → DM m B cx W2 := fun cx W1 W2 ⟨sv, h1, h2, h3⟩ hB => ⟨sv, h1, h2.below hB, h3⟩
theorem dec_dm {l : List Int} {m : M} {er : Int} (hd : decM l = (m, er)) (B : Nat) (w : World) (hBw : B ≤ w.heap.size) (v : Value) (h : BRd w v l) (hb : ∀ x ∈ l, Pk.IsB x) (hl : l.length ≤ 9000000000) :
  Calls Try.prog 18 #[v] w (fun e w' => ∃ cx, e = .returned (.tuple #[.agg cx, .int .i64 er]) ∧ (cx.size = 26 ∧ OneAll cx) ∧ Below w.heap.size w w' ∧ DM m B cx w') := by
 refine (decode_c w v l h hb hl).mono ?_
 rintro e w' ⟨hB, v', rfl, sv, hM, hk⟩
 rw [hd] at hM hk ⊢
 have e := hM.eq
 unfold msgV at e
 subst e
 exact ⟨_, rfl, ⟨msgC_size _ _, hM.one⟩, hB, sv, rfl, hM, fun j fs hj k h1 h2 => Nat.le_trans hBw (hk j fs hj k h1 h2)⟩
theorem ev_t {a : Act} {k : Nat} {v : Value} (h : a.tmps[k]? = some v) : a.eval (.tmp k) = v := ev_tmp h
theorem dec_cases (l : List Int) : (∃ p, openL l = some p ∧ rdOk p = true ∧ decM l = (rdM p, 0)) ∨ decM l = (zeroM, 2) := by
 unfold decM
 cases ho : openL l with
 | none => exact .inr rfl
 | some p =>
  cases hr : rdOk p with
  | true => exact .inl ⟨p, rfl, hr, by simp [hr]⟩
  | false => exact .inr (by simp [hr])
theorem back_16 (w1 : World) (g : Nat) (vb : Value) (cs : Array Value) (l : List Int) (Q : Exit → Act → World → Prop) (hX : MB w1 g cs) (hb : BRd w1 vb l) (hI : ∀ x ∈ l, Pk.IsB x) (hlen : l.length ≤ 100000)
  (yes : ∀ a W, RB g vb a → a.tmps[4]? = some (.bool true) → Below w1.heap.size w1 W → Q .ret a W) (a : Act) (W : World) (hF : RB g vb a) (hB : Below w1.heap.size w1 W) : wb16.wp Try.prog Q a W := by
 have hX' := aK hX
 rcases dec_cases l with ⟨p, ho, hk, hd⟩ | hd
 ·obtain ⟨hok, hs, _⟩ := PFr.openL_some ho
  obtain ⟨hpb, _⟩ := openL_isB ho hI
  refine hF.wp (fun f hf => wp_seq (x := cl wb16) (y := cr wb16) (wb_16 w1 W g vb f cs _ hX' (aK hB) 0 (DM (rdM p) 0) (aK DM.below) (aK (fun W' hW' => dec_dm hd 0 W' (Nat.zero_le _) vb (hb.below hW') hI (by omega))) (aK (fun a W gx cx k1 k11 k12 hG hsz hP hB => ?_))))
  obtain ⟨sv, rfl, hM, _⟩ := hP
  refine k1.wp (fun f hf => wp_seq (x := cl (cr wb16)) (y := cr (cr wb16)) (wp_seq (x := cl (cl (cr wb16))) (y := cr (cl (cr wb16))) (wb_17 w1 W g vb f cs _ hX' (aK hB) gx 0 false rfl (hf 11 _ k11) (hf 12 _ k12) (aK (fun a k1 k11 k12 k66 => ?_)))))
  refine wp_cond_false (c := .tmp 66) (x := c1 (cr (cl (cr wb16)))) (y := .skip) (ev_t k66) (wp_skip ?_)
  show Code.wp Try.prog (cr (cr wb16)) Q a W
  have hdec := rd_dec hpb hk hM.typed hM.fit
  have hsm := rd_small hpb hk hM.typed hM.fit
  refine k1.wp (fun f hf => wp_seq (x := cl (cr (cr wb16))) (y := cr (cr (cr wb16))) (wb_19 w1 W g vb f cs _ hX' (aK hB) gx _ hsz.1 (aK hG) (hf 11 _ k11) (fun v W => BRd W v l) (aK (fun W' hW' => (encode_yes W' _ _ sv (hM.below hW') hsm hdec.2.2).mono ?_)) (aK (fun a W v k1 k13 k14 hv hB => ?_))))
  ·rintro e w' ⟨hB, v, rfl, hv⟩
   rw [sealA_ok hM.typed hdec.2.2, hdec.2.1, ← hs] at hv ⊢
   exact ⟨v, rfl, hB, hv⟩
  ·exact k1.wp (fun f hf => wb_20 w1 W g vb f cs _ hX' (aK hB) v (hf 13 _ k13) (hf 14 _ k14) (aK (fun W' hW' => isB_true rfl (bsame_c W' vb v l l (hb.below (hB.trans (hW'.mono hB.size))) (hv.below hW') hI hI))) (aK yes))
 ·refine hF.wp (fun f hf => wp_seq (x := cl wb16) (y := cr wb16) (wb_16 w1 W g vb f cs _ hX' (aK hB) 2 (DM zeroM 0) (aK DM.below) (aK (fun W' hW' => dec_dm hd 0 W' (Nat.zero_le _) vb (hb.below hW') hI (by omega))) (aK (fun a W gx cx k1 k11 k12 hG hsz hP hB => ?_))))
  obtain ⟨sv, rfl, hM, _⟩ := hP
  refine k1.wp (fun f hf => wp_seq (x := cl (cr wb16)) (y := cr (cr wb16)) (wp_seq (x := cl (cl (cr wb16))) (y := cr (cl (cr wb16))) (wb_17 w1 W g vb f cs _ hX' (aK hB) gx 2 true rfl (hf 11 _ k11) (hf 12 _ k12) (aK (fun a k1 k11 k12 k66 => ?_)))))
  refine wp_cond_true (c := .tmp 66) (x := c1 (cr (cl (cr wb16)))) (y := .skip) (ev_t k66) ?_
  refine k1.wp (fun f hf => wb_18 w1 W g vb f cs _ hX' (aK hB) gx _ hsz.1 (aK hG) (hf 11 _ k11) (hf 12 _ k12) (aK (fun W' hW1 hW' => isB_true ⟨fun _ _ => rfl, fun _ _ _ => rfl⟩ (wireSame_c W' _ _ zeroM zeroM sv nils (hM.below hW') (zero_rd W') (fun _ => Nat.zero_le _) (fun _ => Nat.zero_le _)))) (aK yes))
theorem back_7 (w1 : World) (g : Nat) (va vb : Value) (m : M) (sv : Nat → Value) (Q : Exit → Act → World → Prop) (hX : MB w1 g (msgC m.c sv)) (h : MsgRd w1 va m sv) (hs : Small m) (hr : RightM m)
  (hP : ∀ c a d v w, Q (.panic c) (a.put d v) w → Q (.panic c) a w)
  (hQ : ∀ a W, RB g vb a → Below w1.heap.size w1 W → Q .normal a W) (a : Act) (W : World) (v5 : Value) (hF : RB g vb a) (h5 : a.tmps[5]? = some v5) (hv : BRd W v5 (sealL (payB m))) (hB : Below w1.heap.size w1 W) : wc7.wp Try.prog Q a W := by
 have hX' := aK hX
 have hok := pay_ok h.typed hr.1
 have hpb := payB_isB hs
 have hlp : (sealL (payB m)).length = (payB m).length + 8 := by rw [PFr.sealL_length]; omega
 have hsI : ∀ x ∈ sealL (payB m), Pk.IsB x := PFr.sealL_isB hpb
 have hlen : (sealL (payB m)).length ≤ 1000000 := by unfold Ok at hok; omega
 have hd : decM (sealL (payB m)) = (rdM (payB m), 0) := by
  unfold decM
  rw [PFr.openL_sealL hok]
  simp [hr.2.1]
 have hpos : 0 < (sealL (payB m)).length := by omega
 generalize sealL (payB m) = B at *
 refine hF.wp (fun f hf => wp_seq (x := cl wc7) (y := cr wc7) (wb_7 w1 W g vb f _ _ hX' (aK hB) v5 (hf 5 _ h5) B (aK hv) (by omega) (aK (fun a W v1 k1 k7 hO hB => ?_))))
 have hX2 := aK (hX.below hB)
 have hrd := OwnB.rd hO
 obtain ⟨q, c, cur, rfl, hq1, hq2, hq3, hq4⟩ : ∃ q c cur, v1 = .slice (some ⟨q, 0, none⟩) B.length c ∧ w1.heap.size ≤ q ∧ W.heap[q]? = some (.cells cur 5 (0, 0)) ∧ B.length ≤ c ∧ ∀ i, i < B.length → ∃ y, cur[i]? = some (.int .u8 y) := by
  rcases hO.2 with ⟨rfl, h0⟩ | ⟨q, cap, cur, e, hb, hg, hc, _, _, h6⟩
  ·omega
  ·refine ⟨q, cap, cur, e, hb, hg, hc, fun i hi => ?_⟩
   have hc := own_cell hg h6 hi
   rw [blk_cell hg i] at hc
   exact ⟨_, hc⟩
 have hqlt : q < W.heap.size := blk_lt hq2
 refine k1.wp (fun f hf => wp_seq (x := cl (cr wc7)) (y := cr (cr wc7)) (wb_8 W W g vb f _ _ hX2 (aK (Below.refl _ _)) _ (hf 7 _ k7) 0 (DM (rdM (payB m)) W.heap.size) (aK DM.below) (aK (fun W' hW' => dec_dm hd W.heap.size W' hW'.size _ (hrd.below hW') hsI (by omega))) (aK (fun a W2 gx cx k1 k7 k8 k9 hG hsz hPx hgx hB2 => ?_))))
 obtain ⟨sx, rfl, hM, hfar⟩ := hPx
 have hB12 : Below w1.heap.size w1 W2 := hB.trans (hB2.mono hB.size)
 have hq2' : W2.heap[q]? = some (.cells cur 5 (0, 0)) := (hB2.block q hqlt).trans hq2
 refine k1.wp (fun f hf => wp_seq (x := cl (cr (cr wc7))) (y := wc14) (wp_seq (x := cl (cl (cr (cr wc7)))) (y := cr (cl (cr (cr wc7)))) (wb_9 w1 W2 g vb f _ _ hX' (aK hB12) _ B.length c _ _ (hf 7 _ k7) (hf 8 _ k8) (hf 9 _ k9) (aK (fun a0 j1 j7 j8 j9 j40 j41 => ?_)))))
 refine wp_block (id := 0) (c := cl (cr (cl (cr (cr wc7))))) ?_
 refine wp_loop (c := cl (cl (cr (cl (cr (cr wc7)))))) (fun a W3 => RB g vb a ∧ a.tmps[7]? = some (.slice (some ⟨q, 0, none⟩) B.length c) ∧ a.tmps[8]? = some (.pointer (some ⟨gx, 0, none⟩)) ∧ a.tmps[9]? = some (.int .i64 0) ∧ a.tmps[40]? = some (.int .i64 ((B.length : Nat) : Int)) ∧ ∃ i : Nat, i ≤ B.length ∧ a.tmps[41]? = some (.int .i64 (i : Int)) ∧ Only (· = q) W2 W3 ∧ ∃ cur, W3.heap[q]? = some (.cells cur 5 (0, 0)) ∧ ∀ i, i < B.length → ∃ y, cur[i]? = some (.int .u8 y)) (fun a _ => B.length - ctr (a.tmps[41]?))
  ⟨j1, j7, j8, j9, j40, 0, by omega, j41, Only.refl _ _, cur, hq2', hq4⟩ ?_
 rintro a W3 ⟨j1, j7, j8, j9, j40, i, hi, j41, hO3, cur3, hc3, hy3⟩
 have hB13 : Below w1.heap.size w1 W3 := below_only hB12 hO3 hB12.size (fun k hk => by rw [hk]; exact hq1)
 by_cases hil : i = B.length
 ·refine j1.wp (fun f hf => wb_le w1 W3 g vb f _ _ hX' (aK hB13) q B.length c i _ _ (hf 7 _ j7) (hf 8 _ j8) (hf 9 _ j9) (hf 40 _ j40) (hf 41 _ j41) (by rw [hil]; simp) (aK (fun a j1 j8 j9 => ?_)))
  show (if (0 : Nat) = 0 then Code.wp Try.prog wc14 Q a W3 else Q (.exit 0) a W3)
  rw [if_pos rfl]
  have hG3 : W3.heap[gx]? = some (.cells (msgC (rdM (payB m)).c sx) 35 (0, 0)) := (hO3.block gx (blk_lt hG) (fun e => by have e' : gx = q := e; omega)).trans hG
  have hM3 : MsgRd W3 (.agg (msgC (rdM (payB m)).c sx)) (rdM (payB m)) sx := hM.only hO3 (fun j fs hj k h1 h2 e => by
   have e' : k = q := e
   have := hfar j fs hj k h1 h2
   omega)
  have hsx := rd_small hpb hr.2.1 hM.typed hM.fit
  have hme : MEq (rdM (payB m)) m := ⟨fun i hi => (hr.2.2.1 i hi).symm, fun j fs hj => (hr.2.2.2 j fs hj).symm⟩
  have ev := h.eq
  unfold msgV at ev
  refine j1.wp (fun f hf => wp_seq (x := cl wc14) (y := cr wc14) (wb_14 W3 g vb f (msgC m.c sv) _ gx _ (hX.below hB13) hG3 (msgC_size _ _) hsz.1 (fun c a d v w h => hP c a d v w h) (hf 8 _ j8) (hf 9 _ j9)
   (fun W' hW' => told_c W' _ _ sx (hM3.below hW'))
   (fun W' hW' => isB_true hme (refSame_c W' _ _ _ m sx sv (hM3.below hW') (ev ▸ h.below (hB13.trans (hW'.mono hB13.size))) hsx.few hs.few))
   (aK (fun a W4 k1 k59 hB4 => ?_))))
  exact wp_cond_false (c := .tmp 59) (x := c1 (cr wc14)) (y := .skip) (ev_t k59) (wp_skip (hQ a W4 k1 (hB13.trans (hB4.mono hB13.size))))
 ·have hlt : i < B.length := by omega
  obtain ⟨y, hy⟩ := hy3 i hlt
  refine j1.wp (fun f hf => wb_ls w1 W3 g vb f _ _ hX' (aK hB13) q B.length c i _ _ (hf 7 _ j7) (hf 8 _ j8) (hf 9 _ j9) (hf 40 _ j40) (hf 41 _ j41) hlt (by omega) cur3 y (aK hc3) (aK hy) (aK (fun a2 i1 i7 i8 i9 i40 i41 => ⟨⟨i1, i7, i8, i9, i40, i + 1, by omega, i41, hO3.trans (only_setCell q i _ W3) (fun _ _ h => h), cur3.setIfInBounds i (.int .u8 (IntKind.u8.wrap (y + 1))), ?_, fun j hj => ?_⟩, ?_⟩)))
  ·exact blk_setCells (g := q) [.int .u8 (IntKind.u8.wrap (y + 1))] i W3 cur3 hc3
  ·by_cases hji : j = i
   ·subst hji
    have hsz : j < cur3.size := (Array.getElem?_eq_some_iff.1 hy).1
    exact ⟨IntKind.u8.wrap (y + 1), by rw [Array.getElem?_setIfInBounds_self_of_lt hsz]⟩
   ·obtain ⟨y2, hy2⟩ := hy3 j hj
    exact ⟨y2, by rw [Array.getElem?_setIfInBounds_ne (Ne.symm hji)]; exact hy2⟩
  ·show B.length - ctr (a2.tmps[41]?) < B.length - ctr (a.tmps[41]?)
   rw [i41, j41]
   show B.length - (((i + 1 : Nat) : Int)).toNat < B.length - ((i : Nat) : Int).toNat
   omega
theorem back_c (w : World) (va vb : Value) (m : M) (sv : Nat → Value) (l : List Int) (h : MsgRd w va m sv) (hn : Neat m) (hb : BRd w vb l) (hI : ∀ x ∈ l, Pk.IsB x) : Calls Try.prog 4 #[va, vb] w (IsYes w) := by
 have hi : (Try.prog.info? 32).map (·.size) = some (msgC m.c sv).size := info_rmsg
 have ev := h.eq
 unfold msgV at ev
 subst ev
 refine calls_of_wp (c := wb0) Try.func4 rfl ?_
 refine wp_seq (x := cl wb0) (y := wb1) (wb_0 w vb _ _ (fun g a1 w1 hX hF hB1 => ?_))
 show wb1.wp Try.prog _ a1 w1
 have yes : ∀ a W, RB g vb a → a.tmps[4]? = some (.bool true) → Below w1.heap.size w1 W → bodyPost Try.prog Try.f4 (IsYes w) .ret a W := fun a W k1 k4 k => by
  refine bodyPost_ret (results_tmp (t := 4) rfl a.tmps _ W) k1.defers ?_
  rw [getD_of k4]
  exact ⟨rfl, hB1.trans (k.mono hB1.size)⟩
 have hP : ∀ c a d v w', bodyPost Try.prog Try.f4 (IsYes w) (.panic c) (a.put d v) w' → bodyPost Try.prog Try.f4 (IsYes w) (.panic c) a w' := fun c a d v w' k => by cases d <;> exact k
 generalize bodyPost Try.prog Try.f4 (IsYes w) = Q at yes hP ⊢
 have hX' := aK hX
 have h1 := h.below hB1
 have hb1 := hb.below hB1
 refine hF.wp (fun f _ => wp_seq (x := cl wb1) (y := wb3) (wb_1 w1 w1 g vb f _ _ hX' (aK (Below.refl _ _)) (aK (fun a W k1 hB => ?_))))
 refine k1.wp (fun f _ => wp_seq (x := cl wb3) (y := wb5) ?_)
 by_cases hl : LightM m
 ·obtain ⟨A, c, evb, hC, hc⟩ := id hb1
  have HL := aK (fun (W' : World) (hW' : Below w1.heap.size w1 W') => isB_true hl (light_c W' _ m sv (h1.below hW')))
  by_cases hlen : 100000 < l.length
  ·exact wb_3b w1 W g vb f _ _ hX' (aK hB) hi HL A l.length c evb (decide_eq_true (by omega)) (aK yes)
  ·refine wb_3c w1 W g vb f _ _ hX' (aK hB) hi HL A l.length c evb (decide_eq_false (by omega)) (aK (fun a W k1 hB => ?_))
   have T16 : ∀ a W, RB g vb a → Below w1.heap.size w1 W → wb16.wp Try.prog Q a W := back_16 w1 g vb _ l Q hX hb1 hI (by omega) yes
   have hls : ∀ j, (m.L j).length ≤ 1048576 := fun j => by
    by_cases hj : ∃ fs, (j, fs) ∈ lists
    ·obtain ⟨fs, hj⟩ := hj
     obtain ⟨l3, l8, l9, l10⟩ := hl
     simp only [lists, List.mem_cons, Prod.mk.injEq, List.not_mem_nil, or_false] at hj
     rcases hj with ⟨rfl, _⟩ | ⟨rfl, _⟩ | ⟨rfl, _⟩ | ⟨rfl, _⟩ <;> omega
    ·rw [hn.none j (fun fs hfs => hj ⟨fs, hfs⟩)]; simp
   have hsm : RightM m → Small m := right_small h.typed h.fit (fun i hs x e => by rw [hn.off i hs] at e; cases e) hn.none
   have hE := fun (W' : World) (hW' : Below w1.heap.size w1 W') => ref_encode_c W' _ m sv (h1.below hW') hls hsm
   refine k1.wp (fun f _ => wp_seq (x := cl wb5) (y := wb16) ?_)
   by_cases hr : RightM m
   ·refine wp_seq (x := cl (cl wb5)) (y := cr (cl wb5)) (wb_5 w1 W g vb f _ _ hX' (aK hB) hi true (fun v W => BRd W v (sealL (payB m))) (aK (fun W' hW' => (hE W' hW').mono ?_)) (aK (fun a W v k1 k5 k6 hv hB => ?_)))
    ·rintro e w' ⟨hB, ⟨_, v, rfl, hv⟩ | ⟨hno, _⟩⟩
     ·exact ⟨v, rfl, hB, hv⟩
     ·exact absurd hr hno
    ·refine k1.wp (fun f hf => wp_seq (x := cl (cr (cl wb5))) (y := cr (cr (cl wb5))) (wb_6 w1 W g vb f _ _ hX' (aK hB) v true (hf 5 _ k5) (hf 6 _ k6) (aK (fun a j1 j5 j30 => ?_))))
     refine wp_cond_true (c := .tmp 30) (x := wc7) (y := .skip) (ev_t j30) ?_
     exact back_7 w1 g _ vb m sv (Exit.then (wb16.wp Try.prog Q) Q) hX h1 (hsm hr) hr (fun c a d v w h => hP c a d v w h) (fun a W k1 k => T16 a W k1 k) a W v j1 j5 hv hB
   ·refine wp_seq (x := cl (cl wb5)) (y := cr (cl wb5)) (wb_5 w1 W g vb f _ _ hX' (aK hB) hi false (fun _ _ => True) (aK (fun W' hW' => (hE W' hW').mono ?_)) (aK (fun a W v k1 k5 k6 hv hB => ?_)))
    ·rintro e w' ⟨hB, ⟨hyes, _⟩ | ⟨_, rfl⟩⟩
     ·exact absurd hyes hr
     ·exact ⟨_, rfl, hB, trivial⟩
    ·refine k1.wp (fun f hf => wp_seq (x := cl (cr (cl wb5))) (y := cr (cr (cl wb5))) (wb_6 w1 W g vb f _ _ hX' (aK hB) v false (hf 5 _ k5) (hf 6 _ k6) (aK (fun a j1 j5 j30 => ?_))))
     exact wp_cond_false (c := .tmp 30) (x := wc7) (y := .skip) (ev_t j30) (wp_skip (T16 a W j1 hB))
 ·exact wb_3a w1 W g vb f _ _ hX' (aK hB) hi (aK (fun (W' : World) (hW' : Below w1.heap.size w1 W') => isB_false hl (light_c W' _ m sv (h1.below hW')))) (aK yes)
end Go.Proofs.Ytcbehfbfaonanaa.Wr
end
section
namespace Go.Proofs.Ytcbehfbfaonanaa.Wr
open Go.RowKit Go.ChangeShapes Go.WideShapes Go.ChangeAt Go.Deep Go.Proofs.YtcbehfbfaonanaaW.PrintWords Go.Proofs.YtcbehfbfaonanaaW.PrintLast Go.Proofs.YtcbehfbfaonanaaW.PrintMore Go.Proofs.Ytcbehfbfaonanaa.Pk
set_option linter.unusedVariables false
theorem bulk_lits {H : Type} (k : IntKind) : ∀ zs : List Int, zs.length ≤ Rows.uptoBulkAll (lits (H := H) k zs)
 | [] => Nat.zero_le _
 | z :: r => by
  have h := bulk_lits (H := H) k r
  show r.length + 1 ≤ Rows.uptoBulk (.lit (.int k z) : DataW H) + Rows.uptoBulkAll (lits (H := H) k r)
  have e : Rows.uptoBulk (.lit (.int k z) : DataW H) = 1 := by simp [Rows.uptoBulk]
  omega
theorem isB_wf {x : Int} (h : (Lit.int .u8 x).wf = true) : Pk.IsB x := by
 simp [Lit.wf, IntKind.min, IntKind.max, IntKind.signed, IntKind.bits] at h
 unfold Pk.IsB
 omega
section
variable {H : Type} {enc : TypeId × Value → H} {W : World} {base : Nat} {spare : Nat → Bool} {held : Bool}
theorem bytes_lying {N fuel : Nat} {cs : List Value} {x : DataW H × List MemPlace} (h : DataW.trod enc Try.prog W base spare held fuel 37 cs = some x) (hN : Rows.uptoBulk x.1 ≤ N) : ∃ sv l, cs = [sv] ∧ BRd W sv l ∧ l.length ≤ N ∧ ∀ x ∈ l, Pk.IsB x := by
 rcases open_ints Try.underlying37 Try.underlying5 (by kernel_rfl) h with ⟨hcs, _⟩ | ⟨y, l, c, zs, hcs, _, hl, hm, hz, hx, hcell, hwz⟩
 ·exact ⟨_, [], hcs, ⟨none, 0, rfl, ⟨rfl, by simp, fun h => absurd h (by simp)⟩, Nat.le_refl _⟩, Nat.zero_le _, fun x hx => nomatch hx⟩
 ·have hlz : l ≤ zs.length := by rw [hz]; split <;> omega
  have hlen : (zs.take l).length = l := by rw [List.length_take]; omega
  obtain ⟨hd, _⟩ := Prod.mk.inj hx
  refine ⟨_, zs.take l, hcs, ⟨some y, c, by rw [hlen], ?_, by rw [hlen]; exact hl⟩, ?_, fun x hx => isB_wf (hwz x (List.mem_of_mem_take hx))⟩
  ·rw [hlen]
   refine c_of_reads ⟨hlen, by unfold maxLen at hm; omega, fun _ => ⟨y, rfl, fun i hi => ?_⟩⟩
   rw [hcell i (by omega)]
   simp only [List.getD_eq_getElem?_getD, List.getElem?_take]
   rw [if_pos hi]
  ·have e : Rows.uptoBulk (.slice (lits .u8 (zs.take l)) (lits .u8 (zs.drop l)) : DataW H) = Rows.uptoBulkAll (lits (H := H) .u8 (zs.take l)) + Rows.uptoBulkAll (lits (H := H) .u8 (zs.drop l)) + 1 := by simp [Rows.uptoBulk]
   have h1 := bulk_lits (H := H) .u8 (zs.take l)
   rw [hd, e] at hN
   omega
theorem open_bytes {N b0 : Nat} {v : Value} {d : DataW H} {p : List MemPlace} (hv : Value.okWide Try.prog W .any b0 37 v) (h : DataW.Trod enc Try.prog W base spare held 37 v d p) (hN : Rows.uptoBulk d ≤ N) :
  ∃ l, BRd W v l ∧ l.length ≤ N ∧ ∀ x ∈ l, Pk.IsB x := by
 obtain ⟨A, len, cap, rfl⟩ := okWide_slice Try.underlying37 hv
 obtain ⟨fuel, hf⟩ := h
 obtain ⟨sv, l, e, h1, h2, h3⟩ := bytes_lying hf hN
 simp [Value.cells] at e
 subst e
 exact ⟨l, h1, h2, h3⟩
end
end Go.Proofs.Ytcbehfbfaonanaa.Wr
end
section

namespace Go.Proofs.Ytcbehfbfaonanaa.Wr
open Go.RowKit Go.ChangeShapes Go.WideShapes Go.ChangeAt Go.Deep Go.Proofs.YtcbehfbfaonanaaW.PrintWords Go.Proofs.Ytcbehfbfaonanaa.Pk
set_option linter.unusedVariables false
section
variable {H : Type} {enc : TypeId × Value → H} {P : Program} {W : World} {base : Nat} {spare : Nat → Bool} {held : Bool}
theorem open_msgN {N : Nat} {b0 : Nat} {v : Value} {d : DataW H} {p : List MemPlace} (hv : Value.okWide Try.prog W .any b0 32 v) (h : DataW.Trod enc Try.prog W base spare held 32 v d p) (hN : Rows.uptoBulk d ≤ N) :
  ∃ m sv, MsgRd W v m sv ∧ Neat m := by
 obtain ⟨arr, rfl, _⟩ := okWide_struct Try.underlying32 hv
 obtain ⟨fuel, hf⟩ := h
 have hL : Lying W N arr.toList := msg_lying hf hN
 obtain ⟨cs, rfl⟩ : ∃ cs : List Value, arr = cs.toArray := ⟨arr.toList, by simp⟩
 have hL : Lying W N cs := by simpa using hL
 have hlist : ∀ j, ∃ rows : List (List Value), (∀ fs, (j, fs) ∈ lists → ListRd W (cs.getD j undef) fs.length rows ∧ rows.length ≤ N ∧ ∀ r, r ∈ rows → GoodR N fs r) ∧ ((∀ fs, (j, fs) ∉ lists) → rows = []) := by
  intro j
  by_cases hj : ∃ fs, (j, fs) ∈ lists
  ·obtain ⟨fs, hj⟩ := hj
   obtain ⟨sv, rows, h1, h2, h3, h4⟩ := hL.list j fs hj
   have e : cs.getD j undef = sv := by rw [List.getD_eq_getElem?_getD, h1]; rfl
   refine ⟨rows, fun fs' hj' => ?_, fun hn => absurd hj (hn fs)⟩
   obtain rfl : fs' = fs := lists_one hj' hj
   rw [e]
   exact ⟨h2, h3, h4⟩
  ·exact ⟨[], fun fs hf => absurd ⟨fs, hf⟩ hj, fun _ => rfl⟩
 obtain ⟨L, hLs⟩ : ∃ L : Nat → List (List Value), ∀ j, (∀ fs, (j, fs) ∈ lists → ListRd W (cs.getD j undef) fs.length (L j) ∧ (L j).length ≤ N ∧ ∀ r, r ∈ L j → GoodR N fs r) ∧ ((∀ fs, (j, fs) ∉ lists) → L j = []) :=
  ⟨fun j => Classical.choose (hlist j), fun j => Classical.choose_spec (hlist j)⟩
 have hcell : ∀ i, scalar i = true → GoodV N (kindOf i) (cs.getD i undef) := fun i hi => by
  have hl : i < cs.length := by
   rw [hL.len]
   unfold scalar at hi
   rw [Bool.and_eq_true] at hi
   exact of_decide_eq_true hi.1
  exact hL.good i hi _ (getD_some hl)
 have hrow : ∀ j r, r ∈ L j → ∃ fs, (j, fs) ∈ lists ∧ GoodR N fs r := fun j r hr => by
  by_cases hj : ∃ fs, (j, fs) ∈ lists
  ·obtain ⟨fs, hj⟩ := hj
   exact ⟨fs, hj, ((hLs j).1 fs hj).2.2 r hr⟩
  ·rw [(hLs j).2 (fun fs hf => hj ⟨fs, hf⟩)] at hr
   nomatch hr
 have c_of : ∀ i, scalar i = true → (msgOf cs L).c i = cs.getD i undef := fun i hi => if_pos hi
 have hFit : Fit (msgOf cs L) := fun j fs hj r hr => (((hLs j).1 fs hj).2.2 r hr).fits
 refine ⟨msgOf cs L, fun j => cs.getD j undef, ⟨?_, fun i hi => ?_, hFit, fun j fs hj => ((hLs j).1 fs hj).1⟩, ⟨fun i hi => ?_, fun j hj => (hLs j).2 hj, fun i n hn => ?_, fun j r hr v hv n hn => ?_⟩⟩
 ·show Value.agg cs.toArray = Value.agg (msgC (msgOf cs L).c fun j => cs.getD j undef)
  unfold msgC
  rw [c_of 0 rfl, c_of 1 rfl, c_of 2 rfl, c_of 4 rfl, c_of 5 rfl, c_of 6 rfl, c_of 7 rfl, c_of 11 rfl, c_of 12 rfl, c_of 13 rfl, c_of 14 rfl, c_of 15 rfl, c_of 16 rfl, c_of 17 rfl, c_of 18 rfl, c_of 19 rfl, c_of 20 rfl, c_of 21 rfl, c_of 22 rfl, c_of 23 rfl, c_of 24 rfl, c_of 25 rfl]
  exact congrArg (fun l : List Value => Value.agg l.toArray) (list26 hL.len)
 ·rw [c_of i hi]
  exact (hcell i hi).1
 ·show (if scalar i = true then _ else _) = _
  rw [hi]
  rfl
 ·cases hi : scalar i with
  | true => rw [c_of i hi] at hn; exact (hcell i hi).2.2 n hn
  | false =>
   have e : (msgOf cs L).c i = undef := by show (if scalar i = true then _ else _) = _; rw [hi]; rfl
   rw [e] at hn
   nomatch hn
 ·obtain ⟨fs, hj, hg⟩ := hrow j r hr
  obtain ⟨i, hi⟩ := List.mem_iff_getElem?.1 hv
  have hl : i < fs.length := by rw [← hg.1]; exact (List.getElem?_eq_some_iff.1 hi).1
  exact (hg.2 i _ v (List.getElem?_eq_getElem hl) hi).2.2 n hn
end
end Go.Proofs.Ytcbehfbfaonanaa.Wr

end
