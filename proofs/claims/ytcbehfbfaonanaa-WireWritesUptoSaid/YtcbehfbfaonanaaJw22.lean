/- Part 23 of the texts that walk the program and tell its laws, joined in the order of their building. No conditions. -/
import Derived.Test.YtcbehfbfaonanaaJw21
import Derived.Test.YtcbehfbfaonanaaJw1
import Derived.Test.YtcbehfbfaonanaaJw8
import Derived.Test.YtcbehfbfaonanaaJw15
set_option maxRecDepth 100000
set_option maxHeartbeats 16000000
section
namespace Go.Proofs.Ytcbehfbfaonanaa.Wr
open Go.RowKit Go.Proofs.YtcbehfbfaonanaaW.PrintWords Go.Proofs.YtcbehfbfaonanaaW.PrintLast Go.Proofs.YtcbehfbfaonanaaW.PrintMore Go.Proofs.Ytcbehfbfaonanaa.Pk
set_option linter.unusedVariables false
set_option linter.unusedSimpArgs false
theorem ip_8 (w1 wc : World) (g : Nat) (f : Nat → Value) (x : Nat → Int) (s : Nat → ByteArray) (p : Nat → Bool) (A : Nat → Option Addr) (n c : Nat → Nat) (K : Exit → Act → World → Prop) (l0 : List It) (vo kd : Value) (HX0 : Aside0 (w1.heap[g]? = some (.cells (cX x s p (fun j => .slice (A j) (n j) (c j))) 32 (0, 0)))) (h3 : f 3 = vo) (h37 : f 37 = kd) (HO : Aside0 (RI wc w1.heap.size vo l0)) (HB : Aside0 (Below w1.heap.size w1 wc)) (HL : Aside0 (l0.length ≤ 1000))
  (hK : Aside0 (KI K g w1 kd (l0 ++ [iN ((n 3 : Nat) : Int)]))) : Code.wp Try.prog (cl ic8) K (ifr g f) wc := by
 have HX := aK ((HB.out.block g (zad HX0.out)).trans HX0.out)
 unfold ifr
 rw [h3, h37]
 conv => arg 2; whnf
 go_wp2_with (first | ((with_reducible refine zae [42] (by decide) ?_); refine ld (T := 22) (g := g) (v := .slice _ _ _) rfl rfl HX.out rfl rfl TuE rfl ?_) | ((with_reducible refine zae [44] (by decide) ?_); refine Kd.event_run rfl (v := .slice (some ⟨wc.heap.size, 0, none⟩) 1 1) (w1 := wc.alloc (.cells #[.int .i64 ((n 3 : Nat) : Int)] 3)) (by first | (go_simp; done) | (go_simp; rfl)) ?_; have hb := zaa (Below.refl wc.heap.size wc) (.cells #[.int .i64 ((n 3 : Nat) : Int)] 3); have HO := aK (HO.out.below hb); have HB := aK (HB.out.trans (hb.mono HB.out.size)); have HX := aK ((HB.out.block g (zad HX0.out)).trans HX0.out); clear hb) | (go_at_call 51; (with_reducible refine (n1_c _ _).mono ?_); rintro e wc ⟨vn, rfl, hu, hb⟩; have HU := aK hu; have HO := aK (HO.out.below hb); have HB := aK (HB.out.trans (hb.mono HB.out.size)); have HX := aK ((HB.out.block g (zad HX0.out)).trans HX0.out); clear hu hb) | ((with_reducible refine zap (b := .append) rfl ?_); refine appI rfl rfl rfl rfl HO.out HU.out HB.out HB.out.size (by have := HL.out; simp only [List.length_append, List.length_cons, List.length_nil]; omega) ?_; intro v1 wc ho hb hkp; have HO := aK ho; have HB := aK hb; have HX := aK ((HB.out.block g (zad HX0.out)).trans HX0.out); clear ho hb HU hkp))
 exact hK.out _ wc _ ⟨rfl, rfl, rfl⟩ rfl HO.out HB.out rfl
theorem ip_19 (w1 wc : World) (g : Nat) (f : Nat → Value) (x : Nat → Int) (s : Nat → ByteArray) (p : Nat → Bool) (A : Nat → Option Addr) (n c : Nat → Nat) (K : Exit → Act → World → Prop) (l0 : List It) (vo kd : Value) (HX0 : Aside0 (w1.heap[g]? = some (.cells (cX x s p (fun j => .slice (A j) (n j) (c j))) 32 (0, 0)))) (h3 : f 3 = vo) (h37 : f 37 = kd) (HO : Aside0 (RI wc w1.heap.size vo l0)) (HB : Aside0 (Below w1.heap.size w1 wc)) (HL : Aside0 (l0.length ≤ 1000))
  (hK : Aside0 (KI K g w1 kd (l0 ++ [iN (x 4), iN (x 5)]))) : Code.wp Try.prog (cl ic19) K (ifr g f) wc := by
 have HX := aK ((HB.out.block g (zad HX0.out)).trans HX0.out)
 unfold ifr
 rw [h3, h37]
 conv => arg 2; whnf
 go_wp2_with (first | ((with_reducible refine zae [95] (by decide) ?_); refine ldr (T := 24) (g := g) (vs := [.int .i64 _, .int .i64 _]) rfl rfl HX.out 2 rfl rfl Try.underlying24 rfl (by kernel_rfl) ?_) | (go_at_call 52; (with_reducible refine (p_c _ _ _).mono ?_); rintro e wc ⟨vn, rfl, hu, hb⟩; have HU := aK hu; have HO := aK (HO.out.below hb); have HB := aK (HB.out.trans (hb.mono HB.out.size)); have HX := aK ((HB.out.block g (zad HX0.out)).trans HX0.out); clear hu hb) | ((with_reducible refine zap (b := .append) rfl ?_); refine appI rfl rfl rfl rfl HO.out HU.out HB.out HB.out.size (by have := HL.out; simp only [List.length_append, List.length_cons, List.length_nil]; omega) ?_; intro v1 wc ho hb hkp; have HO := aK ho; have HB := aK hb; have HX := aK ((HB.out.block g (zad HX0.out)).trans HX0.out); clear ho hb HU hkp))
 exact hK.out _ wc _ ⟨rfl, rfl, rfl⟩ rfl HO.out HB.out rfl
theorem ip_20 (w1 wc : World) (g : Nat) (f : Nat → Value) (x : Nat → Int) (s : Nat → ByteArray) (p : Nat → Bool) (A : Nat → Option Addr) (n c : Nat → Nat) (K : Exit → Act → World → Prop) (l0 : List It) (vo kd : Value) (HX0 : Aside0 (w1.heap[g]? = some (.cells (cX x s p (fun j => .slice (A j) (n j) (c j))) 32 (0, 0)))) (h3 : f 3 = vo) (h37 : f 37 = kd) (HO : Aside0 (RI wc w1.heap.size vo l0)) (HB : Aside0 (Below w1.heap.size w1 wc)) (HL : Aside0 (l0.length ≤ 1000))
  (hK : Aside0 (KI K g w1 kd (l0 ++ [iN (x 6), iN (x 7), iN ((n 8 : Nat) : Int)]))) : Code.wp Try.prog (cl (cr ic19)) K (ifr g f) wc := by
 have HX := aK ((HB.out.block g (zad HX0.out)).trans HX0.out)
 unfold ifr
 rw [h3, h37]
 conv => arg 2; whnf
 go_wp2_with (first | ((with_reducible refine zae [100, 102] (by decide) ?_); refine ld (T := 3) (g := g) (v := .int .i64 _) rfl rfl HX.out rfl rfl TuI rfl ?_) | ((with_reducible refine zae [104] (by decide) ?_); refine ld (T := 25) (g := g) (v := .slice _ _ _) rfl rfl HX.out rfl rfl TuP rfl ?_) | ((with_reducible refine zae [106] (by decide) ?_); refine Kd.event_run rfl (v := .slice (some ⟨wc.heap.size, 0, none⟩) 3 3) (w1 := wc.alloc (.cells #[.int .i64 (x 6), .int .i64 (x 7), .int .i64 ((n 8 : Nat) : Int)] 3)) (by first | (go_simp; done) | (go_simp; rfl)) ?_; have hb := zaa (Below.refl wc.heap.size wc) (.cells #[.int .i64 (x 6), .int .i64 (x 7), .int .i64 ((n 8 : Nat) : Int)] 3); have HO := aK (HO.out.below hb); have HB := aK (HB.out.trans (hb.mono HB.out.size)); have HX := aK ((HB.out.block g (zad HX0.out)).trans HX0.out); clear hb) | (go_at_call 51; (with_reducible refine (n3_c _ _ _ _).mono ?_); rintro e wc ⟨vn, rfl, hu, hb⟩; have HU := aK hu; have HO := aK (HO.out.below hb); have HB := aK (HB.out.trans (hb.mono HB.out.size)); have HX := aK ((HB.out.block g (zad HX0.out)).trans HX0.out); clear hu hb) | ((with_reducible refine zap (b := .append) rfl ?_); refine appI rfl rfl rfl rfl HO.out HU.out HB.out HB.out.size (by have := HL.out; simp only [List.length_append, List.length_cons, List.length_nil]; omega) ?_; intro v1 wc ho hb hkp; have HO := aK ho; have HB := aK hb; have HX := aK ((HB.out.block g (zad HX0.out)).trans HX0.out); clear ho hb HU hkp))
 exact hK.out _ wc _ ⟨rfl, rfl, rfl⟩ rfl HO.out HB.out rfl
theorem ip_26 (w1 wc : World) (g : Nat) (f : Nat → Value) (x : Nat → Int) (s : Nat → ByteArray) (p : Nat → Bool) (A : Nat → Option Addr) (n c : Nat → Nat) (K : Exit → Act → World → Prop) (l0 : List It) (vo kd : Value) (HX0 : Aside0 (w1.heap[g]? = some (.cells (cX x s p (fun j => .slice (A j) (n j) (c j))) 32 (0, 0)))) (h3 : f 3 = vo) (h37 : f 37 = kd) (HO : Aside0 (RI wc w1.heap.size vo l0)) (HB : Aside0 (Below w1.heap.size w1 wc)) (HL : Aside0 (l0.length ≤ 1000))
  (hK : Aside0 (KI K g w1 kd (l0 ++ [iN ((n 9 : Nat) : Int)]))) : Code.wp Try.prog (cl (cr (cr (cr ic19)))) K (ifr g f) wc := by
 have HX := aK ((HB.out.block g (zad HX0.out)).trans HX0.out)
 unfold ifr
 rw [h3, h37]
 conv => arg 2; whnf
 go_wp2_with (first | ((with_reducible refine zae [137] (by decide) ?_); refine ld (T := 26) (g := g) (v := .slice _ _ _) rfl rfl HX.out rfl rfl TuS rfl ?_) | ((with_reducible refine zae [139] (by decide) ?_); refine Kd.event_run rfl (v := .slice (some ⟨wc.heap.size, 0, none⟩) 1 1) (w1 := wc.alloc (.cells #[.int .i64 ((n 9 : Nat) : Int)] 3)) (by first | (go_simp; done) | (go_simp; rfl)) ?_; have hb := zaa (Below.refl wc.heap.size wc) (.cells #[.int .i64 ((n 9 : Nat) : Int)] 3); have HO := aK (HO.out.below hb); have HB := aK (HB.out.trans (hb.mono HB.out.size)); have HX := aK ((HB.out.block g (zad HX0.out)).trans HX0.out); clear hb) | (go_at_call 51; (with_reducible refine (n1_c _ _).mono ?_); rintro e wc ⟨vn, rfl, hu, hb⟩; have HU := aK hu; have HO := aK (HO.out.below hb); have HB := aK (HB.out.trans (hb.mono HB.out.size)); have HX := aK ((HB.out.block g (zad HX0.out)).trans HX0.out); clear hu hb) | ((with_reducible refine zap (b := .append) rfl ?_); refine appI rfl rfl rfl rfl HO.out HU.out HB.out HB.out.size (by have := HL.out; simp only [List.length_append, List.length_cons, List.length_nil]; omega) ?_; intro v1 wc ho hb hkp; have HO := aK ho; have HB := aK hb; have HX := aK ((HB.out.block g (zad HX0.out)).trans HX0.out); clear ho hb HU hkp))
 exact hK.out _ wc _ ⟨rfl, rfl, rfl⟩ rfl HO.out HB.out rfl
theorem ip_33 (w1 wc : World) (g : Nat) (f : Nat → Value) (x : Nat → Int) (s : Nat → ByteArray) (p : Nat → Bool) (A : Nat → Option Addr) (n c : Nat → Nat) (K : Exit → Act → World → Prop) (l0 : List It) (vo kd : Value) (HX0 : Aside0 (w1.heap[g]? = some (.cells (cX x s p (fun j => .slice (A j) (n j) (c j))) 32 (0, 0)))) (h3 : f 3 = vo) (h37 : f 37 = kd) (HO : Aside0 (RI wc w1.heap.size vo l0)) (HB : Aside0 (Below w1.heap.size w1 wc)) (HL : Aside0 (l0.length ≤ 1000))
  (hK : Aside0 (KI K g w1 kd (l0 ++ [iN ((n 10 : Nat) : Int)]))) : Code.wp Try.prog (cl ic33) K (ifr g f) wc := by
 have HX := aK ((HB.out.block g (zad HX0.out)).trans HX0.out)
 unfold ifr
 rw [h3, h37]
 conv => arg 2; whnf
 go_wp2_with (first | ((with_reducible refine zae [178] (by decide) ?_); refine ld (T := 27) (g := g) (v := .slice _ _ _) rfl rfl HX.out rfl rfl TuT rfl ?_) | ((with_reducible refine zae [180] (by decide) ?_); refine Kd.event_run rfl (v := .slice (some ⟨wc.heap.size, 0, none⟩) 1 1) (w1 := wc.alloc (.cells #[.int .i64 ((n 10 : Nat) : Int)] 3)) (by first | (go_simp; done) | (go_simp; rfl)) ?_; have hb := zaa (Below.refl wc.heap.size wc) (.cells #[.int .i64 ((n 10 : Nat) : Int)] 3); have HO := aK (HO.out.below hb); have HB := aK (HB.out.trans (hb.mono HB.out.size)); have HX := aK ((HB.out.block g (zad HX0.out)).trans HX0.out); clear hb) | (go_at_call 51; (with_reducible refine (n1_c _ _).mono ?_); rintro e wc ⟨vn, rfl, hu, hb⟩; have HU := aK hu; have HO := aK (HO.out.below hb); have HB := aK (HB.out.trans (hb.mono HB.out.size)); have HX := aK ((HB.out.block g (zad HX0.out)).trans HX0.out); clear hu hb) | ((with_reducible refine zap (b := .append) rfl ?_); refine appI rfl rfl rfl rfl HO.out HU.out HB.out HB.out.size (by have := HL.out; simp only [List.length_append, List.length_cons, List.length_nil]; omega) ?_; intro v1 wc ho hb hkp; have HO := aK ho; have HB := aK hb; have HX := aK ((HB.out.block g (zad HX0.out)).trans HX0.out); clear ho hb HU hkp))
 exact hK.out _ wc _ ⟨rfl, rfl, rfl⟩ rfl HO.out HB.out rfl
theorem iz_9 (wc : World) (g : Nat) (f : Nat → Value) (K : Exit → Act → World → Prop) (vo kd : Value) (h3 : f 3 = vo) (h37 : f 37 = kd) (hK : Aside0 (∀ a, RFr 313 g a → a.tmps[3]? = some vo → a.tmps[37]? = some kd → a.tmps[4]? = some (.int .i64 ((0 : Nat) : Int)) → K .normal a wc)) : Code.wp Try.prog (cl (cr ic8)) K (ifr g f) wc := by
 unfold ifr
 rw [h3, h37]
 conv => arg 2; whnf
 go_wp2_with fail
 exact hK.out _ ⟨rfl, rfl, rfl⟩ rfl rfl rfl
theorem iz_21 (wc : World) (g : Nat) (f : Nat → Value) (K : Exit → Act → World → Prop) (vo kd : Value) (h3 : f 3 = vo) (h37 : f 37 = kd) (hK : Aside0 (∀ a, RFr 313 g a → a.tmps[3]? = some vo → a.tmps[37]? = some kd → a.tmps[6]? = some (.int .i64 ((0 : Nat) : Int)) → K .normal a wc)) : Code.wp Try.prog (cl (cl (cr (cr ic19)))) K (ifr g f) wc := by
 unfold ifr
 rw [h3, h37]
 conv => arg 2; whnf
 go_wp2_with fail
 exact hK.out _ ⟨rfl, rfl, rfl⟩ rfl rfl rfl
theorem iz_27 (wc : World) (g : Nat) (f : Nat → Value) (K : Exit → Act → World → Prop) (vo kd : Value) (h3 : f 3 = vo) (h37 : f 37 = kd) (hK : Aside0 (∀ a, RFr 313 g a → a.tmps[3]? = some vo → a.tmps[37]? = some kd → a.tmps[7]? = some (.int .i64 ((0 : Nat) : Int)) → K .normal a wc)) : Code.wp Try.prog (cl (cr (cr (cr (cr ic19))))) K (ifr g f) wc := by
 unfold ifr
 rw [h3, h37]
 conv => arg 2; whnf
 go_wp2_with fail
 exact hK.out _ ⟨rfl, rfl, rfl⟩ rfl rfl rfl
theorem iz_34 (wc : World) (g : Nat) (f : Nat → Value) (K : Exit → Act → World → Prop) (vo kd : Value) (h3 : f 3 = vo) (h37 : f 37 = kd) (hK : Aside0 (∀ a, RFr 313 g a → a.tmps[3]? = some vo → a.tmps[37]? = some kd → a.tmps[8]? = some (.int .i64 ((0 : Nat) : Int)) → K .normal a wc)) : Code.wp Try.prog (cl (cr ic33)) K (ifr g f) wc := by
 unfold ifr
 rw [h3, h37]
 conv => arg 2; whnf
 go_wp2_with fail
 exact hK.out _ ⟨rfl, rfl, rfl⟩ rfl rfl rfl
theorem zun (w1 wc : World) (g : Nat) (f : Nat → Value) (x : Nat → Int) (s : Nat → ByteArray) (p : Nat → Bool) (A : Nat → Option Addr) (n c : Nat → Nat) (K : Exit → Act → World → Prop) (l0 : List It) (vo kd : Value) (HX0 : Aside0 (w1.heap[g]? = some (.cells (cX x s p (fun j => .slice (A j) (n j) (c j))) 32 (0, 0)))) (h3 : f 3 = vo) (h37 : f 37 = kd) (hs0 : f 4 = .int .i64 ((0 : Nat) : Int)) (HO : Aside0 (RI wc w1.heap.size vo l0)) (HB : Aside0 (Below w1.heap.size w1 wc)) (HL : l0.length ≤ 100) (hP : ∀ c a d v w, K (.panic c) (a.put d v) w → K (.panic c) a w)
  (rows : List (List Value)) (hn : n 3 = rows.length) (hrd : ListRd w1 (.slice (A 3) (n 3) (c 3)) 7 rows) (hfit : ∀ r, r ∈ rows → fits zak r) (hlen : rows.length ≤ 64)
  (hK : Aside0 (KI K g w1 kd (l0 ++ rows.flatMap (itR zak)))) : Code.wp Try.prog (cr (cr ic8)) K (ifr g f) wc := by
 refine wp_block (id := 1) (c := cl (cr (cr ic8))) ?_
 refine wp_loop (c := cl (cl (cr (cr ic8)))) (fun a W => RFr 313 g a ∧ Below w1.heap.size w1 W ∧ a.tmps[37]? = some kd ∧ ∃ i : Nat, i ≤ rows.length ∧ a.tmps[4]? = some (.int .i64 (i : Int)) ∧ ∃ v, a.tmps[3]? = some v ∧ RI W w1.heap.size v (l0 ++ (rows.take i).flatMap (itR zak))) (fun a _ => rows.length - ctr (a.tmps[4]?))
  ⟨⟨rfl, rfl, rfl⟩, HB.out, (show some (f 37) = some kd by rw [h37]), 0, by omega, (show some (f 4) = _ by rw [hs0]), vo, (show some (f 3) = some vo by rw [h3]), by simpa using HO.out⟩ ?_
 rintro a W ⟨hF, hB, h37', i, hi, hsi, v, h3', hR⟩
 have e := hF.openI
 have gf : ∀ k u, a.tmps[k]? = some u → (fun i => a.tmps.getD i undef) k = u := fun k u hk => by
  show a.tmps.getD k undef = u
  rw [Array.getD_eq_getD_getElem?, hk]
  rfl
 have f3 := gf 3 _ h3'
 have f37 := gf 37 _ h37'
 have fsi := gf 4 _ hsi
 clear gf
 generalize (fun i => a.tmps.getD i undef) = f' at e f3 f37 fsi
 subst e
 by_cases hil : i = rows.length
 ·refine ie_entry w1 W g f' x s p A n c _ i HX0 fsi (aK hB) v kd f3 f37 (by rw [hn, hil]; simp) (fun a2 k1 k2 k3 => ?_)
  show (if 1 = 1 then K .normal a2 W else K (.exit 1) a2 W)
  rw [if_pos rfl]
  exact hK.out a2 W v k1 k2 (by rw [hil, List.take_length] at hR; exact hR) hB k3
 ·have hlt : i < n 3 := by omega
  obtain ⟨ad, r, hA, hr, hc⟩ := zby (fs := zak) hrd hn.symm hlt
  have hA := aK hA
  have hmem : r ∈ rows := List.mem_of_getElem? hr
  have hcell : ∀ W, Below w1.heap.size w1 W → ∀ j v, r[j]? = some v → W.cell? ((ad.add (i * 7)).add j) = some v := fun W hW j v hj => by
   obtain ⟨ad', r', hA', hr', hc'⟩ := zby (fs := zak) (hrd.below (by omega) (fun r hr => zax (hfit r hr)) hW) hn.symm hlt
   rw [hA.out] at hA'
   rw [hr] at hr'
   cases hA'
   cases hr'
   rw [Addr.add_add]
   exact hc' j v hj
  obtain ⟨e0, e1, e2, e3, e4, e5, e6, rfl⟩ := zeb (hfit r hmem)
  have hlen' : (l0 ++ (rows.take i).flatMap (itR zak)).length ≤ 1000 := by
   have := zfh zak 7 (by decide) (rows.take i)
   simp only [List.length_append, List.length_take] at this ⊢
   omega
  refine id_entry w1 W g f' x s p A n c _ (l0 ++ (rows.take i).flatMap (itR zak)) v kd i ad e0 e1 e2 e3 e4 e5 e6 HX0 f3 f37 fsi (aK hR) (aK hB) (aK hlen') (fun c a d v w h => hP c a d v w h) hlt (by omega) hA (aK hcell) (aK (fun a2 W2 vo' k1 k2 k3 k4 k5 k6 => ⟨⟨k1, k4, k5, i + 1, by omega, k6, vo', k2, ?_⟩, ?_⟩))
  ·have e2 : l0 ++ (rows.take (i + 1)).flatMap (itR zak) = (l0 ++ (rows.take i).flatMap (itR zak)) ++ [iN e0, iN e1] ++ [iN e2, iN e3] ++ [iS (e4), iF (e5), iS (e6)] := by
    rw [List.take_add_one, hr, List.flatMap_append]
    simp [itR, itF, zak, List.append_assoc]
   rw [e2]
   exact k3
  ·show rows.length - ctr (a2.tmps[4]?) < rows.length - ctr ((ifr g f').tmps[4]?)
   rw [k6, hsi]
   show rows.length - (((i + 1 : Nat) : Int)).toNat < rows.length - ((i : Nat) : Int).toNat
   omega
theorem lpI_pair (w1 wc : World) (g : Nat) (f : Nat → Value) (x : Nat → Int) (s : Nat → ByteArray) (p : Nat → Bool) (A : Nat → Option Addr) (n c : Nat → Nat) (K : Exit → Act → World → Prop) (l0 : List It) (vo kd : Value) (HX0 : Aside0 (w1.heap[g]? = some (.cells (cX x s p (fun j => .slice (A j) (n j) (c j))) 32 (0, 0)))) (h3 : f 3 = vo) (h37 : f 37 = kd) (hs0 : f 6 = .int .i64 ((0 : Nat) : Int)) (HO : Aside0 (RI wc w1.heap.size vo l0)) (HB : Aside0 (Below w1.heap.size w1 wc)) (HL : l0.length ≤ 100) (hP : ∀ c a d v w, K (.panic c) (a.put d v) w → K (.panic c) a w)
  (rows : List (List Value)) (hn : n 8 = rows.length) (hrd : ListRd w1 (.slice (A 8) (n 8) (c 8)) 5 rows) (hfit : ∀ r, r ∈ rows → fits zat r) (hlen : rows.length ≤ 64)
  (hK : Aside0 (KI K g w1 kd (l0 ++ rows.flatMap (itR zat)))) : Code.wp Try.prog (cr (cl (cr (cr ic19)))) K (ifr g f) wc := by
 refine wp_block (id := 3) (c := cl (cr (cl (cr (cr ic19))))) ?_
 refine wp_loop (c := cl (cl (cr (cl (cr (cr ic19)))))) (fun a W => RFr 313 g a ∧ Below w1.heap.size w1 W ∧ a.tmps[37]? = some kd ∧ ∃ i : Nat, i ≤ rows.length ∧ a.tmps[6]? = some (.int .i64 (i : Int)) ∧ ∃ v, a.tmps[3]? = some v ∧ RI W w1.heap.size v (l0 ++ (rows.take i).flatMap (itR zat))) (fun a _ => rows.length - ctr (a.tmps[6]?))
  ⟨⟨rfl, rfl, rfl⟩, HB.out, (show some (f 37) = some kd by rw [h37]), 0, by omega, (show some (f 6) = _ by rw [hs0]), vo, (show some (f 3) = some vo by rw [h3]), by simpa using HO.out⟩ ?_
 rintro a W ⟨hF, hB, h37', i, hi, hsi, v, h3', hR⟩
 have e := hF.openI
 have gf : ∀ k u, a.tmps[k]? = some u → (fun i => a.tmps.getD i undef) k = u := fun k u hk => by
  show a.tmps.getD k undef = u
  rw [Array.getD_eq_getD_getElem?, hk]
  rfl
 have f3 := gf 3 _ h3'
 have f37 := gf 37 _ h37'
 have fsi := gf 6 _ hsi
 clear gf
 generalize (fun i => a.tmps.getD i undef) = f' at e f3 f37 fsi
 subst e
 by_cases hil : i = rows.length
 ·refine ie_pair w1 W g f' x s p A n c _ i HX0 fsi (aK hB) v kd f3 f37 (by rw [hn, hil]; simp) (fun a2 k1 k2 k3 => ?_)
  show (if 3 = 3 then K .normal a2 W else K (.exit 3) a2 W)
  rw [if_pos rfl]
  exact hK.out a2 W v k1 k2 (by rw [hil, List.take_length] at hR; exact hR) hB k3
 ·have hlt : i < n 8 := by omega
  obtain ⟨ad, r, hA, hr, hc⟩ := zby (fs := zat) hrd hn.symm hlt
  have hA := aK hA
  have hmem : r ∈ rows := List.mem_of_getElem? hr
  have hcell : ∀ W, Below w1.heap.size w1 W → ∀ j v, r[j]? = some v → W.cell? ((ad.add (i * 5)).add j) = some v := fun W hW j v hj => by
   obtain ⟨ad', r', hA', hr', hc'⟩ := zby (fs := zat) (hrd.below (by omega) (fun r hr => zax (hfit r hr)) hW) hn.symm hlt
   rw [hA.out] at hA'
   rw [hr] at hr'
   cases hA'
   cases hr'
   rw [Addr.add_add]
   exact hc' j v hj
  obtain ⟨e0, e1, e2, e3, e4, rfl⟩ := zer (hfit r hmem)
  have hlen' : (l0 ++ (rows.take i).flatMap (itR zat)).length ≤ 1000 := by
   have := zfh zat 7 (by decide) (rows.take i)
   simp only [List.length_append, List.length_take] at this ⊢
   omega
  refine id_pair w1 W g f' x s p A n c _ (l0 ++ (rows.take i).flatMap (itR zat)) v kd i ad e0 e1 e2 e3 e4 HX0 f3 f37 fsi (aK hR) (aK hB) (aK hlen') (fun c a d v w h => hP c a d v w h) hlt (by omega) hA (aK hcell) (aK (fun a2 W2 vo' k1 k2 k3 k4 k5 k6 => ⟨⟨k1, k4, k5, i + 1, by omega, k6, vo', k2, ?_⟩, ?_⟩))
  ·have e2 : l0 ++ (rows.take (i + 1)).flatMap (itR zat) = (l0 ++ (rows.take i).flatMap (itR zat)) ++ [iS (e0)] ++ [iN e1, iN e2, iF e3, iS e4] := by
    rw [List.take_add_one, hr, List.flatMap_append]
    simp [itR, itF, zat, List.append_assoc]
   rw [e2]
   exact k3
  ·show rows.length - ctr (a2.tmps[6]?) < rows.length - ctr ((ifr g f').tmps[6]?)
   rw [k6, hsi]
   show rows.length - (((i + 1 : Nat) : Int)).toNat < rows.length - ((i : Nat) : Int).toNat
   omega
theorem lpI_seen (w1 wc : World) (g : Nat) (f : Nat → Value) (x : Nat → Int) (s : Nat → ByteArray) (p : Nat → Bool) (A : Nat → Option Addr) (n c : Nat → Nat) (K : Exit → Act → World → Prop) (l0 : List It) (vo kd : Value) (HX0 : Aside0 (w1.heap[g]? = some (.cells (cX x s p (fun j => .slice (A j) (n j) (c j))) 32 (0, 0)))) (h3 : f 3 = vo) (h37 : f 37 = kd) (hs0 : f 7 = .int .i64 ((0 : Nat) : Int)) (HO : Aside0 (RI wc w1.heap.size vo l0)) (HB : Aside0 (Below w1.heap.size w1 wc)) (HL : l0.length ≤ 100) (hP : ∀ c a d v w, K (.panic c) (a.put d v) w → K (.panic c) a w)
  (rows : List (List Value)) (hn : n 9 = rows.length) (hrd : ListRd w1 (.slice (A 9) (n 9) (c 9)) 4 rows) (hfit : ∀ r, r ∈ rows → fits zau r) (hlen : rows.length ≤ 64)
  (hK : Aside0 (KI K g w1 kd (l0 ++ rows.flatMap (itR zau)))) : Code.wp Try.prog (cr (cr (cr (cr (cr ic19))))) K (ifr g f) wc := by
 refine wp_block (id := 5) (c := cl (cr (cr (cr (cr (cr ic19)))))) ?_
 refine wp_loop (c := cl (cl (cr (cr (cr (cr (cr ic19))))))) (fun a W => RFr 313 g a ∧ Below w1.heap.size w1 W ∧ a.tmps[37]? = some kd ∧ ∃ i : Nat, i ≤ rows.length ∧ a.tmps[7]? = some (.int .i64 (i : Int)) ∧ ∃ v, a.tmps[3]? = some v ∧ RI W w1.heap.size v (l0 ++ (rows.take i).flatMap (itR zau))) (fun a _ => rows.length - ctr (a.tmps[7]?))
  ⟨⟨rfl, rfl, rfl⟩, HB.out, (show some (f 37) = some kd by rw [h37]), 0, by omega, (show some (f 7) = _ by rw [hs0]), vo, (show some (f 3) = some vo by rw [h3]), by simpa using HO.out⟩ ?_
 rintro a W ⟨hF, hB, h37', i, hi, hsi, v, h3', hR⟩
 have e := hF.openI
 have gf : ∀ k u, a.tmps[k]? = some u → (fun i => a.tmps.getD i undef) k = u := fun k u hk => by
  show a.tmps.getD k undef = u
  rw [Array.getD_eq_getD_getElem?, hk]
  rfl
 have f3 := gf 3 _ h3'
 have f37 := gf 37 _ h37'
 have fsi := gf 7 _ hsi
 clear gf
 generalize (fun i => a.tmps.getD i undef) = f' at e f3 f37 fsi
 subst e
 by_cases hil : i = rows.length
 ·refine ie_seen w1 W g f' x s p A n c _ i HX0 fsi (aK hB) v kd f3 f37 (by rw [hn, hil]; simp) (fun a2 k1 k2 k3 => ?_)
  show (if 5 = 5 then K .normal a2 W else K (.exit 5) a2 W)
  rw [if_pos rfl]
  exact hK.out a2 W v k1 k2 (by rw [hil, List.take_length] at hR; exact hR) hB k3
 ·have hlt : i < n 9 := by omega
  obtain ⟨ad, r, hA, hr, hc⟩ := zby (fs := zau) hrd hn.symm hlt
  have hA := aK hA
  have hmem : r ∈ rows := List.mem_of_getElem? hr
  have hcell : ∀ W, Below w1.heap.size w1 W → ∀ j v, r[j]? = some v → W.cell? ((ad.add (i * 4)).add j) = some v := fun W hW j v hj => by
   obtain ⟨ad', r', hA', hr', hc'⟩ := zby (fs := zau) (hrd.below (by omega) (fun r hr => zax (hfit r hr)) hW) hn.symm hlt
   rw [hA.out] at hA'
   rw [hr] at hr'
   cases hA'
   cases hr'
   rw [Addr.add_add]
   exact hc' j v hj
  obtain ⟨e0, e1, e2, e3, rfl⟩ := zes (hfit r hmem)
  have hlen' : (l0 ++ (rows.take i).flatMap (itR zau)).length ≤ 1000 := by
   have := zfh zau 7 (by decide) (rows.take i)
   simp only [List.length_append, List.length_take] at this ⊢
   omega
  refine id_seen w1 W g f' x s p A n c _ (l0 ++ (rows.take i).flatMap (itR zau)) v kd i ad e0 e1 e2 e3 HX0 f3 f37 fsi (aK hR) (aK hB) (aK hlen') (fun c a d v w h => hP c a d v w h) hlt (by omega) hA (aK hcell) (aK (fun a2 W2 vo' k1 k2 k3 k4 k5 k6 => ⟨⟨k1, k4, k5, i + 1, by omega, k6, vo', k2, ?_⟩, ?_⟩))
  ·have e2 : l0 ++ (rows.take (i + 1)).flatMap (itR zau) = (l0 ++ (rows.take i).flatMap (itR zau)) ++ [iN e0, iN e1] ++ [iN e2, iN e3] := by
    rw [List.take_add_one, hr, List.flatMap_append]
    simp [itR, itF, zau, List.append_assoc]
   rw [e2]
   exact k3
  ·show rows.length - ctr (a2.tmps[7]?) < rows.length - ctr ((ifr g f').tmps[7]?)
   rw [k6, hsi]
   show rows.length - (((i + 1 : Nat) : Int)).toNat < rows.length - ((i : Nat) : Int).toNat
   omega
theorem zuo (w1 wc : World) (g : Nat) (f : Nat → Value) (x : Nat → Int) (s : Nat → ByteArray) (p : Nat → Bool) (A : Nat → Option Addr) (n c : Nat → Nat) (K : Exit → Act → World → Prop) (l0 : List It) (vo kd : Value) (HX0 : Aside0 (w1.heap[g]? = some (.cells (cX x s p (fun j => .slice (A j) (n j) (c j))) 32 (0, 0)))) (h3 : f 3 = vo) (h37 : f 37 = kd) (hs0 : f 8 = .int .i64 ((0 : Nat) : Int)) (HO : Aside0 (RI wc w1.heap.size vo l0)) (HB : Aside0 (Below w1.heap.size w1 wc)) (HL : l0.length ≤ 100) (hP : ∀ c a d v w, K (.panic c) (a.put d v) w → K (.panic c) a w)
  (rows : List (List Value)) (hn : n 10 = rows.length) (hrd : ListRd w1 (.slice (A 10) (n 10) (c 10)) 3 rows) (hfit : ∀ r, r ∈ rows → fits zaj r) (hlen : rows.length ≤ 64)
  (hK : Aside0 (KI K g w1 kd (l0 ++ rows.flatMap (itR zaj)))) : Code.wp Try.prog (cr (cr ic33)) K (ifr g f) wc := by
 refine wp_block (id := 7) (c := cl (cr (cr ic33))) ?_
 refine wp_loop (c := cl (cl (cr (cr ic33)))) (fun a W => RFr 313 g a ∧ Below w1.heap.size w1 W ∧ a.tmps[37]? = some kd ∧ ∃ i : Nat, i ≤ rows.length ∧ a.tmps[8]? = some (.int .i64 (i : Int)) ∧ ∃ v, a.tmps[3]? = some v ∧ RI W w1.heap.size v (l0 ++ (rows.take i).flatMap (itR zaj))) (fun a _ => rows.length - ctr (a.tmps[8]?))
  ⟨⟨rfl, rfl, rfl⟩, HB.out, (show some (f 37) = some kd by rw [h37]), 0, by omega, (show some (f 8) = _ by rw [hs0]), vo, (show some (f 3) = some vo by rw [h3]), by simpa using HO.out⟩ ?_
 rintro a W ⟨hF, hB, h37', i, hi, hsi, v, h3', hR⟩
 have e := hF.openI
 have gf : ∀ k u, a.tmps[k]? = some u → (fun i => a.tmps.getD i undef) k = u := fun k u hk => by
  show a.tmps.getD k undef = u
  rw [Array.getD_eq_getD_getElem?, hk]
  rfl
 have f3 := gf 3 _ h3'
 have f37 := gf 37 _ h37'
 have fsi := gf 8 _ hsi
 clear gf
 generalize (fun i => a.tmps.getD i undef) = f' at e f3 f37 fsi
 subst e
 by_cases hil : i = rows.length
 ·refine ie_epoch w1 W g f' x s p A n c _ i HX0 fsi (aK hB) v kd f3 f37 (by rw [hn, hil]; simp) (fun a2 k1 k2 k3 => ?_)
  show (if 7 = 7 then K .normal a2 W else K (.exit 7) a2 W)
  rw [if_pos rfl]
  exact hK.out a2 W v k1 k2 (by rw [hil, List.take_length] at hR; exact hR) hB k3
 ·have hlt : i < n 10 := by omega
  obtain ⟨ad, r, hA, hr, hc⟩ := zby (fs := zaj) hrd hn.symm hlt
  have hA := aK hA
  have hmem : r ∈ rows := List.mem_of_getElem? hr
  have hcell : ∀ W, Below w1.heap.size w1 W → ∀ j v, r[j]? = some v → W.cell? ((ad.add (i * 3)).add j) = some v := fun W hW j v hj => by
   obtain ⟨ad', r', hA', hr', hc'⟩ := zby (fs := zaj) (hrd.below (by omega) (fun r hr => zax (hfit r hr)) hW) hn.symm hlt
   rw [hA.out] at hA'
   rw [hr] at hr'
   cases hA'
   cases hr'
   rw [Addr.add_add]
   exact hc' j v hj
  obtain ⟨e0, e1, e2, rfl⟩ := zec (hfit r hmem)
  have hlen' : (l0 ++ (rows.take i).flatMap (itR zaj)).length ≤ 1000 := by
   have := zfh zaj 7 (by decide) (rows.take i)
   simp only [List.length_append, List.length_take] at this ⊢
   omega
  refine id_epoch w1 W g f' x s p A n c _ (l0 ++ (rows.take i).flatMap (itR zaj)) v kd i ad e0 e1 e2 HX0 f3 f37 fsi (aK hR) (aK hB) (aK hlen') (fun c a d v w h => hP c a d v w h) hlt (by omega) hA (aK hcell) (aK (fun a2 W2 vo' k1 k2 k3 k4 k5 k6 => ⟨⟨k1, k4, k5, i + 1, by omega, k6, vo', k2, ?_⟩, ?_⟩))
  ·have e2 : l0 ++ (rows.take (i + 1)).flatMap (itR zaj) = (l0 ++ (rows.take i).flatMap (itR zaj)) ++ [iN e0, iN e1] ++ [iF (e2)] := by
    rw [List.take_add_one, hr, List.flatMap_append]
    simp [itR, itF, zaj, List.append_assoc]
   rw [e2]
   exact k3
  ·show rows.length - ctr (a2.tmps[8]?) < rows.length - ctr ((ifr g f').tmps[8]?)
   rw [k6, hsi]
   show rows.length - (((i + 1 : Nat) : Int)).toNat < rows.length - ((i : Nat) : Int).toNat
   omega
def Six (x : Nat → Int) (s : Nat → ByteArray) (p : Nat → Bool) (A : Nat → Option Addr) (n c : Nat → Nat) (l0 its : List It) (w : World) : Prop := ∀ (w1 wc : World) (g : Nat) (f : Nat → Value) (K : Exit → Act → World → Prop) (vo : Value), Below w.heap.size w w1 → Aside0 (w1.heap[g]? = some (.cells (cX x s p (fun j => .slice (A j) (n j) (c j))) 32 (0, 0))) → f 3 = vo → Aside0 (RI wc w1.heap.size vo l0) → Aside0 (Below w1.heap.size w1 wc) →
 (∀ c a d v w, K (.panic c) (a.put d v) w → K (.panic c) a w) → (∀ a W vo', RFr 313 g a → a.tmps[3]? = some vo' → RI W w1.heap.size vo' its → Below w1.heap.size w1 W → K .normal a W) → Code.wp Try.prog (cl ib6) K (ifr g f) wc
theorem zji {g : Nat} {a : Act} {w' : World} {post : Ending → World → Prop} (hF : RFr 313 g a) {v : Value} (h2 : a.tmps[2]? = some v) (hp : post (.returned v) w') : bodyPost Try.prog Try.f23 post .ret a w' := by
 refine bodyPost_ret (results_tmp (t := 2) rfl a.tmps _ w') hF.2.2 ?_
 rw [Array.getD_eq_getD_getElem?, h2]
 exact hp
theorem zft (w : World) (x : Nat → Int) (s : Nat → ByteArray) (p : Nat → Bool) (A : Nat → Option Addr) (n c : Nat → Nat) (its : List It) (h4 : (x 0 != 4) = true) (h6 : (x 0 != 6) = true) (h : Six x s p A n c ([iN (x 0)] ++ [iN (x 1)] ++ [iN (x 2)]) its w) : Calls Try.prog 23 #[.agg (cX x s p (fun j => .slice (A j) (n j) (c j)))] w (zcy its w) := by
 refine calls_of_wp (c := ib0) Try.func23 rfl ?_
 refine wp_seq (x := cl ib0) (y := ib1) (ir0_c w _ _ (fun g a1 w1 hX1 hF1 hB1 => ?_))
 show ib1.wp Try.prog _ a1 w1
 have fin : ∀ a W vo, RFr 313 g a → a.tmps[2]? = some vo → RI W w1.heap.size vo its → Below w1.heap.size w1 W → bodyPost Try.prog Try.f23 (zcy its w) .ret a W := fun a W vo k1 k2 k3 k4 => zji k1 k2 ⟨vo, rfl, k3.low hB1.size, hB1.trans (k4.mono hB1.size)⟩
 have hP : ∀ c a d v w', bodyPost Try.prog Try.f23 (zcy its w) (.panic c) (a.put d v) w' → bodyPost Try.prog Try.f23 (zcy its w) (.panic c) a w' := fun c a d v w' k => by cases d <;> exact k
 generalize bodyPost Try.prog Try.f23 (zcy its w) = Q at fin hP ⊢
 have HX0 := aK hX1
 refine hF1.wpI (fun f _ => wp_seq (x := cl ib1) (y := ib2) (ir1_c w1 g f x s p A n c _ HX0 (aK (fun a W vo k1 k2 k3 k4 => ?_))))
 refine k1.wpI (fun f hf => wp_seq (x := cl ib2) (y := ib4) (is2_y w1 W g f x s p A n c _ [iN (x 0)] vo (f 37) HX0 (hf 3 _ k2) rfl (aK k3) (aK k4) (aK (by simp)) h4 h6 (aK (fun a W vo k1 k2 k3 k4 _ => ?_))))
 refine k1.wpI (fun f hf => wp_seq (x := cl ib4) (y := ib6) (is4_y w1 W g f x s p A n c _ ([iN (x 0)] ++ [iN (x 1)]) vo (f 37) HX0 (hf 3 _ k2) rfl (aK k3) (aK k4) (aK (by simp)) h4 (aK (fun a W vo k1 k2 k3 k4 _ => ?_))))
 refine k1.wpI (fun f hf => wp_seq (x := cl ib6) (y := ib58) (h w1 W g f _ vo hB1 HX0 (hf 3 _ k2) (aK k3) (aK k4) (fun c a d v w h => hP c a d v w h) (fun a W vo k1 k2 k3 k4 => ?_)))
 exact k1.wpI (fun f hf => zum W g f Q vo (hf 3 _ k2) (aK (fun a2 j1 j2 => fin a2 W vo j1 j2 k3 k4)))
theorem items_b (w : World) (x : Nat → Int) (s : Nat → ByteArray) (p : Nat → Bool) (A : Nat → Option Addr) (n c : Nat → Nat) (its : List It) (h4 : (x 0 != 4) = false) (h : Six x s p A n c ([iN (x 0)]) its w) : Calls Try.prog 23 #[.agg (cX x s p (fun j => .slice (A j) (n j) (c j)))] w (zcy its w) := by
 refine calls_of_wp (c := ib0) Try.func23 rfl ?_
 refine wp_seq (x := cl ib0) (y := ib1) (ir0_c w _ _ (fun g a1 w1 hX1 hF1 hB1 => ?_))
 show ib1.wp Try.prog _ a1 w1
 have fin : ∀ a W vo, RFr 313 g a → a.tmps[2]? = some vo → RI W w1.heap.size vo its → Below w1.heap.size w1 W → bodyPost Try.prog Try.f23 (zcy its w) .ret a W := fun a W vo k1 k2 k3 k4 => zji k1 k2 ⟨vo, rfl, k3.low hB1.size, hB1.trans (k4.mono hB1.size)⟩
 have hP : ∀ c a d v w', bodyPost Try.prog Try.f23 (zcy its w) (.panic c) (a.put d v) w' → bodyPost Try.prog Try.f23 (zcy its w) (.panic c) a w' := fun c a d v w' k => by cases d <;> exact k
 generalize bodyPost Try.prog Try.f23 (zcy its w) = Q at fin hP ⊢
 have HX0 := aK hX1
 refine hF1.wpI (fun f _ => wp_seq (x := cl ib1) (y := ib2) (ir1_c w1 g f x s p A n c _ HX0 (aK (fun a W vo k1 k2 k3 k4 => ?_))))
 refine k1.wpI (fun f hf => wp_seq (x := cl ib2) (y := ib4) (is2_n4 w1 W g f x s p A n c _ [iN (x 0)] vo (f 37) HX0 (hf 3 _ k2) rfl (aK k3) (aK k4) (aK (by simp)) h4 (aK (fun a W vo k1 k2 k3 k4 _ => ?_))))
 refine k1.wpI (fun f hf => wp_seq (x := cl ib4) (y := ib6) (is4_n w1 W g f x s p A n c _ ([iN (x 0)]) vo (f 37) HX0 (hf 3 _ k2) rfl (aK k3) (aK k4) (aK (by simp)) h4 (aK (fun a W vo k1 k2 k3 k4 _ => ?_))))
 refine k1.wpI (fun f hf => wp_seq (x := cl ib6) (y := ib58) (h w1 W g f _ vo hB1 HX0 (hf 3 _ k2) (aK k3) (aK k4) (fun c a d v w h => hP c a d v w h) (fun a W vo k1 k2 k3 k4 => ?_)))
 exact k1.wpI (fun f hf => zum W g f Q vo (hf 3 _ k2) (aK (fun a2 j1 j2 => fin a2 W vo j1 j2 k3 k4)))
theorem items_c_ (w : World) (x : Nat → Int) (s : Nat → ByteArray) (p : Nat → Bool) (A : Nat → Option Addr) (n c : Nat → Nat) (its : List It) (h4 : (x 0 != 4) = true) (h6 : (x 0 != 6) = false) (h : Six x s p A n c ([iN (x 0)] ++ [iN (x 2)]) its w) : Calls Try.prog 23 #[.agg (cX x s p (fun j => .slice (A j) (n j) (c j)))] w (zcy its w) := by
 refine calls_of_wp (c := ib0) Try.func23 rfl ?_
 refine wp_seq (x := cl ib0) (y := ib1) (ir0_c w _ _ (fun g a1 w1 hX1 hF1 hB1 => ?_))
 show ib1.wp Try.prog _ a1 w1
 have fin : ∀ a W vo, RFr 313 g a → a.tmps[2]? = some vo → RI W w1.heap.size vo its → Below w1.heap.size w1 W → bodyPost Try.prog Try.f23 (zcy its w) .ret a W := fun a W vo k1 k2 k3 k4 => zji k1 k2 ⟨vo, rfl, k3.low hB1.size, hB1.trans (k4.mono hB1.size)⟩
 have hP : ∀ c a d v w', bodyPost Try.prog Try.f23 (zcy its w) (.panic c) (a.put d v) w' → bodyPost Try.prog Try.f23 (zcy its w) (.panic c) a w' := fun c a d v w' k => by cases d <;> exact k
 generalize bodyPost Try.prog Try.f23 (zcy its w) = Q at fin hP ⊢
 have HX0 := aK hX1
 refine hF1.wpI (fun f _ => wp_seq (x := cl ib1) (y := ib2) (ir1_c w1 g f x s p A n c _ HX0 (aK (fun a W vo k1 k2 k3 k4 => ?_))))
 refine k1.wpI (fun f hf => wp_seq (x := cl ib2) (y := ib4) (is2_n6 w1 W g f x s p A n c _ [iN (x 0)] vo (f 37) HX0 (hf 3 _ k2) rfl (aK k3) (aK k4) (aK (by simp)) h4 h6 (aK (fun a W vo k1 k2 k3 k4 _ => ?_))))
 refine k1.wpI (fun f hf => wp_seq (x := cl ib4) (y := ib6) (is4_y w1 W g f x s p A n c _ ([iN (x 0)]) vo (f 37) HX0 (hf 3 _ k2) rfl (aK k3) (aK k4) (aK (by simp)) h4 (aK (fun a W vo k1 k2 k3 k4 _ => ?_))))
 refine k1.wpI (fun f hf => wp_seq (x := cl ib6) (y := ib58) (h w1 W g f _ vo hB1 HX0 (hf 3 _ k2) (aK k3) (aK k4) (fun c a d v w h => hP c a d v w h) (fun a W vo k1 k2 k3 k4 => ?_)))
 exact k1.wpI (fun f hf => zum W g f Q vo (hf 3 _ k2) (aK (fun a2 j1 j2 => fin a2 W vo j1 j2 k3 k4)))
theorem six_2 (w : World) (x : Nat → Int) (s : Nat → ByteArray) (p : Nat → Bool) (A : Nat → Option Addr) (n c : Nat → Nat) (hx : x 0 = 2) : Six x s p A n c ([iN (x 0)] ++ [iN (x 1)] ++ [iN (x 2)]) (([iN (x 0)] ++ [iN (x 1)] ++ [iN (x 2)]) ++ [iN (x 11), iN (x 12)]) w := fun w1 wc g f K vo hB1 HX0 h3 HO HB hP hK =>
 it_2 w1 wc g f x s p A n c K _ vo (f 37) HX0 h3 rfl HO HB (aK (by simp)) (by rw [hx]; rfl) (by rw [hx]; rfl) (by rw [hx]; rfl) (by rw [hx]; rfl) (by rw [hx]; rfl) (by rw [hx]; rfl) (by rw [hx]; rfl) (by rw [hx]; rfl) (by rw [hx]; rfl)  (aK (fun a W vo k1 k2 k3 k4 _ => hK a W vo k1 k2 k3 k4))
theorem six_5 (w : World) (x : Nat → Int) (s : Nat → ByteArray) (p : Nat → Bool) (A : Nat → Option Addr) (n c : Nat → Nat) (hx : x 0 = 5) : Six x s p A n c ([iN (x 0)] ++ [iN (x 1)] ++ [iN (x 2)]) (([iN (x 0)] ++ [iN (x 1)] ++ [iN (x 2)]) ++ [iN (x 11), iN (x 12)] ++ [iF (p 13)]) w := fun w1 wc g f K vo hB1 HX0 h3 HO HB hP hK =>
 it_5 w1 wc g f x s p A n c K _ vo (f 37) HX0 h3 rfl HO HB (aK (by simp)) (by rw [hx]; rfl) (by rw [hx]; rfl) (by rw [hx]; rfl) (by rw [hx]; rfl) (by rw [hx]; rfl) (by rw [hx]; rfl) (by rw [hx]; rfl) (by rw [hx]; rfl) (by rw [hx]; rfl)  (aK (fun a W vo k1 k2 k3 k4 _ => hK a W vo k1 k2 k3 k4))
theorem six_6 (w : World) (x : Nat → Int) (s : Nat → ByteArray) (p : Nat → Bool) (A : Nat → Option Addr) (n c : Nat → Nat) (hx : x 0 = 6) : Six x s p A n c ([iN (x 0)] ++ [iN (x 2)]) (([iN (x 0)] ++ [iN (x 2)])) w := fun w1 wc g f K vo hB1 HX0 h3 HO HB hP hK =>
 it_6 w1 wc g f x s p A n c K _ vo (f 37) HX0 h3 rfl HO HB (aK (by simp)) (by rw [hx]; rfl) (by rw [hx]; rfl) (by rw [hx]; rfl) (by rw [hx]; rfl) (by rw [hx]; rfl) (by rw [hx]; rfl) (by rw [hx]; rfl) (by rw [hx]; rfl) (by rw [hx]; rfl)  (aK (fun a W vo k1 k2 k3 k4 _ => hK a W vo k1 k2 k3 k4))
theorem six_7 (w : World) (x : Nat → Int) (s : Nat → ByteArray) (p : Nat → Bool) (A : Nat → Option Addr) (n c : Nat → Nat) (hx : x 0 = 7) : Six x s p A n c ([iN (x 0)] ++ [iN (x 1)] ++ [iN (x 2)]) (([iN (x 0)] ++ [iN (x 1)] ++ [iN (x 2)]) ++ [iN (x 14), iN (x 15)] ++ [iS (s 16)] ++ [iN (x 19), iN (x 20)]) w := fun w1 wc g f K vo hB1 HX0 h3 HO HB hP hK =>
 it_7 w1 wc g f x s p A n c K _ vo (f 37) HX0 h3 rfl HO HB (aK (by simp)) (by rw [hx]; rfl) (by rw [hx]; rfl) (by rw [hx]; rfl) (by rw [hx]; rfl) (by rw [hx]; rfl) (by rw [hx]; rfl) (by rw [hx]; rfl) (by rw [hx]; rfl) (by rw [hx]; rfl)  (aK (fun a W vo k1 k2 k3 k4 _ => hK a W vo k1 k2 k3 k4))
theorem six_9 (w : World) (x : Nat → Int) (s : Nat → ByteArray) (p : Nat → Bool) (A : Nat → Option Addr) (n c : Nat → Nat) (hx : x 0 = 9) : Six x s p A n c ([iN (x 0)] ++ [iN (x 1)] ++ [iN (x 2)]) (([iN (x 0)] ++ [iN (x 1)] ++ [iN (x 2)]) ++ [iN (x 14), iN (x 15), iN (x 21)] ++ [iN (x 22), iN (x 23), iF (p 24), iS (s 25)] ++ [iN (x 11), iN (x 12)] ++ [iN (x 19), iN (x 20)]) w := fun w1 wc g f K vo hB1 HX0 h3 HO HB hP hK =>
 it_9 w1 wc g f x s p A n c K _ vo (f 37) HX0 h3 rfl HO HB (aK (by simp)) (by rw [hx]; rfl) (by rw [hx]; rfl) (by rw [hx]; rfl) (by rw [hx]; rfl) (by rw [hx]; rfl) (by rw [hx]; rfl) (by rw [hx]; rfl) (by rw [hx]; rfl) (by rw [hx]; rfl)  (aK (fun a W vo k1 k2 k3 k4 _ => hK a W vo k1 k2 k3 k4))
theorem six_10 (w : World) (x : Nat → Int) (s : Nat → ByteArray) (p : Nat → Bool) (A : Nat → Option Addr) (n c : Nat → Nat) (hx : x 0 = 10) : Six x s p A n c ([iN (x 0)] ++ [iN (x 1)] ++ [iN (x 2)]) (([iN (x 0)] ++ [iN (x 1)] ++ [iN (x 2)]) ++ [iN (x 14), iN (x 15), iN (x 21)] ++ [iN (x 4), iN (x 5)] ++ [iN (x 19), iN (x 20)]) w := fun w1 wc g f K vo hB1 HX0 h3 HO HB hP hK =>
 it_10 w1 wc g f x s p A n c K _ vo (f 37) HX0 h3 rfl HO HB (aK (by simp)) (by rw [hx]; rfl) (by rw [hx]; rfl) (by rw [hx]; rfl) (by rw [hx]; rfl) (by rw [hx]; rfl) (by rw [hx]; rfl) (by rw [hx]; rfl) (by rw [hx]; rfl) (by rw [hx]; rfl)  (aK (fun a W vo k1 k2 k3 k4 _ => hK a W vo k1 k2 k3 k4))
theorem six_8 (w : World) (x : Nat → Int) (s : Nat → ByteArray) (p : Nat → Bool) (A : Nat → Option Addr) (n c : Nat → Nat) (hx : x 0 = 8) : Six x s p A n c ([iN (x 0)] ++ [iN (x 1)] ++ [iN (x 2)]) (([iN (x 0)] ++ [iN (x 1)] ++ [iN (x 2)]) ++ [iN (x 14), iN (x 15)] ++ [iS (s 16)] ++ [iF (p 17), iS (s 18)] ++ [iN (x 19), iN (x 20)]) w := fun w1 wc g f K vo hB1 HX0 h3 HO HB hP hK =>
 it_8 w1 wc g f x s p A n c K _ vo (f 37) HX0 h3 rfl HO HB (aK (by simp)) (by rw [hx]; rfl) (by rw [hx]; rfl) (by rw [hx]; rfl) (by rw [hx]; rfl) (by rw [hx]; rfl) (by rw [hx]; rfl) (by rw [hx]; rfl) (by rw [hx]; rfl) (by rw [hx]; rfl) hP  (aK (fun a W vo k1 k2 k3 k4 _ => hK a W vo k1 k2 k3 k4))
theorem zhu {a : Act} {k : Nat} {v : Value} (h : a.tmps[k]? = some v) : a.eval (.tmp k) = v := by
 show a.tmps.getD k undef = v
 rw [Array.getD_eq_getD_getElem?, h]
 rfl
theorem six_1 (w : World) (x : Nat → Int) (s : Nat → ByteArray) (p : Nat → Bool) (A : Nat → Option Addr) (n c : Nat → Nat) (hx : x 0 = 1) (R3 : List (List Value)) (hn3 : n 3 = R3.length) (hr3 : ListRd w (.slice (A 3) (n 3) (c 3)) 7 R3) (hf3 : ∀ r, r ∈ R3 → fits zak r) (hl3 : R3.length ≤ 8) : Six x s p A n c ([iN (x 0)] ++ [iN (x 1)] ++ [iN (x 2)]) (([iN (x 0)] ++ [iN (x 1)] ++ [iN (x 2)]) ++ [iN ((n 3 : Nat) : Int)] ++ R3.flatMap (itR zak)) w := by
 intro w1 wc g f K vo hB1 HX0 h3 HO HB hP hK
 refine wp_seq (x := cl (cl ib6)) (y := cr (cl ib6)) (ir6_c w1 wc g f x s p A n c _ vo (f 37) HX0 h3 rfl HB (aK (fun a j1 j2 j3 => ?_)))
 refine wp_block (id := 0) (c := ic7) ?_
 refine j1.wpI (fun f hf => wp_seq (x := cl ic7) (y := cr ic7) (ir7_c w1 wc g f x s p A n c _ vo _ HX0 (hf 3 _ j2) (hf 37 _ j3) HB rfl true (by rw [hx]; rfl) (aK (fun a j1 j2 j3 j4 => ?_))))
 refine wp_cond_true (c := .tmp 38) (x := ic8) (y := ic16) (zhu j4) ?_
 have HLa : Aside0 (([] : List It).length ≤ 50) := aK (by simp)
 refine j1.wpI (fun f hf => wp_seq (x := cl ic8) (y := cr ic8) (ip_8 w1 _ g f x s p A n c _ ([iN (x 0)] ++ [iN (x 1)] ++ [iN (x 2)]) _ _ HX0 (hf 3 _ j2) (hf 37 _ j3) HO HB (aK (by have := HLa.out; simp only [List.length_append, List.length_cons, List.length_nil] at this ⊢; omega)) (aK (fun a W vo j1 j2 j4 j5 j3 => ?_))))
 have HO := aK j4
 have HB := aK j5
 refine j1.wpI (fun f hf => wp_seq (x := cl (cr ic8)) (y := cr (cr ic8)) (iz_9 _ g f _ _ _ (hf 3 _ j2) (hf 37 _ j3) (aK (fun a j1 j2 j3 j4 => ?_))))
 exact j1.wpI (fun f hf => zun w1 _ g f x s p A n c _ (([iN (x 0)] ++ [iN (x 1)] ++ [iN (x 2)]) ++ [iN ((n 3 : Nat) : Int)]) _ _ HX0 (hf 3 _ j2) (hf 37 _ j3) (hf 4 _ j4) HO HB (by have := HLa.out; simp only [List.length_append, List.length_cons, List.length_nil] at this ⊢; omega) (fun c a d v w h => hP c a d v w h) R3 hn3 (hr3.below (by omega) (fun r hr => zax (hf3 r hr)) hB1) hf3 (by omega) (aK (fun a W vo k1 k2 k3 k4 _ => hK a W vo k1 k2 k3 k4)))
theorem six_4 (w : World) (x : Nat → Int) (s : Nat → ByteArray) (p : Nat → Bool) (A : Nat → Option Addr) (n c : Nat → Nat) (hx : x 0 = 4) (R10 : List (List Value)) (hn10 : n 10 = R10.length) (hr10 : ListRd w (.slice (A 10) (n 10) (c 10)) 3 R10) (hf10 : ∀ r, r ∈ R10 → fits zaj r) (hl10 : R10.length ≤ 64) : Six x s p A n c ([iN (x 0)]) (([iN (x 0)]) ++ [iN ((n 10 : Nat) : Int)] ++ R10.flatMap (itR zaj)) w := by
 intro w1 wc g f K vo hB1 HX0 h3 HO HB hP hK
 refine wp_seq (x := cl (cl ib6)) (y := cr (cl ib6)) (ir6_c w1 wc g f x s p A n c _ vo (f 37) HX0 h3 rfl HB (aK (fun a j1 j2 j3 => ?_)))
 refine wp_block (id := 0) (c := ic7) ?_
 refine j1.wpI (fun f hf => wp_seq (x := cl ic7) (y := cr ic7) (ir7_c w1 wc g f x s p A n c _ vo _ HX0 (hf 3 _ j2) (hf 37 _ j3) HB rfl false (by rw [hx]; rfl) (aK (fun a j1 j2 j3 j4 => ?_))))
 refine wp_cond_false (c := .tmp 38) (x := ic8) (y := ic16) (zhu j4) ?_
 refine j1.wpI (fun f hf => wp_seq (x := cl ic16) (y := cr ic16) (ir16_c w1 wc g f x s p A n c _ vo _ HX0 (hf 3 _ j2) (hf 37 _ j3) HB rfl false (by rw [hx]; rfl) (aK (fun a j1 j2 j3 j4 => ?_))))
 refine wp_cond_false (c := .tmp 84) (x := (c1 (cr ic16))) (y := ic18) (zhu j4) ?_
 refine j1.wpI (fun f hf => wp_seq (x := cl ic18) (y := cr ic18) (ir18_c w1 wc g f x s p A n c _ vo _ HX0 (hf 3 _ j2) (hf 37 _ j3) HB rfl false (by rw [hx]; rfl) (aK (fun a j1 j2 j3 j4 => ?_))))
 refine wp_cond_false (c := .tmp 91) (x := ic19) (y := ic32) (zhu j4) ?_
 refine j1.wpI (fun f hf => wp_seq (x := cl ic32) (y := cr ic32) (ir32_c w1 wc g f x s p A n c _ vo _ HX0 (hf 3 _ j2) (hf 37 _ j3) HB rfl true (by rw [hx]; rfl) (aK (fun a j1 j2 j3 j4 => ?_))))
 refine wp_cond_true (c := .tmp 174) (x := ic33) (y := (c2 (cr ic32))) (zhu j4) ?_
 have HLa : Aside0 (([] : List It).length ≤ 50) := aK (by simp)
 refine j1.wpI (fun f hf => wp_seq (x := cl ic33) (y := cr ic33) (ip_33 w1 _ g f x s p A n c _ ([iN (x 0)]) _ _ HX0 (hf 3 _ j2) (hf 37 _ j3) HO HB (aK (by have := HLa.out; simp only [List.length_append, List.length_cons, List.length_nil] at this ⊢; omega)) (aK (fun a W vo j1 j2 j4 j5 j3 => ?_))))
 have HO := aK j4
 have HB := aK j5
 refine j1.wpI (fun f hf => wp_seq (x := cl (cr ic33)) (y := cr (cr ic33)) (iz_34 _ g f _ _ _ (hf 3 _ j2) (hf 37 _ j3) (aK (fun a j1 j2 j3 j4 => ?_))))
 exact j1.wpI (fun f hf => zuo w1 _ g f x s p A n c _ (([iN (x 0)]) ++ [iN ((n 10 : Nat) : Int)]) _ _ HX0 (hf 3 _ j2) (hf 37 _ j3) (hf 8 _ j4) HO HB (by have := HLa.out; simp only [List.length_append, List.length_cons, List.length_nil] at this ⊢; omega) (fun c a d v w h => hP c a d v w h) R10 hn10 (hr10.below (by omega) (fun r hr => zax (hf10 r hr)) hB1) hf10 (by omega) (aK (fun a W vo k1 k2 k3 k4 _ => hK a W vo k1 k2 k3 k4)))
theorem six_3 (w : World) (x : Nat → Int) (s : Nat → ByteArray) (p : Nat → Bool) (A : Nat → Option Addr) (n c : Nat → Nat) (hx : x 0 = 3) (R8 : List (List Value)) (hn8 : n 8 = R8.length) (hr8 : ListRd w (.slice (A 8) (n 8) (c 8)) 5 R8) (hf8 : ∀ r, r ∈ R8 → fits zat r) (hl8 : R8.length ≤ 8) (R9 : List (List Value)) (hn9 : n 9 = R9.length) (hr9 : ListRd w (.slice (A 9) (n 9) (c 9)) 4 R9) (hf9 : ∀ r, r ∈ R9 → fits zau r) (hl9 : R9.length ≤ 8) : Six x s p A n c ([iN (x 0)] ++ [iN (x 1)] ++ [iN (x 2)]) ((([iN (x 0)] ++ [iN (x 1)] ++ [iN (x 2)]) ++ [iN (x 4), iN (x 5)] ++ [iN (x 6), iN (x 7), iN ((n 8 : Nat) : Int)]) ++ R8.flatMap (itR zat) ++ [iN ((n 9 : Nat) : Int)] ++ R9.flatMap (itR zau)) w := by
 intro w1 wc g f K vo hB1 HX0 h3 HO HB hP hK
 refine wp_seq (x := cl (cl ib6)) (y := cr (cl ib6)) (ir6_c w1 wc g f x s p A n c _ vo (f 37) HX0 h3 rfl HB (aK (fun a j1 j2 j3 => ?_)))
 refine wp_block (id := 0) (c := ic7) ?_
 refine j1.wpI (fun f hf => wp_seq (x := cl ic7) (y := cr ic7) (ir7_c w1 wc g f x s p A n c _ vo _ HX0 (hf 3 _ j2) (hf 37 _ j3) HB rfl false (by rw [hx]; rfl) (aK (fun a j1 j2 j3 j4 => ?_))))
 refine wp_cond_false (c := .tmp 38) (x := ic8) (y := ic16) (zhu j4) ?_
 refine j1.wpI (fun f hf => wp_seq (x := cl ic16) (y := cr ic16) (ir16_c w1 wc g f x s p A n c _ vo _ HX0 (hf 3 _ j2) (hf 37 _ j3) HB rfl false (by rw [hx]; rfl) (aK (fun a j1 j2 j3 j4 => ?_))))
 refine wp_cond_false (c := .tmp 84) (x := (c1 (cr ic16))) (y := ic18) (zhu j4) ?_
 refine j1.wpI (fun f hf => wp_seq (x := cl ic18) (y := cr ic18) (ir18_c w1 wc g f x s p A n c _ vo _ HX0 (hf 3 _ j2) (hf 37 _ j3) HB rfl true (by rw [hx]; rfl) (aK (fun a j1 j2 j3 j4 => ?_))))
 refine wp_cond_true (c := .tmp 91) (x := ic19) (y := ic32) (zhu j4) ?_
 have HLa : Aside0 ((R8.flatMap (itR zat)).length ≤ 40) := aK (by have := zfh zat 5 (by decide) R8; omega)
 refine j1.wpI (fun f hf => wp_seq (x := cl ic19) (y := cr ic19) (ip_19 w1 _ g f x s p A n c _ ([iN (x 0)] ++ [iN (x 1)] ++ [iN (x 2)]) _ _ HX0 (hf 3 _ j2) (hf 37 _ j3) HO HB (aK (by have := HLa.out; simp only [List.length_append, List.length_cons, List.length_nil] at this ⊢; omega)) (aK (fun a W vo j1 j2 j4 j5 j3 => ?_))))
 have HO := aK j4
 have HB := aK j5
 refine j1.wpI (fun f hf => wp_seq (x := cl (cr ic19)) (y := cr (cr ic19)) (ip_20 w1 _ g f x s p A n c _ (([iN (x 0)] ++ [iN (x 1)] ++ [iN (x 2)]) ++ [iN (x 4), iN (x 5)]) _ _ HX0 (hf 3 _ j2) (hf 37 _ j3) HO HB (aK (by have := HLa.out; simp only [List.length_append, List.length_cons, List.length_nil] at this ⊢; omega)) (aK (fun a W vo j1 j2 j4 j5 j3 => ?_))))
 have HO := aK j4
 have HB := aK j5
 refine j1.wpI (fun f hf => wp_seq (x := cl (cr (cr ic19))) (y := cr (cr (cr ic19))) (wp_seq (x := cl (cl (cr (cr ic19)))) (y := cr (cl (cr (cr ic19)))) (iz_21 _ g f _ _ _ (hf 3 _ j2) (hf 37 _ j3) (aK (fun a j1 j2 j3 j4 => ?_)))))
 refine j1.wpI (fun f hf => lpI_pair w1 _ g f x s p A n c _ (([iN (x 0)] ++ [iN (x 1)] ++ [iN (x 2)]) ++ [iN (x 4), iN (x 5)] ++ [iN (x 6), iN (x 7), iN ((n 8 : Nat) : Int)]) _ _ HX0 (hf 3 _ j2) (hf 37 _ j3) (hf 6 _ j4) HO HB (by have := HLa.out; simp only [List.length_append, List.length_cons, List.length_nil] at this ⊢; omega) (fun c a d v w h => hP c a d v w h) R8 hn8 (hr8.below (by omega) (fun r hr => zax (hf8 r hr)) hB1) hf8 (by omega) (aK (fun a W vo j1 j2 j4 j5 j3 => ?_)))
 have HO := aK j4
 have HB := aK j5
 refine j1.wpI (fun f hf => wp_seq (x := cl (cr (cr (cr ic19)))) (y := cr (cr (cr (cr ic19)))) (ip_26 w1 _ g f x s p A n c _ ((([iN (x 0)] ++ [iN (x 1)] ++ [iN (x 2)]) ++ [iN (x 4), iN (x 5)] ++ [iN (x 6), iN (x 7), iN ((n 8 : Nat) : Int)]) ++ R8.flatMap (itR zat)) _ _ HX0 (hf 3 _ j2) (hf 37 _ j3) HO HB (aK (by have := HLa.out; simp only [List.length_append, List.length_cons, List.length_nil] at this ⊢; omega)) (aK (fun a W vo j1 j2 j4 j5 j3 => ?_))))
 have HO := aK j4
 have HB := aK j5
 refine j1.wpI (fun f hf => wp_seq (x := cl (cr (cr (cr (cr ic19))))) (y := cr (cr (cr (cr (cr ic19))))) (iz_27 _ g f _ _ _ (hf 3 _ j2) (hf 37 _ j3) (aK (fun a j1 j2 j3 j4 => ?_))))
 exact j1.wpI (fun f hf => lpI_seen w1 _ g f x s p A n c _ ((([iN (x 0)] ++ [iN (x 1)] ++ [iN (x 2)]) ++ [iN (x 4), iN (x 5)] ++ [iN (x 6), iN (x 7), iN ((n 8 : Nat) : Int)]) ++ R8.flatMap (itR zat) ++ [iN ((n 9 : Nat) : Int)]) _ _ HX0 (hf 3 _ j2) (hf 37 _ j3) (hf 7 _ j4) HO HB (by have := HLa.out; simp only [List.length_append, List.length_cons, List.length_nil] at this ⊢; omega) (fun c a d v w h => hP c a d v w h) R9 hn9 (hr9.below (by omega) (fun r hr => zax (hf9 r hr)) hB1) hf9 (by omega) (aK (fun a W vo k1 k2 k3 k4 _ => hK a W vo k1 k2 k3 k4)))
end Go.Proofs.Ytcbehfbfaonanaa.Wr
end
section

namespace Go.Proofs.Ytcbehfbfaonanaa.Pk
open Go.RowKit Go.Proofs.YtcbehfbfaonanaaW.PrintWords Go.Proofs.YtcbehfbfaonanaaW.PrintLast Go.Proofs.YtcbehfbfaonanaaW.PrintMore Go.Proofs.Ytcbehfbfaonanaa.PRf
set_option linter.unusedVariables false
set_option linter.unusedSimpArgs false
def zhj (x : S98) : List Int := if x.f0 = 1 then [if x.f1 = 0 then 0 else 1] else if x.f0 = 2 then enc x.f2.size ++ zbq x.f2 else enc x.f1.toNat
def good (x : S98) : Prop := if x.f0 = 1 then True else if x.f0 = 2 then x.f2.size ≤ 9007199254740992 else 0 ≤ x.f1 ∧ x.f1 ≤ 9007199254740992
theorem zqt {x : S98} (h : good x) (acc : List Int) : zhx (acc, false) x = (acc ++ zhj x, false) := by
 obtain ⟨x0, x1, x2⟩ := x
 unfold zhx zhj
 unfold good at h
 simp only at h ⊢
 by_cases h1 : x0 = 1
 ·rw [if_pos h1, if_pos h1]
  unfold zev
  by_cases hz : x1 = 0
  ·subst hz
   rw [if_neg (by decide), wnum_good (by decide) (by decide), show (0 : Int).toNat = 0 from rfl, zeh (by decide)]
   rfl
  ·rw [if_pos (by simpa using hz), if_neg hz, wnum_good (by decide) (by decide), show (1 : Int).toNat = 1 from rfl, zeh (by decide)]
   rfl
 ·rw [if_neg h1] at h
  rw [if_neg h1, if_neg h1]
  by_cases h2 : x0 = 2
  ·rw [if_pos h2] at h
   rw [if_pos h2, if_pos h2]
   unfold zcv
   rw [wnum_good (by omega) (by omega), Int.toNat_natCast, if_neg (by simp), List.append_assoc]
  ·rw [if_neg h2] at h
   rw [if_neg h2, if_neg h2, wnum_good h.1 h.2]
theorem zup {l : List S98} : ∀ acc : List Int, (∀ x ∈ l, good x) → l.foldl zhx (acc, false) = (acc ++ l.flatMap zhj, false) := by
 induction l with
 | nil => intro acc _; simp
 | cons x l ih =>
  intro acc h
  rw [List.foldl_cons, zqt (h x (by simp)), ih _ (fun y hy => h y (by simp [hy])), List.flatMap_cons, List.append_assoc]
theorem wall_all {l : List S98} (h : ∀ x ∈ l, good x) : wall l = (l.flatMap zhj, false) := by
 unfold wall
 rw [zup [] h]
 rfl
end Go.Proofs.Ytcbehfbfaonanaa.Pk
namespace Go.Proofs.Ytcbehfbfaonanaa.Wr
open Go.RowKit Go.Proofs.YtcbehfbfaonanaaW.PrintWords Go.Proofs.YtcbehfbfaonanaaW.PrintLast Go.Proofs.YtcbehfbfaonanaaW.PrintMore Go.Proofs.Ytcbehfbfaonanaa.Pk
def zcz (m : M) : Step → List It
 | .row i fs => itR fs (zaq m.c i fs.length)
 | .most => itR [.num 0 0] (zaq m.c 7 1)
 | .lst j fs _ => iN ((m.L j).length : Int) :: (m.L j).flatMap (itR fs)
def zch (m : M) : List It := (zam (zbs m)).flatMap (zcz m)
theorem itF_good {f : Fld} {v : Value} (h : InF f v) : good (itF f v) ∧ zhj (itF f v) = fldB f v := by
 cases f with
 | num lo hi =>
  cases v with
  | int k n => cases k <;> first | exact h.elim | (exact ⟨⟨h.2.2.1, h.2.2.2⟩, rfl⟩)
  | _ => exact h.elim
 | flag =>
  cases v with
  | bool b => cases b <;> exact ⟨trivial, rfl⟩
  | _ => exact h.elim
 | text most =>
  cases v with
  | string s => exact ⟨h.2, rfl⟩
  | _ => exact h.elim
theorem zie : ∀ {fs : List Fld} {vs : List Value}, zbj fs vs → (∀ x, x ∈ itR fs vs → good x) ∧ (itR fs vs).flatMap zhj = rowB fs vs
 | [], [], _ => ⟨(fun x hx => nomatch hx), rfl⟩
 | f :: fs, v :: vs, h => by
  obtain ⟨h1, h2⟩ := itF_good h.1
  obtain ⟨h3, h4⟩ := zie h.2
  refine ⟨fun x hx => ?_, ?_⟩
  ·rcases List.mem_cons.1 hx with rfl | hx
   ·exact h1
   ·exact h3 x hx
  ·show zhj (itF f v) ++ (itR fs vs).flatMap zhj = fldB f v ++ rowB fs vs
   rw [h2, h4]
theorem zmt {fs : List Fld} : ∀ {rs : List (List Value)}, (∀ r, r ∈ rs → zbj fs r) → (∀ x, x ∈ rs.flatMap (itR fs) → good x) ∧ (rs.flatMap (itR fs)).flatMap zhj = zhb fs rs
 | [], _ => ⟨(fun x hx => nomatch hx), rfl⟩
 | r :: rs, h => by
  obtain ⟨h1, h2⟩ := zie (h r (.head _))
  obtain ⟨h3, h4⟩ := zmt (fs := fs) (rs := rs) (fun q hq => h q (.tail _ hq))
  refine ⟨fun x hx => ?_, ?_⟩
  ·rw [List.flatMap_cons] at hx
   rcases List.mem_append.1 hx with hx | hx
   ·exact h1 x hx
   ·exact h3 x hx
  ·rw [List.flatMap_cons, List.flatMap_append, h2, h4]
   rfl
theorem znx {m : M} (hm : ∀ j, (m.L j).length ≤ 1048576) {t : Step} (h : zbv m t) : (∀ x, x ∈ zcz m t → good x) ∧ (zcz m t).flatMap zhj = zua m t := by
 cases t with
 | row i fs => exact zie h
 | most =>
  have h := h
  simp only [zbv, zaq, zbj] at h
  have h := h.1
  obtain ⟨n, hn⟩ : ∃ n, m.c 7 = .int .i64 n := by
   revert h
   cases m.c 7 with
   | int k n => cases k <;> first | (intro h; exact h.elim) | (intro _; exact ⟨n, rfl⟩)
   | _ => intro h; exact h.elim
  rw [hn] at h
  have h' : zbj [.num 0 9007199254740992] (zaq m.c 7 1) := by
   simp only [zaq, zbj, hn]
   exact ⟨⟨h.2.2.1, h.2.2.2, h.2.2.1, h.2.2.2⟩, trivial⟩
  obtain ⟨k1, k2⟩ := zie h'
  have e1 : zcz m .most = itR [.num 0 9007199254740992] (zaq m.c 7 1) := by
   show itR [.num 0 0] (zaq m.c 7 1) = _
   simp only [zaq, hn]
   rfl
  have e2 : zua m .most = rowB [.num 0 9007199254740992] (zaq m.c 7 1) := by
   show rowB [.num (zgd (m.c 6)) 128] (zaq m.c 7 1) = _
   simp only [zaq, hn]
   rfl
  rw [e1, e2]
  exact ⟨k1, k2⟩
 | lst j fs n =>
  obtain ⟨h1, h2⟩ := zmt h.2
  have hl := hm j
  refine ⟨fun x hx => ?_, ?_⟩
  ·rcases List.mem_cons.1 hx with rfl | hx
   ·show (0 : Int) ≤ ((m.L j).length : Int) ∧ ((m.L j).length : Int) ≤ 9007199254740992
    omega
   ·exact h1 x hx
  ·show zhj (iN ((m.L j).length : Int)) ++ ((m.L j).flatMap (itR fs)).flatMap zhj = _
   rw [h2]
   rfl
theorem zkd {m : M} (hm : ∀ j, (m.L j).length ≤ 1048576) : ∀ {ts : List Step}, (∀ t, t ∈ ts → zbv m t) → (∀ x, x ∈ ts.flatMap (zcz m) → good x) ∧ (ts.flatMap (zcz m)).flatMap zhj = zdn m ts
 | [], _ => ⟨(fun x hx => nomatch hx), rfl⟩
 | t :: ts, h => by
  obtain ⟨h1, h2⟩ := znx hm (h t (.head _))
  obtain ⟨h3, h4⟩ := zkd hm (ts := ts) (fun q hq => h q (.tail _ hq))
  refine ⟨fun x hx => ?_, ?_⟩
  ·rw [List.flatMap_cons] at hx
   rcases List.mem_append.1 hx with hx | hx
   ·exact h1 x hx
   ·exact h3 x hx
  ·rw [List.flatMap_cons, List.flatMap_append, h2, h4]
   rfl
theorem zuq {m : M} (ht : zbh m) (hf : Fit m) (hm : ∀ j, (m.L j).length ≤ 1048576) (h : zlg m) : wall (zch m) = (payB m, false) := by
 obtain ⟨h1, h2⟩ := zkd hm h.2
 rw [pay_eq ht hf h, ← h2]
 exact wall_all h1
end Go.Proofs.Ytcbehfbfaonanaa.Wr

end
section
namespace Go.Proofs.Ytcbehfbfaonanaa.Wr
open Go.RowKit Go.Proofs.YtcbehfbfaonanaaW.PrintWords Go.Proofs.YtcbehfbfaonanaaW.PrintLast Go.Proofs.YtcbehfbfaonanaaW.PrintMore Go.Proofs.Ytcbehfbfaonanaa.Pk
set_option linter.unusedVariables false
set_option linter.unusedSimpArgs false
theorem its_1 {m : M} (ht : zbh m) (hk : zbs m = 1) : ([iN (xi m.c 0)] ++ [iN (xi m.c 1)] ++ [iN (xi m.c 2)]) ++ [iN (((m.L 3).length : Nat) : Int)] ++ (m.L 3).flatMap (itR zak) = zch m := by
 unfold zch
 rw [hk]
 simp only [zam, zel, List.flatMap_cons, List.flatMap_nil, zcz, zaq, posF, zdm, List.length_cons, List.length_nil, Nat.reduceAdd, itR, itF, ce0 ht, ce1 ht, ce2 ht, List.append_assoc, List.cons_append, List.nil_append, List.append_nil]
theorem its_2 {m : M} (ht : zbh m) (hk : zbs m = 2) : ([iN (xi m.c 0)] ++ [iN (xi m.c 1)] ++ [iN (xi m.c 2)]) ++ [iN (xi m.c 11), iN (xi m.c 12)] = zch m := by
 unfold zch
 rw [hk]
 simp only [zam, zfe, List.flatMap_cons, List.flatMap_nil, zcz, zaq, posF, zdm, List.length_cons, List.length_nil, Nat.reduceAdd, itR, itF, ce0 ht, ce1 ht, ce2 ht, ce11 ht, ce12 ht, List.append_assoc, List.cons_append, List.nil_append, List.append_nil]
theorem its_3 {m : M} (ht : zbh m) (hk : zbs m = 3) : (([iN (xi m.c 0)] ++ [iN (xi m.c 1)] ++ [iN (xi m.c 2)]) ++ [iN (xi m.c 4), iN (xi m.c 5)] ++ [iN (xi m.c 6), iN (xi m.c 7), iN (((m.L 8).length : Nat) : Int)]) ++ (m.L 8).flatMap (itR zat) ++ [iN (((m.L 9).length : Nat) : Int)] ++ (m.L 9).flatMap (itR zau) = zch m := by
 unfold zch
 rw [hk]
 simp only [zam, zcu, List.flatMap_cons, List.flatMap_nil, zcz, zaq, posF, zdm, List.length_cons, List.length_nil, Nat.reduceAdd, itR, itF, ce0 ht, ce1 ht, ce2 ht, ce4 ht, ce5 ht, ce6 ht, ce7 ht, List.append_assoc, List.cons_append, List.nil_append, List.append_nil]
theorem its_4 {m : M} (ht : zbh m) (hk : zbs m = 4) : ([iN (xi m.c 0)]) ++ [iN (((m.L 10).length : Nat) : Int)] ++ (m.L 10).flatMap (itR zaj) = zch m := by
 unfold zch
 rw [hk]
 simp only [zam, zgc, List.flatMap_cons, List.flatMap_nil, zcz, zaq, posF, zdm, List.length_cons, List.length_nil, Nat.reduceAdd, itR, itF, ce0 ht, List.append_assoc, List.cons_append, List.nil_append, List.append_nil]
theorem its_5 {m : M} (ht : zbh m) (hk : zbs m = 5) : ([iN (xi m.c 0)] ++ [iN (xi m.c 1)] ++ [iN (xi m.c 2)]) ++ [iN (xi m.c 11), iN (xi m.c 12)] ++ [iF (bi m.c 13)] = zch m := by
 unfold zch
 rw [hk]
 simp only [zam, zff, List.flatMap_cons, List.flatMap_nil, zcz, zaq, posF, zdm, List.length_cons, List.length_nil, Nat.reduceAdd, itR, itF, ce0 ht, ce1 ht, ce2 ht, ce11 ht, ce12 ht, ce13 ht, List.append_assoc, List.cons_append, List.nil_append, List.append_nil]
theorem its_6 {m : M} (ht : zbh m) (hk : zbs m = 6) : ([iN (xi m.c 0)] ++ [iN (xi m.c 2)]) = zch m := by
 unfold zch
 rw [hk]
 simp only [zam, zhd, List.flatMap_cons, List.flatMap_nil, zcz, zaq, posF, zdm, List.length_cons, List.length_nil, Nat.reduceAdd, itR, itF, ce0 ht, ce2 ht, List.append_assoc, List.cons_append, List.nil_append, List.append_nil]
theorem its_7 {m : M} (ht : zbh m) (hk : zbs m = 7) : ([iN (xi m.c 0)] ++ [iN (xi m.c 1)] ++ [iN (xi m.c 2)]) ++ [iN (xi m.c 14), iN (xi m.c 15)] ++ [iS (si m.c 16)] ++ [iN (xi m.c 19), iN (xi m.c 20)] = zch m := by
 unfold zch
 rw [hk]
 simp only [zam, zdr, List.flatMap_cons, List.flatMap_nil, zcz, zaq, posF, zdm, List.length_cons, List.length_nil, Nat.reduceAdd, itR, itF, ce0 ht, ce1 ht, ce2 ht, ce14 ht, ce15 ht, ce16 ht, ce19 ht, ce20 ht, List.append_assoc, List.cons_append, List.nil_append, List.append_nil]
theorem its_8 {m : M} (ht : zbh m) (hk : zbs m = 8) : ([iN (xi m.c 0)] ++ [iN (xi m.c 1)] ++ [iN (xi m.c 2)]) ++ [iN (xi m.c 14), iN (xi m.c 15)] ++ [iS (si m.c 16)] ++ [iF (bi m.c 17), iS (si m.c 18)] ++ [iN (xi m.c 19), iN (xi m.c 20)] = zch m := by
 unfold zch
 rw [hk]
 simp only [zam, zdl, List.flatMap_cons, List.flatMap_nil, zcz, zaq, posF, zdm, List.length_cons, List.length_nil, Nat.reduceAdd, itR, itF, ce0 ht, ce1 ht, ce2 ht, ce14 ht, ce15 ht, ce16 ht, ce17 ht, ce18 ht, ce19 ht, ce20 ht, List.append_assoc, List.cons_append, List.nil_append, List.append_nil]
theorem its_9 {m : M} (ht : zbh m) (hk : zbs m = 9) : ([iN (xi m.c 0)] ++ [iN (xi m.c 1)] ++ [iN (xi m.c 2)]) ++ [iN (xi m.c 14), iN (xi m.c 15), iN (xi m.c 21)] ++ [iN (xi m.c 22), iN (xi m.c 23), iF (bi m.c 24), iS (si m.c 25)] ++ [iN (xi m.c 11), iN (xi m.c 12)] ++ [iN (xi m.c 19), iN (xi m.c 20)] = zch m := by
 unfold zch
 rw [hk]
 simp only [zam, zdc, List.flatMap_cons, List.flatMap_nil, zcz, zaq, posF, zdm, List.length_cons, List.length_nil, Nat.reduceAdd, itR, itF, ce0 ht, ce1 ht, ce2 ht, ce14 ht, ce15 ht, ce21 ht, ce22 ht, ce23 ht, ce24 ht, ce25 ht, ce11 ht, ce12 ht, ce19 ht, ce20 ht, List.append_assoc, List.cons_append, List.nil_append, List.append_nil]
theorem its_10 {m : M} (ht : zbh m) (hk : zbs m = 10) : ([iN (xi m.c 0)] ++ [iN (xi m.c 1)] ++ [iN (xi m.c 2)]) ++ [iN (xi m.c 14), iN (xi m.c 15), iN (xi m.c 21)] ++ [iN (xi m.c 4), iN (xi m.c 5)] ++ [iN (xi m.c 19), iN (xi m.c 20)] = zch m := by
 unfold zch
 rw [hk]
 simp only [zam, zcq, List.flatMap_cons, List.flatMap_nil, zcz, zaq, posF, zdm, List.length_cons, List.length_nil, Nat.reduceAdd, itR, itF, ce0 ht, ce1 ht, ce2 ht, ce14 ht, ce15 ht, ce21 ht, ce4 ht, ce5 ht, ce19 ht, ce20 ht, List.append_assoc, List.cons_append, List.nil_append, List.append_nil]
theorem items_c (w : World) (va : Value) (m : M) (sv : Nat → Value) (h : MsgRd w va m sv) (hA : zlg m) : Calls Try.prog 23 #[va] w (zcy (zch m) w) := by
 have ht := h.typed
 have hf := h.fit
 have hr : ∀ j fs, (j, fs) ∈ zah → sv j = .slice (sA (sv j)) (m.L j).length (sC (sv j)) := fun j fs hj => by
  obtain ⟨a, c, e, _⟩ := h.rd j fs hj
  rw [e]; rfl
 have e : va = .agg (cX (xi m.c) (si m.c) (bi m.c) (fun j => .slice (sA (sv j)) (m.L j).length (sC (sv j)))) := by
  rw [h.eq]
  unfold msgV
  rw [zpa ht]
  unfold cX
  rw [hr 3 zak (by simp [zah]), hr 8 zat (by simp [zah]), hr 9 zau (by simp [zah]), hr 10 zaj (by simp [zah])]
 have hrd : ∀ j fs, (j, fs) ∈ zah → ListRd w (.slice (sA (sv j)) (m.L j).length (sC (sv j))) fs.length (m.L j) := fun j fs hj => by
  have := h.rd j fs hj
  rwa [hr j fs hj] at this
 obtain ⟨k, hk⟩ : ∃ x, m.c 0 = .int .i64 x := ht 0 rfl
 have hx : xi m.c 0 = k := by unfold xi; rw [hk]
 have hkm := zcb hk
 obtain ⟨hr10, hA⟩ := hA
 rw [hkm] at hr10 hA
 rw [e]
 clear e hr h
 rcases in_10 hr10 with rfl | rfl | rfl | rfl | rfl | rfl | rfl | rfl | rfl | rfl
 ·rw [← its_1 ht hkm]
  exact zft w (xi m.c) (si m.c) (bi m.c) (fun j => sA (sv j)) (fun j => (m.L j).length) (fun j => sC (sv j)) _ (by rw [hx]; rfl) (by rw [hx]; rfl) (six_1 w (xi m.c) (si m.c) (bi m.c) (fun j => sA (sv j)) (fun j => (m.L j).length) (fun j => sC (sv j)) hx (m.L 3) rfl (hrd 3 zak (by simp [zah])) (hf 3 zak (by simp [zah])) (hA (.lst 3 zak 8) (by simp [zam, zel])).1)
 ·rw [← its_2 ht hkm]
  exact zft w (xi m.c) (si m.c) (bi m.c) (fun j => sA (sv j)) (fun j => (m.L j).length) (fun j => sC (sv j)) _ (by rw [hx]; rfl) (by rw [hx]; rfl) (six_2 w (xi m.c) (si m.c) (bi m.c) (fun j => sA (sv j)) (fun j => (m.L j).length) (fun j => sC (sv j)) hx)
 ·rw [← its_3 ht hkm]
  exact zft w (xi m.c) (si m.c) (bi m.c) (fun j => sA (sv j)) (fun j => (m.L j).length) (fun j => sC (sv j)) _ (by rw [hx]; rfl) (by rw [hx]; rfl) (six_3 w (xi m.c) (si m.c) (bi m.c) (fun j => sA (sv j)) (fun j => (m.L j).length) (fun j => sC (sv j)) hx (m.L 8) rfl (hrd 8 zat (by simp [zah])) (hf 8 zat (by simp [zah])) (hA (.lst 8 zat 8) (by simp [zam, zcu])).1 (m.L 9) rfl (hrd 9 zau (by simp [zah])) (hf 9 zau (by simp [zah])) (hA (.lst 9 zau 8) (by simp [zam, zcu])).1)
 ·rw [← its_4 ht hkm]
  exact items_b w (xi m.c) (si m.c) (bi m.c) (fun j => sA (sv j)) (fun j => (m.L j).length) (fun j => sC (sv j)) _ (by rw [hx]; rfl) (six_4 w (xi m.c) (si m.c) (bi m.c) (fun j => sA (sv j)) (fun j => (m.L j).length) (fun j => sC (sv j)) hx (m.L 10) rfl (hrd 10 zaj (by simp [zah])) (hf 10 zaj (by simp [zah])) (hA (.lst 10 zaj 64) (by simp [zam, zgc])).1)
 ·rw [← its_5 ht hkm]
  exact zft w (xi m.c) (si m.c) (bi m.c) (fun j => sA (sv j)) (fun j => (m.L j).length) (fun j => sC (sv j)) _ (by rw [hx]; rfl) (by rw [hx]; rfl) (six_5 w (xi m.c) (si m.c) (bi m.c) (fun j => sA (sv j)) (fun j => (m.L j).length) (fun j => sC (sv j)) hx)
 ·rw [← its_6 ht hkm]
  exact items_c_ w (xi m.c) (si m.c) (bi m.c) (fun j => sA (sv j)) (fun j => (m.L j).length) (fun j => sC (sv j)) _ (by rw [hx]; rfl) (by rw [hx]; rfl) (six_6 w (xi m.c) (si m.c) (bi m.c) (fun j => sA (sv j)) (fun j => (m.L j).length) (fun j => sC (sv j)) hx)
 ·rw [← its_7 ht hkm]
  exact zft w (xi m.c) (si m.c) (bi m.c) (fun j => sA (sv j)) (fun j => (m.L j).length) (fun j => sC (sv j)) _ (by rw [hx]; rfl) (by rw [hx]; rfl) (six_7 w (xi m.c) (si m.c) (bi m.c) (fun j => sA (sv j)) (fun j => (m.L j).length) (fun j => sC (sv j)) hx)
 ·rw [← its_8 ht hkm]
  exact zft w (xi m.c) (si m.c) (bi m.c) (fun j => sA (sv j)) (fun j => (m.L j).length) (fun j => sC (sv j)) _ (by rw [hx]; rfl) (by rw [hx]; rfl) (six_8 w (xi m.c) (si m.c) (bi m.c) (fun j => sA (sv j)) (fun j => (m.L j).length) (fun j => sC (sv j)) hx)
 ·rw [← its_9 ht hkm]
  exact zft w (xi m.c) (si m.c) (bi m.c) (fun j => sA (sv j)) (fun j => (m.L j).length) (fun j => sC (sv j)) _ (by rw [hx]; rfl) (by rw [hx]; rfl) (six_9 w (xi m.c) (si m.c) (bi m.c) (fun j => sA (sv j)) (fun j => (m.L j).length) (fun j => sC (sv j)) hx)
 ·rw [← its_10 ht hkm]
  exact zft w (xi m.c) (si m.c) (bi m.c) (fun j => sA (sv j)) (fun j => (m.L j).length) (fun j => sC (sv j)) _ (by rw [hx]; rfl) (by rw [hx]; rfl) (six_10 w (xi m.c) (si m.c) (bi m.c) (fun j => sA (sv j)) (fun j => (m.L j).length) (fun j => sC (sv j)) hx)
end Go.Proofs.Ytcbehfbfaonanaa.Wr
end
section
namespace Go.Proofs.Ytcbehfbfaonanaa.Wr
open Go.RowKit Go.Proofs.YtcbehfbfaonanaaW.PrintWords Go.Proofs.YtcbehfbfaonanaaW.PrintLast Go.Proofs.YtcbehfbfaonanaaW.PrintMore Go.Proofs.Ytcbehfbfaonanaa.Pk
open Go.Proofs.Ytcbehfbfaonanaa.PFr (zcc zdf ansE Ok meridianref03_Seal.calls zsw)
set_option linter.unusedVariables false
set_option linter.unusedSimpArgs false
theorem zqu {l1 l2 : List Int} (h1 : ∀ x ∈ l1, Pk.IsB x) (h2 : ∀ x ∈ l2, Pk.IsB x) : ((strOfNums l1).toList == (strOfNums l2).toList) = true ↔ l1 = l2 := by
 rw [beq_iff_eq]
 constructor
 ·intro h
  have h' := zbo h
  have e1 := congrArg zbq h'
  rwa [zha h1, zha h2] at e1
 ·rintro rfl; rfl
theorem zur (w : World) (va vb : Value) (l0 l1 : List Int) (ha : BRd w va l0) (hb : BRd w vb l1) (h1 : ∀ x ∈ l0, Pk.IsB x) (h2 : ∀ x ∈ l1, Pk.IsB x) :
  Calls Try.prog 14 #[va, vb] w (zgj (l0 = l1) w) := by
 obtain ⟨A0, c0, rfl, r0, _⟩ := ha
 obtain ⟨A1, c1, rfl, r1, _⟩ := hb
 have hcv3 := Kd.C_string (P := Try.prog) (A := A0) (c := c0) Try.underlying37 Try.underlying5 Try.underlying9 r0
 have hcv4 := Kd.C_string (P := Try.prog) (A := A1) (c := c1) Try.underlying37 Try.underlying5 Try.underlying9 r1
 have HI := aK (zqu h1 h2)
 clear h1 h2 r0 r1
 go_enter Try.func14, Try.ntmps14
 go_wp2
 go_ret
 exact ⟨_, rfl, HI.out, by repeat (first | exact Below.refl _ _ | apply zaf | apply zac)⟩
theorem rseal_c (w : World) (v : Value) (p : List Int) (h : BRd w v p) (hb : ∀ x ∈ p, Pk.IsB x) (hl : p.length ≤ 140737488351232) (hO : Ok p) :
  Calls Try.prog 24 #[v] w (fun e w' => Below w.heap.size w w' ∧ ∃ v', e = .returned (.tuple #[v', .bool true]) ∧ BRd w' v' (zcc p)) := by
 obtain ⟨A, c, rfl, h1, h2⟩ := h
 obtain ⟨k, hk⟩ := (zsw hb hl).rounds
 rw [if_pos hO] at hk
 refine (meridianref03_Seal.calls k A c p _ _ w h1 h2 hk).mono ?_
 rintro e w' ⟨v', rfl, hR, hB⟩
 obtain ⟨A', c', rfl⟩ := Kd.R_slice hR
 exact ⟨hB, _, rfl, A', c', rfl, (Kd.R_reads' hR).2.2, (Kd.R_reads' hR).2.1⟩
theorem copy_L (m : M) : ∀ (ts : List Step) (a : M) (j : Nat), (copy m a ts).L j = m.L j ∨ (copy m a ts).L j = a.L j
 | [], a, j => .inr rfl
 | t :: ts, a, j => by
  rcases copy_L m ts (zqq m a t) j with h | h
  ·exact .inl h
  ·cases t with
   | row i fs => exact .inr h
   | most => exact .inr h
   | lst k fs n =>
    have e : (zqq m a (.lst k fs n)).L j = if j = k then m.L k else a.L j := rfl
    by_cases hk : j = k
    ·subst hk
     rw [e, if_pos rfl] at h
     exact .inl h
    ·rw [e, if_neg hk] at h
     exact .inr h
theorem only_len {m : M} {N : Nat} (h : ∀ j, (m.L j).length ≤ N) (j : Nat) : ((zbx m).L j).length ≤ N := by
 rcases copy_L m (zam (zbs m)) zcn j with e | e
 ·show ((copy m zcn (zam (zbs m))).L j).length ≤ N
  rw [e]; exact h j
 ·show ((copy m zcn (zam (zbs m))).L j).length ≤ N
  rw [e]; exact Nat.zero_le _
end Go.Proofs.Ytcbehfbfaonanaa.Wr
end
section
namespace Go.Proofs.Ytcbehfbfaonanaa.Wr
open Go.RowKit Go.Proofs.YtcbehfbfaonanaaW.PrintWords Go.Proofs.YtcbehfbfaonanaaW.PrintLast Go.Proofs.YtcbehfbfaonanaaW.PrintMore Go.Proofs.Ytcbehfbfaonanaa.Pk
open Go.Proofs.Ytcbehfbfaonanaa.PFr (zcc zdf ansE Ok)
set_option linter.unusedVariables false
set_option linter.unusedSimpArgs false
def IsRE (m : M) (w : World) (e : Ending) (w' : World) : Prop := Below w.heap.size w w' ∧
 ((zdk m ∧ ∃ v, e = .returned (.tuple #[v, .bool true]) ∧ BRd w' v (zcc (payB m))) ∨ (¬ zdk m ∧ e = .returned (.tuple #[.slice none 0 0, .bool false])))
theorem zus (w : World) (cs : Array Value) (hi : (Try.prog.info? 32).map (·.size) = some cs.size) (HR : Aside0 (∀ W, Below w.heap.size w W → Calls Try.prog 21 #[.agg cs] W (fun e w' => e = .returned (.bool false) ∧ Below W.heap.size W w'))) :
  Calls Try.prog 12 #[.agg cs] w (fun e w' => e = .returned (.tuple #[.slice none 0 0, .bool false]) ∧ Below w.heap.size w w') := by
 go_enter Try.func12, Try.ntmps12
 go_wp2_with (first | ((with_reducible refine zag (N := 1) rfl ?_); refine zbf rfl 32 (.tmp 0) rfl cs rfl ?_; intro g1 w1 hg hbox hb; have HX1 := aK hbox; have HB1 := aK hb; clear hg hbox hb) | ((with_reducible refine zag (N := 6) rfl ?_); refine zbl rfl 32 (.tmp 1) rfl g1 rfl cs 32 HX1.out _ Try.underlying32 rfl hi ?_) | (go_at_call 21; (with_reducible refine (HR.out _ HB1.out).mono ?_); rintro e w2 ⟨rfl, hB⟩; have HB2 := aK (HB1.out.trans (hB.mono HB1.out.size)); clear hB))
 go_ret2
 exact ⟨rfl, HB2.out⟩
theorem zqv (w : World) (cs : Array Value) (p : List Int) (hi : (Try.prog.info? 32).map (·.size) = some cs.size) (HR : Aside0 (∀ W, Below w.heap.size w W → Calls Try.prog 21 #[.agg cs] W (fun e w' => e = .returned (.bool true) ∧ Below W.heap.size W w')))
  (HI : Aside0 (∀ W, Below w.heap.size w W → Calls Try.prog 23 #[.agg cs] W (fun e w' => ∃ v, e = .returned v ∧ Below W.heap.size W w' ∧ ∀ W', Below w'.heap.size w' W' → Calls Try.prog 22 #[v] W' (fun e w'' => ∃ v2, e = .returned (.tuple #[v2, .bool true]) ∧ Below W'.heap.size W' w'' ∧ BRd w'' v2 p))))
  (HS : Aside0 (∀ W v, BRd W v p → Calls Try.prog 24 #[v] W (fun e w' => Below W.heap.size W w' ∧ ∃ v', e = .returned (.tuple #[v', .bool true]) ∧ BRd w' v' (zcc p)))) :
  Calls Try.prog 12 #[.agg cs] w (fun e w' => Below w.heap.size w w' ∧ ∃ v, e = .returned (.tuple #[v, .bool true]) ∧ BRd w' v (zcc p)) := by
 go_enter Try.func12, Try.ntmps12
 go_wp2_with (first | ((with_reducible refine zag (N := 1) rfl ?_); refine zbf rfl 32 (.tmp 0) rfl cs rfl ?_; intro g1 w1 hg hbox hb; have HX1 := aK hbox; have HB1 := aK hb; clear hg hbox hb) | ((with_reducible refine zag (N := 6) rfl ?_); refine zbl rfl 32 (.tmp 1) rfl g1 rfl cs 32 HX1.out _ Try.underlying32 rfl hi ?_) | (go_at_call 21; (with_reducible refine (HR.out _ HB1.out).mono ?_); rintro e w2 ⟨rfl, hB⟩; have HB2 := aK (HB1.out.trans (hB.mono HB1.out.size)); have HX2 := aK ((hB.block g1 (zad HX1.out)).trans HX1.out); clear hB) | ((with_reducible refine zag (N := 10) rfl ?_); refine zbl rfl 32 (.tmp 1) rfl g1 rfl cs 32 HX2.out _ Try.underlying32 rfl hi ?_) | (go_at_call 23; (with_reducible refine (HI.out _ HB2.out).mono ?_); rintro e w3 ⟨vi, rfl, hB, hby⟩; have HB3 := aK (HB2.out.trans (hB.mono HB2.out.size)); have HY := aK (hby w3 (Below.refl _ _)); clear hB hby) | (go_at_call 22; (with_reducible refine HY.out.mono ?_); rintro e w4 ⟨v2, rfl, hB, hv⟩; have HB4 := aK (HB3.out.trans (hB.mono HB3.out.size)); have HV := aK hv; clear hB hv) | (go_at_call 24; (with_reducible refine (HS.out _ _ HV.out).mono ?_); rintro e w5 ⟨hB, v5, rfl, hv⟩; have HB5 := aK (HB4.out.trans (hB.mono HB4.out.size)); have HV5 := aK hv; clear hB hv))
 go_ret2
 exact ⟨HB5.out, _, rfl, HV5.out⟩
theorem zli : ∀ {fs : List Fld} {vs : List Value}, zbj fs vs → (∀ f, f ∈ fs → ∀ k, f = .text k → k ≤ 1024) → ∀ x ∈ itR fs vs, x.f2.size ≤ 100000
 | [], _, _, _ => fun x hx => nomatch hx
 | _ :: _, [], h, _ => h.elim
 | f :: fs, v :: vs, h, hk => fun x hx => by
  rcases List.mem_cons.1 hx with rfl | hx
  ·have h1 := h.1
   cases f with
   | text k =>
    cases v with
    | string s =>
     have h2 := hk _ (.head _) k rfl
     have h3 := h1.1
     show s.size ≤ 100000
     omega
    | _ => exact h1.elim
   | num a b =>
    cases v with
    | int kk n => cases kk <;> exact Nat.zero_le _
    | _ => exact Nat.zero_le _
   | flag =>
    cases v with
    | bool b => exact Nat.zero_le _
    | _ => exact Nat.zero_le _
  ·exact zli h.2 (fun f hf => hk f (.tail _ hf)) x hx
def litF (fs : List Fld) : Bool := fs.all (fun f => match f with | .text k => decide (k ≤ 1024) | _ => true)
theorem zut {fs : List Fld} (h : litF fs = true) : ∀ f, f ∈ fs → ∀ k, f = .text k → k ≤ 1024 := fun f hf k e => by
 have := List.all_eq_true.1 h f hf
 rw [e] at this
 simpa using this
def litS : Step → Bool
 | .row _ fs => litF fs && decide (fs.length ≤ 8)
 | .most => true
 | .lst _ fs k => litF fs && (decide (fs.length ≤ 8) && decide (k ≤ 64))
theorem zuu {n : Int} (h : 1 ≤ n ∧ n ≤ 10) : (zam n).all litS = true ∧ (zam n).length ≤ 20 := by
 rcases in_10 h with rfl | rfl | rfl | rfl | rfl | rfl | rfl | rfl | rfl | rfl <;> exact ⟨by decide, by decide⟩
theorem zuv {m : M} {t : Step} (h : zbv m t) (hl : litS t = true) : (∀ x ∈ zcz m t, x.f2.size ≤ 100000) ∧ (zcz m t).length ≤ 600 := by
 cases t with
 | row i fs =>
  simp only [litS, Bool.and_eq_true, decide_eq_true_eq] at hl
  have := zlh fs (zaq m.c i fs.length)
  exact ⟨zli h (zut hl.1), by show (itR fs _).length ≤ 600; omega⟩
 | most =>
  have := zlh [.num 0 0] (zaq m.c 7 1)
  refine ⟨fun x hx => ?_, by show (itR _ _).length ≤ 600; simp only [List.length_cons, List.length_nil] at this; omega⟩
  have e : zcz m .most = [itF (.num 0 0) (m.c 7)] := rfl
  rw [e] at hx
  obtain rfl : x = _ := by simpa using hx
  cases m.c 7 with
  | int k n => cases k <;> exact Nat.zero_le _
  | _ => exact Nat.zero_le _
 | lst j fs k =>
  simp only [litS, Bool.and_eq_true, decide_eq_true_eq] at hl
  obtain ⟨h1, h2⟩ := h
  have hr := zfh fs 8 hl.2.1 (m.L j)
  refine ⟨fun x hx => ?_, ?_⟩
  ·rcases List.mem_cons.1 hx with rfl | hx
   ·exact Nat.zero_le _
   ·obtain ⟨r, hr, hx⟩ := List.mem_flatMap.1 hx
    exact zli (h2 r hr) (zut hl.1) x hx
  ·show (iN _ :: (m.L j).flatMap (itR fs)).length ≤ 600
   simp only [List.length_cons]
   omega
theorem zuw {m : M} (h : zlg m) : (∀ x ∈ zch m, x.f2.size ≤ 100000) ∧ (zch m).length ≤ 12000 := by
 obtain ⟨hl, hn⟩ := zuu h.1
 have key : ∀ ts : List Step, (∀ t, t ∈ ts → zbv m t) → ts.all litS = true → (∀ x ∈ ts.flatMap (zcz m), x.f2.size ≤ 100000) ∧ (ts.flatMap (zcz m)).length ≤ 600 * ts.length := by
  intro ts
  induction ts with
  | nil => intro _ _; exact ⟨(fun x hx => nomatch hx), Nat.zero_le _⟩
  | cons t ts ih =>
   intro h1 h2
   simp only [List.all_cons, Bool.and_eq_true] at h2
   obtain ⟨a1, a2⟩ := zuv (h1 t (.head _)) h2.1
   obtain ⟨b1, b2⟩ := ih (fun q hq => h1 q (.tail _ hq)) h2.2
   refine ⟨fun x hx => ?_, ?_⟩
   ·rw [List.flatMap_cons] at hx
    rcases List.mem_append.1 hx with hx | hx
    ·exact a1 x hx
    ·exact b1 x hx
   ·simp only [List.flatMap_cons, List.length_append, List.length_cons]
    omega
 obtain ⟨k1, k2⟩ := key _ h.2 hl
 exact ⟨k1, by unfold zch; omega⟩
theorem zmu (w : World) (va : Value) (m : M) (sv : Nat → Value) (h : MsgRd w va m sv) (hs : ∀ j, (m.L j).length ≤ 1048576) (hsm : zdk m → Small m) : Calls Try.prog 12 #[va] w (IsRE m w) := by
 have hsz : (Try.prog.info? 32).map (·.size) = some (msgC m.c sv).size := zbp
 have hR := fun (W : World) (hB : Below w.heap.size w W) => zqs W va m sv (h.below hB) hs (only_len hs)
 have e := h.eq
 unfold msgV at e
 by_cases hr : zdk m
 ·have hA := ((zmr h.typed h.fit).1 hr).1
  have hI := fun (W : World) (hB : Below w.heap.size w W) => items_c W va m sv (h.below hB) hA
  rw [e] at hR hI ⊢
  have hp := zgy (hsm hr)
  have hok := zti h.typed hr.1
  refine (zqv w _ (payB m) hsz (aK (fun W hB => zdb hr (hR W hB))) (aK (fun W hB => (hI W hB).mono ?_)) (aK (fun W v hv => rseal_c W v _ hv hp (by unfold Ok at hok; omega) hok))).mono ?_
  ·rintro e w' ⟨v, rfl, hv, hB2⟩
   refine ⟨v, rfl, hB2, fun W' hW' => ?_⟩
   obtain ⟨A, c, rfl, h1, h2⟩ := Kd.R_reads (hv.below hW')
   obtain ⟨i1, i2⟩ := zuw hA
   refine (zpx A c (zch m) W' h2 i1 (by omega)).mono ?_
   intro e w'' hw
   have hpay := zuq h.typed h.fit hs hA
   obtain ⟨q, c', rfl, hg⟩ := hw.good (by rw [hpay])
   rw [hpay] at hg ⊢
   exact ⟨_, rfl, hg.2.2.2.2, OwnB.rd hg.1⟩
  ·rintro e w' ⟨hB, v, rfl, hv⟩
   exact ⟨hB, .inl ⟨hr, v, rfl, hv⟩⟩
 ·rw [e] at hR ⊢
  refine (zus w _ hsz (aK (fun W hB => zet hr (hR W hB)))).mono ?_
  rintro e w' ⟨rfl, hB⟩
  exact ⟨hB, .inr ⟨hr, rfl⟩⟩
theorem ww_yes (w : World) (ca cb : Array Value) (ha : ca.size = 26) (hb : cb.size = 26) (r : Bool) (PX : Array Value → World → Prop) (P6 P8 : Value → World → Prop)
  (HM : Aside0 ((∀ cx W1 W2, PX cx W1 → Below W1.heap.size W1 W2 → PX cx W2) ∧ (∀ v W1 W2, P6 v W1 → Below W1.heap.size W1 W2 → P6 v W2) ∧ (∀ v W1 W2, P8 v W1 → Below W1.heap.size W1 W2 → P8 v W2)))
  (HLa : Aside0 (∀ W : World, Below w.heap.size w W → Calls Try.prog 9 #[.agg ca] W (fun e w' => e = .returned (.bool true) ∧ Below W.heap.size W w'))) (HLb : Aside0 (∀ W : World, Below w.heap.size w W → Calls Try.prog 9 #[.agg cb] W (fun e w' => e = .returned (.bool true) ∧ Below W.heap.size W w')))
  (HPa : Aside0 (∀ W : World, Below w.heap.size w W → Calls Try.prog 10 #[.agg ca] W (fun e w' => (∃ cx, e = .returned (.agg cx) ∧ (cx.size = 26 ∧ zdj cx) ∧ PX cx w') ∧ Below W.heap.size W w')))
  (HE : Aside0 (∀ cx W, PX cx W → Calls Try.prog 11 #[.agg cx] W (fun e w' => (∃ v6, e = .returned (.tuple #[v6, .int .i64 0]) ∧ P6 v6 w') ∧ Below W.heap.size W w')))
  (HRe : Aside0 (∀ W : World, Below w.heap.size w W → Calls Try.prog 12 #[.agg ca] W (fun e w' => (∃ v8, e = .returned (.tuple #[v8, .bool true]) ∧ P8 v8 w') ∧ Below W.heap.size W w')))
  (HRi : Aside0 (∀ cx W, PX cx W → Calls Try.prog 13 #[.agg cx] W (fun e w' => e = .returned (.bool true) ∧ Below W.heap.size W w')))
  (HBs : Aside0 (∀ v6 v8 W, P6 v6 W → P8 v8 W → Calls Try.prog 14 #[v6, v8] W (fun e w' => e = .returned (.bool true) ∧ Below W.heap.size W w')))
  (HT : Aside0 (∀ cx W, PX cx W → Calls Try.prog 16 #[.agg cx] W (fun e w' => e = .returned (.agg cx) ∧ Below W.heap.size W w')))
  (HS1 : Aside0 (∀ cx W, Below w.heap.size w W → PX cx W → Calls Try.prog 15 #[.agg cx, .agg ca] W (fun e w' => e = .returned (.bool true) ∧ Below W.heap.size W w')))
  (HPb : Aside0 (∀ cx W, Below w.heap.size w W → PX cx W → Calls Try.prog 10 #[.agg cb] W (fun e w' => ∃ cy, e = .returned (.agg cy) ∧ Below W.heap.size W w' ∧ ∀ W2, Below w'.heap.size w' W2 → Calls Try.prog 17 #[.agg cx, .agg cy] W2 (fun e w2 => e = .returned (.bool r) ∧ Below W2.heap.size W2 w2))))
  (HS2 : Aside0 (∀ W : World, Below w.heap.size w W → Calls Try.prog 15 #[.agg ca, .agg cb] W (fun e w' => e = .returned (.bool r) ∧ Below W.heap.size W w'))) :
  Calls Try.prog 3 #[.agg ca, .agg cb] w (zlc w) := by
 go_enter Try.func3, Try.ntmps3
 go_upto_region 8 with (first | ((with_reducible refine zag (N := 2) rfl ?_); refine zbf rfl 32 (.tmp 0) rfl ca rfl ?_; intro ga wc hg hbox hb2; have HA := aK hbox; have HB := aK hb2; clear hg hbox hb2) | ((with_reducible refine zag (N := 3) rfl ?_); refine zbf rfl 32 (.tmp 1) rfl cb rfl ?_; intro gb wc hg hbox hb2; have HA := aK ((hb2.block ga (zad HA.out)).trans HA.out); have HBB := aK hbox; have HB := aK (HB.out.trans (hb2.mono HB.out.size)); clear hg hbox hb2) | (go_at_call 8; (with_reducible refine (ztu _).mono ?_); rintro e wc ⟨rfl, hb2⟩; have HA := aK ((hb2.block ga (zad HA.out)).trans HA.out); have HBB := aK ((hb2.block gb (zad HBB.out)).trans HBB.out); have HB := aK (HB.out.trans (hb2.mono HB.out.size)); clear hb2) | ((with_reducible refine zae [12, 20, 28] (by decide) ?_); refine zbl rfl 32 (.tmp 2) rfl ga rfl ca 32 HA.out _ Try.underlying32 rfl (by rw [ha]; exact zbp) ?_) | ((with_reducible refine zae [16] (by decide) ?_); refine zbi rfl ?_; refine zbl rfl 32 (.tmp 3) rfl gb rfl cb 32 HBB.out _ Try.underlying32 rfl (by rw [hb]; exact zbp) ?_) | (go_at_call 9; (with_reducible refine (HLa.out _ HB.out).mono ?_); rintro e wc ⟨rfl, hb2⟩; have HA := aK ((hb2.block ga (zad HA.out)).trans HA.out); have HBB := aK ((hb2.block gb (zad HBB.out)).trans HBB.out); have HB := aK (HB.out.trans (hb2.mono HB.out.size)); clear hb2) | (go_at_call 9; (with_reducible refine (HLb.out _ HB.out).mono ?_); rintro e wc ⟨rfl, hb2⟩; have HA := aK ((hb2.block ga (zad HA.out)).trans HA.out); have HBB := aK ((hb2.block gb (zad HBB.out)).trans HBB.out); have HB := aK (HB.out.trans (hb2.mono HB.out.size)); clear hb2) | (go_at_call 10; (with_reducible refine (HPa.out _ HB.out).mono ?_); rintro e wc ⟨⟨cx, rfl, hs, hp⟩, hb2⟩; have HSx := aK hs; have HPX := aK hp; clear hs hp; have HA := aK ((hb2.block ga (zad HA.out)).trans HA.out); have HBB := aK ((hb2.block gb (zad HBB.out)).trans HBB.out); have HB := aK (HB.out.trans (hb2.mono HB.out.size)); clear hb2) | ((with_reducible refine zag (N := 5) rfl ?_); refine zbe rfl 35 rfl _ (zci _) ?_; intro gx wc hg hbox hb2; have HG := aK hbox; have HGE := aK hg; have HLTa := aK (zad HA.out); have HLTb := aK (zad HBB.out); have HB0 := HB; have HPX0 := HPX; have HBz := aK hb2; have HPX := aK (HM.out.1 _ _ _ HPX.out hb2); have HA := aK ((hb2.block ga (zad HA.out)).trans HA.out); have HBB := aK ((hb2.block gb (zad HBB.out)).trans HBB.out); have HB := aK (HB.out.trans (hb2.mono HB.out.size)); clear hg hbox hb2) | ((with_reducible refine zan (t := 35) (p := 5) rfl ?_); refine zbk rfl 35 (.tmp 5) (.tmp 21) rfl gx rfl cx _ rfl 35 HG.out (HSx.out.1.trans (zce _ _).symm) (by rw [HSx.out.1]; exact zay) HSx.out.2 ?_; intro wc hX hO; have HG := aK hX; have HBy := aK (zaz HBz.out hO HBz.out.size (fun k hk => by rw [hk, HGE.out]; exact Nat.le_refl _)); have HPX := aK (HM.out.1 _ _ _ HPX0.out HBy.out); have HA := aK ((hO.block ga (zad HA.out) (fun e => by have e2 : ga = gx := e; rw [e2, HGE.out] at HLTa; exact absurd HLTa.out (Nat.lt_irrefl _))).trans HA.out); have HBB := aK ((hO.block gb (zad HBB.out) (fun e => by have e2 : gb = gx := e; rw [e2, HGE.out] at HLTb; exact absurd HLTb.out (Nat.lt_irrefl _))).trans HBB.out); have HB := aK (HB0.out.trans (HBy.out.mono HB0.out.size)); clear hX hO) | ((with_reducible refine zae [23] (by decide) ?_); refine zbl rfl 35 (.tmp 5) rfl gx rfl cx 35 HG.out _ Try.underlying35 rfl (by rw [HSx.out.1]; exact zay) ?_) | (go_at_call 11; (with_reducible refine (HE.out _ _ HPX.out).mono ?_); rintro e wc ⟨⟨v6, rfl, hp⟩, hb2⟩; have HP6 := aK hp; clear hp; have HG := aK ((hb2.block gx (zad HG.out)).trans HG.out); have HPX := aK (HM.out.1 _ _ _ HPX.out hb2); have HA := aK ((hb2.block ga (zad HA.out)).trans HA.out); have HBB := aK ((hb2.block gb (zad HBB.out)).trans HBB.out); have HB := aK (HB.out.trans (hb2.mono HB.out.size)); clear hb2) | (go_at_call 12; (with_reducible refine (HRe.out _ HB.out).mono ?_); rintro e wc ⟨⟨v8, rfl, hp⟩, hb2⟩; have HP8 := aK hp; have HP6 := aK (HM.out.2.1 _ _ _ HP6.out hb2); clear hp; have HG := aK ((hb2.block gx (zad HG.out)).trans HG.out); have HPX := aK (HM.out.1 _ _ _ HPX.out hb2); have HA := aK ((hb2.block ga (zad HA.out)).trans HA.out); have HBB := aK ((hb2.block gb (zad HBB.out)).trans HBB.out); have HB := aK (HB.out.trans (hb2.mono HB.out.size)); clear hb2))
 generalize HW8 : wc = w8 at *
 have Fgx : ∀ W2, Below w8.heap.size w8 W2 → W2.heap[gx]? = some (.cells cx 35 (0, 0)) := fun W2 hB => (hB.block gx (zad HG.out)).trans HG.out
 have Fga : ∀ W2, Below w8.heap.size w8 W2 → W2.heap[ga]? = some (.cells ca 32 (0, 0)) := fun W2 hB => (hB.block ga (zad HA.out)).trans HA.out
 have Fgb : ∀ W2, Below w8.heap.size w8 W2 → W2.heap[gb]? = some (.cells cb 32 (0, 0)) := fun W2 hB => (hB.block gb (zad HBB.out)).trans HBB.out
 have hx := HSx.out.1
 have BT := fun (W2 : World) (hB : Below w8.heap.size w8 W2) => HB.out.trans (hB.mono HB.out.size)
 have XT := fun (W2 : World) (hB : Below w8.heap.size w8 W2) => HM.out.1 _ _ _ HPX.out hB
 have HRi := aK (fun (W2 : World) (hB : Below w8.heap.size w8 W2) => HRi.out _ _ (XT W2 hB))
 have HBs := aK (fun (W2 : World) (hB : Below w8.heap.size w8 W2) => HBs.out _ _ _ (HM.out.2.1 _ _ _ HP6.out hB) (HM.out.2.2 _ _ _ HP8.out hB))
 have HT := aK (fun (W2 : World) (hB : Below w8.heap.size w8 W2) => HT.out _ _ (XT W2 hB))
 have HS1 := aK (fun (W2 : World) (hB : Below w8.heap.size w8 W2) => HS1.out _ _ (BT W2 hB) (XT W2 hB))
 have HPb := aK (fun (W2 : World) (hB : Below w8.heap.size w8 W2) => HPb.out _ _ (BT W2 hB) (XT W2 hB))
 have HS2 := aK (fun (W2 : World) (hB : Below w8.heap.size w8 W2) => HS2.out _ (BT W2 hB))
 refine wp_region_held_drew (S := fun W2 => Below w8.heap.size w8 W2) (by kernel_rfl) ((Below.refl _ _).drew) (fun hHeld => ?_)
 have hP : ∀ (c : List PanicEntry) (a : Act) (d : Option Tmp) (v : Value) (w' : World), bodyPost Try.prog Try.f3 (zlc w) (.panic c) (a.put d v) w' → bodyPost Try.prog Try.f3 (zlc w) (.panic c) a w' := fun c a d v w' k => by cases d <;> exact k
 refine tkH 0 32 (.agg cx) rfl rfl (by kernel_rfl) hP hHeld (by rfl) (by exact fun W2 hSW => zas rfl (g := gx) (off := 0) rfl cx.toList (fun j v hj => by rw [Nat.zero_add]; exact (zab (Fgx W2 hSW) j).trans (by simpa using hj)) Try.underlying35 rfl (by rw [Array.length_toList, hx]; exact zay)) ?_; try simp only [Act.put, aS, aZ, aC]
 refine tkH 2 34 (.bool true) rfl rfl (by kernel_rfl) hP hHeld (by rfl) (by intro W2 hSW; go_simp; (try with_reducible rfl)) ?_; try simp only [Act.put, aS, aZ, aC]
 refine zdg 1 33 rfl rfl (by kernel_rfl) (by rfl) Try.func13 (by kernel_rfl) #[.agg cx] rfl (by simp only [List.map_toArray, List.map_cons, List.map_nil]; rfl) ((HRi.out _ hHeld).mono ?_); rintro e wc ⟨rfl, hb⟩; have hHeld := Below.trans hHeld (hb.mono (Below.size hHeld)); refine ⟨_, rfl, hHeld, ?_⟩; clear hb; try simp only [Act.put, aS, aZ, aC]
 refine tkH 3 35 (.bool true) rfl rfl (by kernel_rfl) hP hHeld (by rfl) (by intro W2 hSW; go_simp; (try with_reducible rfl)) ?_; try simp only [Act.put, aS, aZ, aC]
 refine tkH 4 36 (.bool true) rfl rfl (by kernel_rfl) hP hHeld (by rfl) (by intro W2 hSW; go_simp; (try with_reducible rfl)) ?_; try simp only [Act.put, aS, aZ, aC]
 refine tkH 5 37 (.int .i64 0) rfl rfl (by kernel_rfl) hP hHeld (by rfl) (by intro W2 hSW; go_simp; (try with_reducible rfl)) ?_; try simp only [Act.put, aS, aZ, aC]
 refine tkH 6 38 (.bool true) rfl rfl (by kernel_rfl) hP hHeld (by rfl) (by intro W2 hSW; go_simp; (try with_reducible rfl)) ?_; try simp only [Act.put, aS, aZ, aC]
 refine tkH 7 39 (.bool true) rfl rfl (by kernel_rfl) hP hHeld (by rfl) (by intro W2 hSW; go_simp; (try with_reducible rfl)) ?_; try simp only [Act.put, aS, aZ, aC]
 refine tkH 8 40 (.bool true) rfl rfl (by kernel_rfl) hP hHeld (by rfl) (by intro W2 hSW; go_simp; (try with_reducible rfl)) ?_; try simp only [Act.put, aS, aZ, aC]
 refine tkH 9 41 (.bool true) rfl rfl (by kernel_rfl) hP hHeld (by rfl) (by intro W2 hSW; go_simp; (try with_reducible rfl)) ?_; try simp only [Act.put, aS, aZ, aC]
 refine tkH 10 42 (.bool true) rfl rfl (by kernel_rfl) hP hHeld (by rfl) (by intro W2 hSW; go_simp; (try with_reducible rfl)) ?_; try simp only [Act.put, aS, aZ, aC]
 refine tkH 11 43 (.bool true) rfl rfl (by kernel_rfl) hP hHeld (by rfl) (by intro W2 hSW; go_simp; (try with_reducible rfl)) ?_; try simp only [Act.put, aS, aZ, aC]
 refine tkH 12 44 (.bool true) rfl rfl (by kernel_rfl) hP hHeld (by rfl) (by intro W2 hSW; go_simp; (try with_reducible rfl)) ?_; try simp only [Act.put, aS, aZ, aC]
 refine skH 13 45 rfl rfl (by kernel_rfl) hP hHeld (by rfl) ?_; try simp only [Act.put, aS, aZ, aC]
 refine skH 14 46 rfl rfl (by kernel_rfl) hP hHeld (by rfl) ?_; try simp only [Act.put, aS, aZ, aC]
 refine skH 15 47 rfl rfl (by kernel_rfl) hP hHeld (by rfl) ?_; try simp only [Act.put, aS, aZ, aC]
 refine skH 16 48 rfl rfl (by kernel_rfl) hP hHeld (by rfl) ?_; try simp only [Act.put, aS, aZ, aC]
 refine skH 17 49 rfl rfl (by kernel_rfl) hP hHeld (by rfl) ?_; try simp only [Act.put, aS, aZ, aC]
 refine skH 18 50 rfl rfl (by kernel_rfl) hP hHeld (by rfl) ?_; try simp only [Act.put, aS, aZ, aC]
 refine skH 19 51 rfl rfl (by kernel_rfl) hP hHeld (by rfl) ?_; try simp only [Act.put, aS, aZ, aC]
 refine tkH 20 52 (.bool true) rfl rfl (by kernel_rfl) hP hHeld (by rfl) (by intro W2 hSW; go_simp; (try with_reducible rfl)) ?_; try simp only [Act.put, aS, aZ, aC]
 refine tkH 21 53 (.bool true) rfl rfl (by kernel_rfl) hP hHeld (by rfl) (by intro W2 hSW; go_simp; (try with_reducible rfl)) ?_; try simp only [Act.put, aS, aZ, aC]
 refine tkH 22 54 (.bool true) rfl rfl (by kernel_rfl) hP hHeld (by rfl) (by intro W2 hSW; go_simp; (try with_reducible rfl)) ?_; try simp only [Act.put, aS, aZ, aC]
 refine tkH 23 55 (v6) rfl rfl (by kernel_rfl) hP hHeld (by rfl) (by intro W2 hSW; go_simp; (try with_reducible rfl)) ?_; try simp only [Act.put, aS, aZ, aC]
 refine tkH 24 56 (v8) rfl rfl (by kernel_rfl) hP hHeld (by rfl) (by intro W2 hSW; go_simp; (try with_reducible rfl)) ?_; try simp only [Act.put, aS, aZ, aC]
 refine zdg 25 57 rfl rfl (by kernel_rfl) (by rfl) Try.func14 (by kernel_rfl) #[v6, v8] rfl (by simp only [List.map_toArray, List.map_cons, List.map_nil]; rfl) ((HBs.out _ hHeld).mono ?_); rintro e wc ⟨rfl, hb⟩; have hHeld := Below.trans hHeld (hb.mono (Below.size hHeld)); refine ⟨_, rfl, hHeld, ?_⟩; clear hb; try simp only [Act.put, aS, aZ, aC]
 refine tkH 26 58 (.bool true) rfl rfl (by kernel_rfl) hP hHeld (by rfl) (by intro W2 hSW; go_simp; (try with_reducible rfl)) ?_; try simp only [Act.put, aS, aZ, aC]
 refine tkH 27 59 (.bool true) rfl rfl (by kernel_rfl) hP hHeld (by rfl) (by intro W2 hSW; go_simp; (try with_reducible rfl)) ?_; try simp only [Act.put, aS, aZ, aC]
 refine tkH 28 60 (.agg cx) rfl rfl (by kernel_rfl) hP hHeld (by rfl) (by exact fun W2 hSW => zas rfl (g := gx) (off := 0) rfl cx.toList (fun j v hj => by rw [Nat.zero_add]; exact (zab (Fgx W2 hSW) j).trans (by simpa using hj)) Try.underlying35 rfl (by rw [Array.length_toList, hx]; exact zay)) ?_; try simp only [Act.put, aS, aZ, aC]
 refine tkH 30 62 (.agg ca) rfl rfl (by kernel_rfl) hP hHeld (by rfl) (by exact fun W2 hSW => zas rfl (g := ga) (off := 0) rfl ca.toList (fun j v hj => by rw [Nat.zero_add]; exact (zab (Fga W2 hSW) j).trans (by simpa using hj)) Try.underlying32 rfl (by rw [Array.length_toList, ha]; exact zbp)) ?_; try simp only [Act.put, aS, aZ, aC]
 refine zdg 29 61 rfl rfl (by kernel_rfl) (by rfl) Try.func16 (by kernel_rfl) #[.agg cx] rfl (by simp only [List.map_toArray, List.map_cons, List.map_nil]; rfl) ((HT.out _ hHeld).mono ?_); rintro e wc ⟨rfl, hb⟩; have hHeld := Below.trans hHeld (hb.mono (Below.size hHeld)); refine ⟨_, rfl, hHeld, ?_⟩; clear hb; try simp only [Act.put, aS, aZ, aC]
 refine zdg 31 63 rfl rfl (by kernel_rfl) (by rfl) Try.func15 (by kernel_rfl) #[.agg cx, .agg ca] rfl (by simp only [List.map_toArray, List.map_cons, List.map_nil]; rfl) ((HS1.out _ hHeld).mono ?_); rintro e wc ⟨rfl, hb⟩; have hHeld := Below.trans hHeld (hb.mono (Below.size hHeld)); refine ⟨_, rfl, hHeld, ?_⟩; clear hb; try simp only [Act.put, aS, aZ, aC]
 refine tkH 32 64 (.bool true) rfl rfl (by kernel_rfl) hP hHeld (by rfl) (by intro W2 hSW; go_simp; (try with_reducible rfl)) ?_; try simp only [Act.put, aS, aZ, aC]
 refine tkH 33 65 (.bool true) rfl rfl (by kernel_rfl) hP hHeld (by rfl) (by intro W2 hSW; go_simp; (try with_reducible rfl)) ?_; try simp only [Act.put, aS, aZ, aC]
 refine tkH 34 66 (.agg cx) rfl rfl (by kernel_rfl) hP hHeld (by rfl) (by exact fun W2 hSW => zas rfl (g := gx) (off := 0) rfl cx.toList (fun j v hj => by rw [Nat.zero_add]; exact (zab (Fgx W2 hSW) j).trans (by simpa using hj)) Try.underlying35 rfl (by rw [Array.length_toList, hx]; exact zay)) ?_; try simp only [Act.put, aS, aZ, aC]
 refine tkH 35 67 (.agg cb) rfl rfl (by kernel_rfl) hP hHeld (by rfl) (by exact fun W2 hSW => zas rfl (g := gb) (off := 0) rfl cb.toList (fun j v hj => by rw [Nat.zero_add]; exact (zab (Fgb W2 hSW) j).trans (by simpa using hj)) Try.underlying32 rfl (by rw [Array.length_toList, hb]; exact zbp)) ?_; try simp only [Act.put, aS, aZ, aC]
 refine tkH 38 70 (.agg ca) rfl rfl (by kernel_rfl) hP hHeld (by rfl) (by exact fun W2 hSW => zas rfl (g := ga) (off := 0) rfl ca.toList (fun j v hj => by rw [Nat.zero_add]; exact (zab (Fga W2 hSW) j).trans (by simpa using hj)) Try.underlying32 rfl (by rw [Array.length_toList, ha]; exact zbp)) ?_; try simp only [Act.put, aS, aZ, aC]
 refine tkH 39 71 (.agg cb) rfl rfl (by kernel_rfl) hP hHeld (by rfl) (by exact fun W2 hSW => zas rfl (g := gb) (off := 0) rfl cb.toList (fun j v hj => by rw [Nat.zero_add]; exact (zab (Fgb W2 hSW) j).trans (by simpa using hj)) Try.underlying32 rfl (by rw [Array.length_toList, hb]; exact zbp)) ?_; try simp only [Act.put, aS, aZ, aC]
 refine zdg 36 68 rfl rfl (by kernel_rfl) (by rfl) Try.func10 (by kernel_rfl) #[.agg cb] rfl (by simp only [List.map_toArray, List.map_cons, List.map_nil]; rfl) ((HPb.out _ hHeld).mono ?_); rintro e wc ⟨cy, rfl, hb, hsm⟩; have hHeld := Below.trans hHeld (hb.mono (Below.size hHeld)); refine ⟨_, rfl, hHeld, ?_⟩; clear hb; try simp only [Act.put, aS, aZ, aC]
 refine zdg 37 69 rfl rfl (by kernel_rfl) (by rfl) Try.func17 (by kernel_rfl) #[.agg cx, .agg cy] rfl (by simp only [List.map_toArray, List.map_cons, List.map_nil]; rfl) ((hsm _ (Below.refl _ _)).mono ?_); rintro e wc ⟨rfl, hb⟩; have hHeld := Below.trans hHeld (hb.mono (Below.size hHeld)); refine ⟨_, rfl, hHeld, ?_⟩; clear hb; try simp only [Act.put, aS, aZ, aC]
 refine zdg 40 72 rfl rfl (by kernel_rfl) (by rfl) Try.func15 (by kernel_rfl) #[.agg ca, .agg cb] rfl (by simp only [List.map_toArray, List.map_cons, List.map_nil]; rfl) ((HS2.out _ hHeld).mono ?_); rintro e wc ⟨rfl, hb⟩; have hHeld := Below.trans hHeld (hb.mono (Below.size hHeld)); refine ⟨_, rfl, hHeld, ?_⟩; clear hb; try simp only [Act.put, aS, aZ, aC]
 refine tkH 41 73 (.bool true) rfl rfl (by kernel_rfl) hP hHeld (by rfl) (by intro W2 hSW; cases r <;> (go_simp; (try with_reducible rfl))) ?_; try simp only [Act.put, aS, aZ, aC]
 refine tkH 42 74 (.bool true) rfl rfl (by kernel_rfl) hP hHeld (by rfl) (by intro W2 hSW; go_simp; (try with_reducible rfl)) ?_; try simp only [Act.put, aS, aZ, aC]
 refine tkH 43 4 (.bool true) rfl rfl (by kernel_rfl) hP hHeld (by rfl) (by intro W2 hSW; go_simp; (try with_reducible rfl)) ?_; try simp only [Act.put, aS, aZ, aC]
 refine wpAnyH_done (by kernel_rfl) ?_ _
 go_wp2
 go_ret
 exact ⟨rfl, BT _ hHeld⟩
theorem ww_no (w : World) (ca cb : Array Value) (ha : ca.size = 26) (hb : cb.size = 26) (r : Bool) (PX : Array Value → World → Prop) (P6 P8 : Value → World → Prop)
  (HM : Aside0 ((∀ cx W1 W2, PX cx W1 → Below W1.heap.size W1 W2 → PX cx W2) ∧ (∀ v W1 W2, P6 v W1 → Below W1.heap.size W1 W2 → P6 v W2) ∧ (∀ v W1 W2, P8 v W1 → Below W1.heap.size W1 W2 → P8 v W2)))
  (HLa : Aside0 (∀ W : World, Below w.heap.size w W → Calls Try.prog 9 #[.agg ca] W (fun e w' => e = .returned (.bool true) ∧ Below W.heap.size W w'))) (HLb : Aside0 (∀ W : World, Below w.heap.size w W → Calls Try.prog 9 #[.agg cb] W (fun e w' => e = .returned (.bool true) ∧ Below W.heap.size W w')))
  (HPa : Aside0 (∀ W : World, Below w.heap.size w W → Calls Try.prog 10 #[.agg ca] W (fun e w' => (∃ cx, e = .returned (.agg cx) ∧ (cx.size = 26 ∧ zdj cx) ∧ PX cx w') ∧ Below W.heap.size W w')))
  (HE : Aside0 (∀ cx W, PX cx W → Calls Try.prog 11 #[.agg cx] W (fun e w' => (∃ A6 c6, e = .returned (.tuple #[.slice A6 0 c6, .int .i64 1]) ∧ P6 (.slice A6 0 c6) w') ∧ Below W.heap.size W w')))
  (HRe : Aside0 (∀ W : World, Below w.heap.size w W → Calls Try.prog 12 #[.agg ca] W (fun e w' => (∃ v8, e = .returned (.tuple #[v8, .bool false]) ∧ P8 v8 w') ∧ Below W.heap.size W w')))
  (HRi : Aside0 (∀ cx W, PX cx W → Calls Try.prog 13 #[.agg cx] W (fun e w' => e = .returned (.bool false) ∧ Below W.heap.size W w')))
  (HBs : Aside0 (∀ v6 v8 W, P6 v6 W → P8 v8 W → Calls Try.prog 14 #[v6, v8] W (fun e w' => e = .returned (.bool true) ∧ Below W.heap.size W w')))
  (HT : Aside0 (∀ cx W, PX cx W → Calls Try.prog 16 #[.agg cx] W (fun e w' => e = .returned (.agg cx) ∧ Below W.heap.size W w')))
  (HS1 : Aside0 (∀ cx W, Below w.heap.size w W → PX cx W → Calls Try.prog 15 #[.agg cx, .agg ca] W (fun e w' => e = .returned (.bool true) ∧ Below W.heap.size W w')))
  (HPb : Aside0 (∀ cx W, Below w.heap.size w W → PX cx W → Calls Try.prog 10 #[.agg cb] W (fun e w' => ∃ cy, e = .returned (.agg cy) ∧ Below W.heap.size W w' ∧ ∀ W2, Below w'.heap.size w' W2 → Calls Try.prog 17 #[.agg cx, .agg cy] W2 (fun e w2 => e = .returned (.bool r) ∧ Below W2.heap.size W2 w2))))
  (HS2 : Aside0 (∀ W : World, Below w.heap.size w W → Calls Try.prog 15 #[.agg ca, .agg cb] W (fun e w' => e = .returned (.bool r) ∧ Below W.heap.size W w'))) :
  Calls Try.prog 3 #[.agg ca, .agg cb] w (zlc w) := by
 go_enter Try.func3, Try.ntmps3
 go_upto_region 8 with (first | ((with_reducible refine zag (N := 2) rfl ?_); refine zbf rfl 32 (.tmp 0) rfl ca rfl ?_; intro ga wc hg hbox hb2; have HA := aK hbox; have HB := aK hb2; clear hg hbox hb2) | ((with_reducible refine zag (N := 3) rfl ?_); refine zbf rfl 32 (.tmp 1) rfl cb rfl ?_; intro gb wc hg hbox hb2; have HA := aK ((hb2.block ga (zad HA.out)).trans HA.out); have HBB := aK hbox; have HB := aK (HB.out.trans (hb2.mono HB.out.size)); clear hg hbox hb2) | (go_at_call 8; (with_reducible refine (ztu _).mono ?_); rintro e wc ⟨rfl, hb2⟩; have HA := aK ((hb2.block ga (zad HA.out)).trans HA.out); have HBB := aK ((hb2.block gb (zad HBB.out)).trans HBB.out); have HB := aK (HB.out.trans (hb2.mono HB.out.size)); clear hb2) | ((with_reducible refine zae [12, 20, 28] (by decide) ?_); refine zbl rfl 32 (.tmp 2) rfl ga rfl ca 32 HA.out _ Try.underlying32 rfl (by rw [ha]; exact zbp) ?_) | ((with_reducible refine zae [16] (by decide) ?_); refine zbi rfl ?_; refine zbl rfl 32 (.tmp 3) rfl gb rfl cb 32 HBB.out _ Try.underlying32 rfl (by rw [hb]; exact zbp) ?_) | (go_at_call 9; (with_reducible refine (HLa.out _ HB.out).mono ?_); rintro e wc ⟨rfl, hb2⟩; have HA := aK ((hb2.block ga (zad HA.out)).trans HA.out); have HBB := aK ((hb2.block gb (zad HBB.out)).trans HBB.out); have HB := aK (HB.out.trans (hb2.mono HB.out.size)); clear hb2) | (go_at_call 9; (with_reducible refine (HLb.out _ HB.out).mono ?_); rintro e wc ⟨rfl, hb2⟩; have HA := aK ((hb2.block ga (zad HA.out)).trans HA.out); have HBB := aK ((hb2.block gb (zad HBB.out)).trans HBB.out); have HB := aK (HB.out.trans (hb2.mono HB.out.size)); clear hb2) | (go_at_call 10; (with_reducible refine (HPa.out _ HB.out).mono ?_); rintro e wc ⟨⟨cx, rfl, hs, hp⟩, hb2⟩; have HSx := aK hs; have HPX := aK hp; clear hs hp; have HA := aK ((hb2.block ga (zad HA.out)).trans HA.out); have HBB := aK ((hb2.block gb (zad HBB.out)).trans HBB.out); have HB := aK (HB.out.trans (hb2.mono HB.out.size)); clear hb2) | ((with_reducible refine zag (N := 5) rfl ?_); refine zbe rfl 35 rfl _ (zci _) ?_; intro gx wc hg hbox hb2; have HG := aK hbox; have HGE := aK hg; have HLTa := aK (zad HA.out); have HLTb := aK (zad HBB.out); have HB0 := HB; have HPX0 := HPX; have HBz := aK hb2; have HPX := aK (HM.out.1 _ _ _ HPX.out hb2); have HA := aK ((hb2.block ga (zad HA.out)).trans HA.out); have HBB := aK ((hb2.block gb (zad HBB.out)).trans HBB.out); have HB := aK (HB.out.trans (hb2.mono HB.out.size)); clear hg hbox hb2) | ((with_reducible refine zan (t := 35) (p := 5) rfl ?_); refine zbk rfl 35 (.tmp 5) (.tmp 21) rfl gx rfl cx _ rfl 35 HG.out (HSx.out.1.trans (zce _ _).symm) (by rw [HSx.out.1]; exact zay) HSx.out.2 ?_; intro wc hX hO; have HG := aK hX; have HBy := aK (zaz HBz.out hO HBz.out.size (fun k hk => by rw [hk, HGE.out]; exact Nat.le_refl _)); have HPX := aK (HM.out.1 _ _ _ HPX0.out HBy.out); have HA := aK ((hO.block ga (zad HA.out) (fun e => by have e2 : ga = gx := e; rw [e2, HGE.out] at HLTa; exact absurd HLTa.out (Nat.lt_irrefl _))).trans HA.out); have HBB := aK ((hO.block gb (zad HBB.out) (fun e => by have e2 : gb = gx := e; rw [e2, HGE.out] at HLTb; exact absurd HLTb.out (Nat.lt_irrefl _))).trans HBB.out); have HB := aK (HB0.out.trans (HBy.out.mono HB0.out.size)); clear hX hO) | ((with_reducible refine zae [23] (by decide) ?_); refine zbl rfl 35 (.tmp 5) rfl gx rfl cx 35 HG.out _ Try.underlying35 rfl (by rw [HSx.out.1]; exact zay) ?_) | (go_at_call 11; (with_reducible refine (HE.out _ _ HPX.out).mono ?_); rintro e wc ⟨⟨A6, c6, rfl, hp⟩, hb2⟩; have HP6 := aK hp; clear hp; have HG := aK ((hb2.block gx (zad HG.out)).trans HG.out); have HPX := aK (HM.out.1 _ _ _ HPX.out hb2); have HA := aK ((hb2.block ga (zad HA.out)).trans HA.out); have HBB := aK ((hb2.block gb (zad HBB.out)).trans HBB.out); have HB := aK (HB.out.trans (hb2.mono HB.out.size)); clear hb2) | (go_at_call 12; (with_reducible refine (HRe.out _ HB.out).mono ?_); rintro e wc ⟨⟨v8, rfl, hp⟩, hb2⟩; have HP8 := aK hp; have HP6 := aK (HM.out.2.1 _ _ _ HP6.out hb2); clear hp; have HG := aK ((hb2.block gx (zad HG.out)).trans HG.out); have HPX := aK (HM.out.1 _ _ _ HPX.out hb2); have HA := aK ((hb2.block ga (zad HA.out)).trans HA.out); have HBB := aK ((hb2.block gb (zad HBB.out)).trans HBB.out); have HB := aK (HB.out.trans (hb2.mono HB.out.size)); clear hb2))
 generalize HW8 : wc = w8 at *
 have Fgx : ∀ W2, Below w8.heap.size w8 W2 → W2.heap[gx]? = some (.cells cx 35 (0, 0)) := fun W2 hB => (hB.block gx (zad HG.out)).trans HG.out
 have Fga : ∀ W2, Below w8.heap.size w8 W2 → W2.heap[ga]? = some (.cells ca 32 (0, 0)) := fun W2 hB => (hB.block ga (zad HA.out)).trans HA.out
 have Fgb : ∀ W2, Below w8.heap.size w8 W2 → W2.heap[gb]? = some (.cells cb 32 (0, 0)) := fun W2 hB => (hB.block gb (zad HBB.out)).trans HBB.out
 have hx := HSx.out.1
 have BT := fun (W2 : World) (hB : Below w8.heap.size w8 W2) => HB.out.trans (hB.mono HB.out.size)
 have XT := fun (W2 : World) (hB : Below w8.heap.size w8 W2) => HM.out.1 _ _ _ HPX.out hB
 have HRi := aK (fun (W2 : World) (hB : Below w8.heap.size w8 W2) => HRi.out _ _ (XT W2 hB))
 have HBs := aK (fun (W2 : World) (hB : Below w8.heap.size w8 W2) => HBs.out _ _ _ (HM.out.2.1 _ _ _ HP6.out hB) (HM.out.2.2 _ _ _ HP8.out hB))
 have HT := aK (fun (W2 : World) (hB : Below w8.heap.size w8 W2) => HT.out _ _ (XT W2 hB))
 have HS1 := aK (fun (W2 : World) (hB : Below w8.heap.size w8 W2) => HS1.out _ _ (BT W2 hB) (XT W2 hB))
 have HPb := aK (fun (W2 : World) (hB : Below w8.heap.size w8 W2) => HPb.out _ _ (BT W2 hB) (XT W2 hB))
 have HS2 := aK (fun (W2 : World) (hB : Below w8.heap.size w8 W2) => HS2.out _ (BT W2 hB))
 refine wp_region_held_drew (S := fun W2 => Below w8.heap.size w8 W2) (by kernel_rfl) ((Below.refl _ _).drew) (fun hHeld => ?_)
 have hP : ∀ (c : List PanicEntry) (a : Act) (d : Option Tmp) (v : Value) (w' : World), bodyPost Try.prog Try.f3 (zlc w) (.panic c) (a.put d v) w' → bodyPost Try.prog Try.f3 (zlc w) (.panic c) a w' := fun c a d v w' k => by cases d <;> exact k
 refine tkH 0 32 (.agg cx) rfl rfl (by kernel_rfl) hP hHeld (by rfl) (by exact fun W2 hSW => zas rfl (g := gx) (off := 0) rfl cx.toList (fun j v hj => by rw [Nat.zero_add]; exact (zab (Fgx W2 hSW) j).trans (by simpa using hj)) Try.underlying35 rfl (by rw [Array.length_toList, hx]; exact zay)) ?_; try simp only [Act.put, aS, aZ, aC]
 refine tkH 2 34 (.bool false) rfl rfl (by kernel_rfl) hP hHeld (by rfl) (by intro W2 hSW; go_simp; (try with_reducible rfl)) ?_; try simp only [Act.put, aS, aZ, aC]
 refine zdg 1 33 rfl rfl (by kernel_rfl) (by rfl) Try.func13 (by kernel_rfl) #[.agg cx] rfl (by simp only [List.map_toArray, List.map_cons, List.map_nil]; rfl) ((HRi.out _ hHeld).mono ?_); rintro e wc ⟨rfl, hb⟩; have hHeld := Below.trans hHeld (hb.mono (Below.size hHeld)); refine ⟨_, rfl, hHeld, ?_⟩; clear hb; try simp only [Act.put, aS, aZ, aC]
 refine tkH 3 35 (.bool true) rfl rfl (by kernel_rfl) hP hHeld (by rfl) (by intro W2 hSW; go_simp; (try with_reducible rfl)) ?_; try simp only [Act.put, aS, aZ, aC]
 refine tkH 4 36 (.bool true) rfl rfl (by kernel_rfl) hP hHeld (by rfl) (by intro W2 hSW; go_simp; (try with_reducible rfl)) ?_; try simp only [Act.put, aS, aZ, aC]
 refine tkH 5 37 (.int .i64 1) rfl rfl (by kernel_rfl) hP hHeld (by rfl) (by intro W2 hSW; go_simp; (try with_reducible rfl)) ?_; try simp only [Act.put, aS, aZ, aC]
 refine tkH 6 38 (.bool false) rfl rfl (by kernel_rfl) hP hHeld (by rfl) (by intro W2 hSW; go_simp; (try with_reducible rfl)) ?_; try simp only [Act.put, aS, aZ, aC]
 refine tkH 7 39 (.bool false) rfl rfl (by kernel_rfl) hP hHeld (by rfl) (by intro W2 hSW; go_simp; (try with_reducible rfl)) ?_; try simp only [Act.put, aS, aZ, aC]
 refine tkH 8 40 (.bool true) rfl rfl (by kernel_rfl) hP hHeld (by rfl) (by intro W2 hSW; go_simp; (try with_reducible rfl)) ?_; try simp only [Act.put, aS, aZ, aC]
 refine tkH 9 41 (.bool true) rfl rfl (by kernel_rfl) hP hHeld (by rfl) (by intro W2 hSW; go_simp; (try with_reducible rfl)) ?_; try simp only [Act.put, aS, aZ, aC]
 refine tkH 10 42 (.bool true) rfl rfl (by kernel_rfl) hP hHeld (by rfl) (by intro W2 hSW; go_simp; (try with_reducible rfl)) ?_; try simp only [Act.put, aS, aZ, aC]
 refine tkH 11 43 (.bool false) rfl rfl (by kernel_rfl) hP hHeld (by rfl) (by intro W2 hSW; go_simp; (try with_reducible rfl)) ?_; try simp only [Act.put, aS, aZ, aC]
 refine tkH 12 44 (.bool false) rfl rfl (by kernel_rfl) hP hHeld (by rfl) (by intro W2 hSW; go_simp; (try with_reducible rfl)) ?_; try simp only [Act.put, aS, aZ, aC]
 refine tkH 13 45 (.int .i64 1) rfl rfl (by kernel_rfl) hP hHeld (by rfl) (by intro W2 hSW; go_simp; (try with_reducible rfl)) ?_; try simp only [Act.put, aS, aZ, aC]
 refine tkH 14 46 (.bool true) rfl rfl (by kernel_rfl) hP hHeld (by rfl) (by intro W2 hSW; go_simp; (try with_reducible rfl)) ?_; try simp only [Act.put, aS, aZ, aC]
 refine tkH 15 47 (.bool true) rfl rfl (by kernel_rfl) hP hHeld (by rfl) (by intro W2 hSW; go_simp; (try with_reducible rfl)) ?_; try simp only [Act.put, aS, aZ, aC]
 refine tkH 16 48 (.slice A6 0 c6) rfl rfl (by kernel_rfl) hP hHeld (by rfl) (by intro W2 hSW; go_simp; (try with_reducible rfl)) ?_; try simp only [Act.put, aS, aZ, aC]
 refine tkH 17 49 (.int .i64 0) rfl rfl (by kernel_rfl) hP hHeld (by rfl) (by intro W2 hSW; go_simp; (try with_reducible rfl)) ?_; try simp only [Act.put, aS, aZ, aC]
 refine tkH 18 50 (.bool true) rfl rfl (by kernel_rfl) hP hHeld (by rfl) (by intro W2 hSW; go_simp; (try with_reducible rfl)) ?_; try simp only [Act.put, aS, aZ, aC]
 refine tkH 19 51 (.bool true) rfl rfl (by kernel_rfl) hP hHeld (by rfl) (by intro W2 hSW; go_simp; (try with_reducible rfl)) ?_; try simp only [Act.put, aS, aZ, aC]
 refine tkH 20 52 (.bool true) rfl rfl (by kernel_rfl) hP hHeld (by rfl) (by intro W2 hSW; go_simp; (try with_reducible rfl)) ?_; try simp only [Act.put, aS, aZ, aC]
 refine tkH 21 53 (.bool true) rfl rfl (by kernel_rfl) hP hHeld (by rfl) (by intro W2 hSW; go_simp; (try with_reducible rfl)) ?_; try simp only [Act.put, aS, aZ, aC]
 refine tkH 22 54 (.bool true) rfl rfl (by kernel_rfl) hP hHeld (by rfl) (by intro W2 hSW; go_simp; (try with_reducible rfl)) ?_; try simp only [Act.put, aS, aZ, aC]
 refine tkH 23 55 (.slice A6 0 c6) rfl rfl (by kernel_rfl) hP hHeld (by rfl) (by intro W2 hSW; go_simp; (try with_reducible rfl)) ?_; try simp only [Act.put, aS, aZ, aC]
 refine tkH 24 56 (v8) rfl rfl (by kernel_rfl) hP hHeld (by rfl) (by intro W2 hSW; go_simp; (try with_reducible rfl)) ?_; try simp only [Act.put, aS, aZ, aC]
 refine zdg 25 57 rfl rfl (by kernel_rfl) (by rfl) Try.func14 (by kernel_rfl) #[.slice A6 0 c6, v8] rfl (by simp only [List.map_toArray, List.map_cons, List.map_nil]; rfl) ((HBs.out _ hHeld).mono ?_); rintro e wc ⟨rfl, hb⟩; have hHeld := Below.trans hHeld (hb.mono (Below.size hHeld)); refine ⟨_, rfl, hHeld, ?_⟩; clear hb; try simp only [Act.put, aS, aZ, aC]
 refine tkH 26 58 (.bool true) rfl rfl (by kernel_rfl) hP hHeld (by rfl) (by intro W2 hSW; go_simp; (try with_reducible rfl)) ?_; try simp only [Act.put, aS, aZ, aC]
 refine tkH 27 59 (.bool true) rfl rfl (by kernel_rfl) hP hHeld (by rfl) (by intro W2 hSW; go_simp; (try with_reducible rfl)) ?_; try simp only [Act.put, aS, aZ, aC]
 refine tkH 28 60 (.agg cx) rfl rfl (by kernel_rfl) hP hHeld (by rfl) (by exact fun W2 hSW => zas rfl (g := gx) (off := 0) rfl cx.toList (fun j v hj => by rw [Nat.zero_add]; exact (zab (Fgx W2 hSW) j).trans (by simpa using hj)) Try.underlying35 rfl (by rw [Array.length_toList, hx]; exact zay)) ?_; try simp only [Act.put, aS, aZ, aC]
 refine tkH 30 62 (.agg ca) rfl rfl (by kernel_rfl) hP hHeld (by rfl) (by exact fun W2 hSW => zas rfl (g := ga) (off := 0) rfl ca.toList (fun j v hj => by rw [Nat.zero_add]; exact (zab (Fga W2 hSW) j).trans (by simpa using hj)) Try.underlying32 rfl (by rw [Array.length_toList, ha]; exact zbp)) ?_; try simp only [Act.put, aS, aZ, aC]
 refine zdg 29 61 rfl rfl (by kernel_rfl) (by rfl) Try.func16 (by kernel_rfl) #[.agg cx] rfl (by simp only [List.map_toArray, List.map_cons, List.map_nil]; rfl) ((HT.out _ hHeld).mono ?_); rintro e wc ⟨rfl, hb⟩; have hHeld := Below.trans hHeld (hb.mono (Below.size hHeld)); refine ⟨_, rfl, hHeld, ?_⟩; clear hb; try simp only [Act.put, aS, aZ, aC]
 refine zdg 31 63 rfl rfl (by kernel_rfl) (by rfl) Try.func15 (by kernel_rfl) #[.agg cx, .agg ca] rfl (by simp only [List.map_toArray, List.map_cons, List.map_nil]; rfl) ((HS1.out _ hHeld).mono ?_); rintro e wc ⟨rfl, hb⟩; have hHeld := Below.trans hHeld (hb.mono (Below.size hHeld)); refine ⟨_, rfl, hHeld, ?_⟩; clear hb; try simp only [Act.put, aS, aZ, aC]
 refine tkH 32 64 (.bool true) rfl rfl (by kernel_rfl) hP hHeld (by rfl) (by intro W2 hSW; go_simp; (try with_reducible rfl)) ?_; try simp only [Act.put, aS, aZ, aC]
 refine tkH 33 65 (.bool true) rfl rfl (by kernel_rfl) hP hHeld (by rfl) (by intro W2 hSW; go_simp; (try with_reducible rfl)) ?_; try simp only [Act.put, aS, aZ, aC]
 refine tkH 34 66 (.agg cx) rfl rfl (by kernel_rfl) hP hHeld (by rfl) (by exact fun W2 hSW => zas rfl (g := gx) (off := 0) rfl cx.toList (fun j v hj => by rw [Nat.zero_add]; exact (zab (Fgx W2 hSW) j).trans (by simpa using hj)) Try.underlying35 rfl (by rw [Array.length_toList, hx]; exact zay)) ?_; try simp only [Act.put, aS, aZ, aC]
 refine tkH 35 67 (.agg cb) rfl rfl (by kernel_rfl) hP hHeld (by rfl) (by exact fun W2 hSW => zas rfl (g := gb) (off := 0) rfl cb.toList (fun j v hj => by rw [Nat.zero_add]; exact (zab (Fgb W2 hSW) j).trans (by simpa using hj)) Try.underlying32 rfl (by rw [Array.length_toList, hb]; exact zbp)) ?_; try simp only [Act.put, aS, aZ, aC]
 refine tkH 38 70 (.agg ca) rfl rfl (by kernel_rfl) hP hHeld (by rfl) (by exact fun W2 hSW => zas rfl (g := ga) (off := 0) rfl ca.toList (fun j v hj => by rw [Nat.zero_add]; exact (zab (Fga W2 hSW) j).trans (by simpa using hj)) Try.underlying32 rfl (by rw [Array.length_toList, ha]; exact zbp)) ?_; try simp only [Act.put, aS, aZ, aC]
 refine tkH 39 71 (.agg cb) rfl rfl (by kernel_rfl) hP hHeld (by rfl) (by exact fun W2 hSW => zas rfl (g := gb) (off := 0) rfl cb.toList (fun j v hj => by rw [Nat.zero_add]; exact (zab (Fgb W2 hSW) j).trans (by simpa using hj)) Try.underlying32 rfl (by rw [Array.length_toList, hb]; exact zbp)) ?_; try simp only [Act.put, aS, aZ, aC]
 refine zdg 36 68 rfl rfl (by kernel_rfl) (by rfl) Try.func10 (by kernel_rfl) #[.agg cb] rfl (by simp only [List.map_toArray, List.map_cons, List.map_nil]; rfl) ((HPb.out _ hHeld).mono ?_); rintro e wc ⟨cy, rfl, hb, hsm⟩; have hHeld := Below.trans hHeld (hb.mono (Below.size hHeld)); refine ⟨_, rfl, hHeld, ?_⟩; clear hb; try simp only [Act.put, aS, aZ, aC]
 refine zdg 37 69 rfl rfl (by kernel_rfl) (by rfl) Try.func17 (by kernel_rfl) #[.agg cx, .agg cy] rfl (by simp only [List.map_toArray, List.map_cons, List.map_nil]; rfl) ((hsm _ (Below.refl _ _)).mono ?_); rintro e wc ⟨rfl, hb⟩; have hHeld := Below.trans hHeld (hb.mono (Below.size hHeld)); refine ⟨_, rfl, hHeld, ?_⟩; clear hb; try simp only [Act.put, aS, aZ, aC]
 refine zdg 40 72 rfl rfl (by kernel_rfl) (by rfl) Try.func15 (by kernel_rfl) #[.agg ca, .agg cb] rfl (by simp only [List.map_toArray, List.map_cons, List.map_nil]; rfl) ((HS2.out _ hHeld).mono ?_); rintro e wc ⟨rfl, hb⟩; have hHeld := Below.trans hHeld (hb.mono (Below.size hHeld)); refine ⟨_, rfl, hHeld, ?_⟩; clear hb; try simp only [Act.put, aS, aZ, aC]
 refine tkH 41 73 (.bool true) rfl rfl (by kernel_rfl) hP hHeld (by rfl) (by intro W2 hSW; cases r <;> (go_simp; (try with_reducible rfl))) ?_; try simp only [Act.put, aS, aZ, aC]
 refine tkH 42 74 (.bool true) rfl rfl (by kernel_rfl) hP hHeld (by rfl) (by intro W2 hSW; go_simp; (try with_reducible rfl)) ?_; try simp only [Act.put, aS, aZ, aC]
 refine tkH 43 4 (.bool true) rfl rfl (by kernel_rfl) hP hHeld (by rfl) (by intro W2 hSW; go_simp; (try with_reducible rfl)) ?_; try simp only [Act.put, aS, aZ, aC]
 refine wpAnyH_done (by kernel_rfl) ?_ _
 go_wp2
 go_ret
 exact ⟨rfl, BT _ hHeld⟩
theorem zux (w : World) (ca cb : Array Value) (ha : ca.size = 26) (hb : cb.size = 26) (la lb : Bool) (hl : la = false ∨ (la = true ∧ lb = false))
  (HLa : Aside0 (∀ W : World, Below w.heap.size w W → Calls Try.prog 9 #[.agg ca] W (fun e w' => e = .returned (.bool la) ∧ Below W.heap.size W w')))
  (HLb : Aside0 (∀ W : World, Below w.heap.size w W → Calls Try.prog 9 #[.agg cb] W (fun e w' => e = .returned (.bool lb) ∧ Below W.heap.size W w'))) :
  Calls Try.prog 3 #[.agg ca, .agg cb] w (zlc w) := by
 rcases hl with rfl | ⟨rfl, rfl⟩
 all_goals go_enter Try.func3, Try.ntmps3
 all_goals go_wp2_with (first | ((with_reducible refine zag (N := 2) rfl ?_); refine zbf rfl 32 (.tmp 0) rfl ca rfl ?_; intro ga wc hg hbox hb2; have HA := aK hbox; have HB := aK hb2; clear hg hbox hb2) | ((with_reducible refine zag (N := 3) rfl ?_); refine zbf rfl 32 (.tmp 1) rfl cb rfl ?_; intro gb wc hg hbox hb2; have HA := aK ((hb2.block ga (zad HA.out)).trans HA.out); have HBB := aK hbox; have HB := aK (HB.out.trans (hb2.mono HB.out.size)); clear hg hbox hb2) | (go_at_call 8; (with_reducible refine (ztu _).mono ?_); rintro e wc ⟨rfl, hb2⟩; have HA := aK ((hb2.block ga (zad HA.out)).trans HA.out); have HBB := aK ((hb2.block gb (zad HBB.out)).trans HBB.out); have HB := aK (HB.out.trans (hb2.mono HB.out.size)); clear hb2) | ((with_reducible refine zae [12] (by decide) ?_); refine zbl rfl 32 (.tmp 2) rfl ga rfl ca 32 HA.out _ Try.underlying32 rfl (by rw [ha]; exact zbp) ?_) | ((with_reducible refine zae [16] (by decide) ?_); refine zbi rfl ?_; refine zbl rfl 32 (.tmp 3) rfl gb rfl cb 32 HBB.out _ Try.underlying32 rfl (by rw [hb]; exact zbp) ?_) | (go_at_call 9; (with_reducible refine (HLa.out _ HB.out).mono ?_); rintro e wc ⟨rfl, hb2⟩; have HA := aK ((hb2.block ga (zad HA.out)).trans HA.out); have HBB := aK ((hb2.block gb (zad HBB.out)).trans HBB.out); have HB := aK (HB.out.trans (hb2.mono HB.out.size)); clear hb2) | (go_at_call 9; (with_reducible refine (HLb.out _ HB.out).mono ?_); rintro e wc ⟨rfl, hb2⟩; have HB := aK (HB.out.trans (hb2.mono HB.out.size)); clear hb2))
 all_goals go_ret
 all_goals exact ⟨rfl, HB.out⟩
theorem boolC {p : Prop} {r : Bool} (hr : r = true ↔ p) {k : FuncId} {args : Array Value} {w : World} (h : Calls Try.prog k args w (zgj p w)) : Calls Try.prog k args w (fun e w' => e = .returned (.bool r) ∧ Below w.heap.size w w') := h.mono (by
 rintro e w' ⟨r', rfl, h2, hB⟩
 refine ⟨?_, hB⟩
 have : r' = r := by
  cases r' <;> cases r <;> first | rfl | (exact (h2.2 (hr.1 rfl)).symm ▸ rfl) | (exact absurd (hr.2 (h2.1 rfl)) (by decide))
 rw [this])
def PM (m : M) (cx : Array Value) (W : World) : Prop := ∃ sx, cx = msgC m.c sx ∧ MsgRd W (.agg (msgC m.c sx)) m sx
theorem PM.below {m : M} : ∀ cx W1 W2, PM m cx W1 → Below W1.heap.size W1 W2 → PM m cx W2 := fun cx W1 W2 ⟨sx, h1, h2⟩ hB => ⟨sx, h1, h2.below hB⟩
theorem zuy (w : World) (v : Value) (m : M) (sv : Nat → Value) (h : MsgRd w v m sv) (hs : ∀ j, (m.L j).length ≤ 1048576) :
  Calls Try.prog 10 #[v] w (fun e w' => (∃ cx, e = .returned (.agg cx) ∧ (cx.size = 26 ∧ zdj cx) ∧ PM m cx w') ∧ Below w.heap.size w w') := by
 refine (plain_c w v m sv h hs).mono ?_
 rintro e w' ⟨v', sx, rfl, hM, hB, _⟩
 have e := hM.eq
 unfold msgV at e
 subst e
 exact ⟨⟨_, rfl, ⟨zce _ _, hM.one⟩, sx, rfl, hM⟩, hB⟩
theorem writes_c (w : World) (va vb : Value) (a b : M) (sa sb : Nat → Value) (h0 : MsgRd w va a sa) (k0 : Small a) (n0 : Neat a) (h1 : MsgRd w vb b sb) (k1 : Small b) (n1 : Neat b) : Calls Try.prog 3 #[va, vb] w (zlc w) := by
 have e0 := h0.eq
 have e1 := h1.eq
 unfold msgV at e0 e1
 subst e0
 subst e1
 have L0 := fun (W : World) (hB : Below w.heap.size w W) => ztt W _ a sa (h0.below hB)
 have L1 := fun (W : World) (hB : Below w.heap.size w W) => ztt W _ b sb (h1.below hB)
 by_cases la : zml a
 ·by_cases lb : zml b
  ·obtain ⟨r, hr⟩ := zgk (MEq a b)
   have HLa := aK (fun (W : World) (hB : Below w.heap.size w W) => zdb la (L0 W hB))
   have HLb := aK (fun (W : World) (hB : Below w.heap.size w W) => zdb lb (L1 W hB))
   have HPa := aK (fun (W : World) (hB : Below w.heap.size w W) => zuy W _ a sa (h0.below hB) k0.few)
   have HT : ∀ cx W, PM a cx W → Calls Try.prog 16 #[.agg cx] W (fun e w' => e = .returned (.agg cx) ∧ Below W.heap.size W w') := fun cx W ⟨sx, e, hM⟩ => e ▸ told_c W _ a sx hM
   have HS1 : ∀ cx W, Below w.heap.size w W → PM a cx W → Calls Try.prog 15 #[.agg cx, .agg (msgC a.c sa)] W (fun e w' => e = .returned (.bool true) ∧ Below W.heap.size W w') := fun cx W hB ⟨sx, e, hM⟩ => e ▸ zdb ⟨fun _ _ => rfl, fun _ _ _ => rfl⟩ (zjf W _ _ a a sx sa hM (h0.below hB) k0.few k0.few)
   have HPb : ∀ cx W, Below w.heap.size w W → PM a cx W → Calls Try.prog 10 #[.agg (msgC b.c sb)] W (fun e w' => ∃ cy, e = .returned (.agg cy) ∧ Below W.heap.size W w' ∧ ∀ W2, Below w'.heap.size w' W2 → Calls Try.prog 17 #[.agg cx, .agg cy] W2 (fun e w2 => e = .returned (.bool r) ∧ Below W2.heap.size W2 w2)) := fun cx W hB hX => (zuy W _ b sb (h1.below hB) k1.few).mono (by
    rintro e w' ⟨⟨cy, rfl, _, sy, ey, hMy⟩, hB2⟩
    refine ⟨cy, rfl, hB2, fun W2 hW2 => ?_⟩
    obtain ⟨sx, ex, hMx⟩ := PM.below _ _ _ hX (hB2.trans (hW2.mono hB2.size))
    subst ex ey
    exact boolC hr (zgb W2 _ _ a b sx sy hMx (hMy.below hW2) k0.few k1.few))
   have HS2 := aK (fun (W : World) (hB : Below w.heap.size w W) => boolC hr (zjf W _ _ a b sa sb (h0.below hB) (h1.below hB) k0.few k1.few))
   have hRE := fun (W : World) (hB : Below w.heap.size w W) => zmu W _ a sa (h0.below hB) k0.few (fun _ => k0)
   have brd := fun (l : List Int) (v : Value) (W1 W2 : World) (h : BRd W1 v l) (hB : Below W1.heap.size W1 W2) => h.below hB
   by_cases hm : zdk a
   ·have hI : ∀ x ∈ zcc (payB a), Pk.IsB x := PFr.sealL_isB (zgy k0)
    refine ww_yes w _ _ (zce _ _) (zce _ _) r (PM a) (fun v W => BRd W v (zcc (payB a))) (fun v W => BRd W v (zcc (payB a))) (aK ⟨PM.below, brd _, brd _⟩) HLa HLb HPa (aK (fun cx W ⟨sx, e, hM⟩ => ?_)) (aK (fun W hB => (hRE W hB).mono ?_)) (aK (fun cx W ⟨sx, e, hM⟩ => e ▸ zdb hm (zja W _ a sx hM k0))) (aK (fun v6 v8 W hv6 hv8 => zdb rfl (zur W v6 v8 _ _ hv6 hv8 hI hI))) (aK HT) (aK HS1) (aK HPb) HS2
    ·subst e
     refine (zkb W _ a sx hM k0 hm).mono ?_
     rintro e w' ⟨hB, v, rfl, hv⟩
     rw [zot h0.typed hm] at hv ⊢
     exact ⟨⟨v, rfl, hv⟩, hB⟩
    ·rintro e w' ⟨hB, ⟨_, v, rfl, hv⟩ | ⟨hno, _⟩⟩
     ·exact ⟨⟨v, rfl, hv⟩, hB⟩
     ·exact absurd hm hno
   ·refine ww_no w _ _ (zce _ _) (zce _ _) r (PM a) (fun v W => BRd W v []) (fun v W => BRd W v []) (aK ⟨PM.below, brd _, brd _⟩) HLa HLb HPa (aK (fun cx W ⟨sx, e, hM⟩ => ?_)) (aK (fun W hB => (hRE W hB).mono ?_)) (aK (fun cx W ⟨sx, e, hM⟩ => e ▸ zet hm (zja W _ a sx hM k0))) (aK (fun v6 v8 W hv6 hv8 => zdb rfl (zur W v6 v8 _ _ hv6 hv8 (fun x hx => nomatch hx) (fun x hx => nomatch hx)))) (aK HT) (aK HS1) (aK HPb) HS2
    ·subst e
     refine (zta W _ a sx hM k0 hm).mono ?_
     rintro e w' ⟨hB, v, rfl, hv⟩
     obtain ⟨A, c, rfl, h2⟩ := id hv
     exact ⟨⟨A, c, rfl, hv⟩, hB⟩
    ·rintro e w' ⟨hB, ⟨hyes, _⟩ | ⟨_, rfl⟩⟩
     ·exact absurd hyes hm
     ·exact ⟨⟨_, rfl, none, 0, rfl, ⟨rfl, by simp, fun h => absurd h (by simp)⟩, Nat.le_refl _⟩, hB⟩
  ·exact zux w _ _ (zce _ _) (zce _ _) true false (.inr ⟨rfl, rfl⟩) (aK (fun W hB => zdb la (L0 W hB))) (aK (fun W hB => zet lb (L1 W hB)))
 ·obtain ⟨lb, hlb⟩ := zgk (zml b)
  exact zux w _ _ (zce _ _) (zce _ _) false lb (.inl rfl) (aK (fun W hB => zet la (L0 W hB))) (aK (fun W hB => boolC hlb (L1 W hB)))
end Go.Proofs.Ytcbehfbfaonanaa.Wr
end
