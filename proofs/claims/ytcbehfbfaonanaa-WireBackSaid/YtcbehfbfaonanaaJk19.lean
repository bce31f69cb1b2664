/- Part 20 of the texts that walk the program and tell its laws, joined in the order of their building. No conditions. -/
import Derived.Test.YtcbehfbfaonanaaJk18
import Derived.Test.YtcbehfbfaonanaaJk2
import Derived.Test.YtcbehfbfaonanaaJk8
set_option maxRecDepth 100000
set_option maxHeartbeats 16000000
section
namespace Go.Proofs.Ytcbehfbfaonanaa.Wr
open Go.RowKit Go.Proofs.YtcbehfbfaonanaaW.PrintWords Go.Proofs.YtcbehfbfaonanaaW.PrintLast Go.Proofs.YtcbehfbfaonanaaW.PrintMore Go.Proofs.Ytcbehfbfaonanaa.Pk
set_option linter.unusedVariables false
set_option linter.unusedSimpArgs false
theorem rl_pair_end (w : World) (g : Nat) (f : Nat → Value) (x : Nat → Int) (s : Nat → ByteArray) (p : Nat → Bool) (A : Nat → Option Addr) (n c : Nat → Nat) (K : Exit → Act → World → Prop) (i : Nat) (HX : Aside0 (w.heap[g]? = some (.cells (cX x s p (fun j => .slice (A j) (n j) (c j))) 32 (0, 0)))) (h3 : f 5 = .int .i64 (i : Int)) (hd : decide ((i : Int) < ((n 8 : Nat) : Int)) = false)
  (hK : ∀ a, RFr 247 g a → K (.exit 2) a w) : Code.wp Try.prog (cl (cl (cr (cl rb15)))) K (rfr g f) w := by
 unfold rfr
 rw [h3]
 have hq := eq_false (of_decide_eq_false hd)
 have hn := eq_false (show ¬ i < n 8 by have := of_decide_eq_false hd; omega)
 conv => arg 2; whnf
 go_wp2_with (first | ((with_reducible refine gate_in [164] (by decide) ?_); refine ld (T := 25) (g := g) (v := .slice (A 8) (n 8) (c 8)) rfl rfl HX.out (by rfl) rfl TuP rfl ?_))
 first | exact ⟨rfl, rfl, rfl⟩ | exact hK _ ⟨rfl, rfl, rfl⟩
theorem rl_pair (w : World) (g : Nat) (f : Nat → Value) (x : Nat → Int) (s : Nat → ByteArray) (p : Nat → Bool) (A : Nat → Option Addr) (n c : Nat → Nat) (K : Exit → Act → World → Prop) (i : Nat) (e0 : ByteArray) (e1 : Int) (e2 : Int) (e3 : Bool) (e4 : ByteArray) (h3 : f 5 = .int .i64 (i : Int)) (hi : i < n 8) (hn : n 8 ≤ 1048576) (ad : Addr) (HA : Aside0 (A 8 = some ad)) (HX : Aside0 (w.heap[g]? = some (.cells (cX x s p (fun j => .slice (A j) (n j) (c j))) 32 (0, 0)))) (HR : Aside0 (∀ j v, ([.string e0, .int .i64 e1, .int .i64 e2, .bool e3, .string e4] : List Value)[j]? = some v → w.cell? ((ad.add (i * 5)).add j) = some v)) (b0 b1 b2 : Bool) (HP : Aside0 (∀ W : World, Calls Try.prog 49 #[.slice (some ⟨W.heap.size, 0, none⟩) 1 1] (W.alloc (.cells #[.int .i64 e1, .int .i64 e2] 24)) (fun e w' => e = .returned (.bool b0) ∧ Drawn0 (W.alloc (.cells #[.int .i64 e1, .int .i64 e2] 24)) w'))) (hC1 : decide ((64 : Int) < ((e0.size : Nat) : Int)) = b1) (hC2 : decide ((1024 : Int) < ((e4.size : Nat) : Int)) = b2)
  (hno : ¬ (b0 = true ∧ b1 = false ∧ b2 = false) → ∀ a w', RFr 247 g a → a.tmps[2]? = some (.bool false) → Below w.heap.size w w' → K .ret a w') (hyes : b0 = true ∧ b1 = false ∧ b2 = false → ∀ a w', RFr 247 g a → a.tmps[5]? = some (.int .i64 ((i + 1 : Nat) : Int)) → Below w.heap.size w w' → K .normal a w') : Code.wp Try.prog (cl (cl (cr (cl rb15)))) K (rfr g f) w := by
 have HB := aK (Below.refl w.heap.size w)
 unfold rfr
 rw [h3]
 have hd : decide ((i : Int) < ((n 8 : Nat) : Int)) = true := by simp; omega
 have hp := eq_true (show (0 : Int) ≤ (i : Int) by omega)
 have hq := eq_true (show (i : Int) < ((n 8 : Nat) : Int) by omega)
 have hw : IntKind.i64.wrap ((i : Int) + 1) = ((i + 1 : Nat) : Int) := by rw [IntKind.wrap_i64]; omega
 clear hi hn
 cases b0; rotate_left
 obtain rfl | rfl : b1 = true ∨ b1 = false := (by cases b1 <;> simp)
 rotate_left
 obtain rfl | rfl : b2 = true ∨ b2 = false := (by cases b2 <;> simp)
 rotate_left
 all_goals
  conv => arg 2; whnf
  go_wp2_with (first | ((with_reducible refine gate_in [164] (by decide) ?_); refine ld (T := 25) (g := g) (v := .slice (A 8) (n 8) (c 8)) rfl rfl HX.out (by rfl) rfl TuP rfl ?_) | ((with_reducible refine gate_in [170] (by decide) ?_); refine ld (T := 25) (g := g) (v := .slice (some ad) (n 8) (c 8)) rfl rfl HX.out (by rw [← HA.out]; rfl) rfl TuP rfl ?_) | ((with_reducible refine gate_in [173] (by decide) ?_); refine ldA (T := 68) (q := ad.add (i * 5)) (vs := [.string e0, .int .i64 e1, .int .i64 e2, .bool e3, .string e4]) rfl rfl HR.out rfl Try.underlying68 rfl (by kernel_rfl) ?_) | ((with_reducible refine gate_in [6] (by decide) ?_); refine alloc_row rfl 68 rfl #[.string (⟨#[]⟩ : ByteArray), .int .i64 0, .int .i64 0, .bool false, .string (⟨#[]⟩ : ByteArray)] (by first | (go_simp; done) | (go_simp; rfl)) ?_; intro ge we hg hbox hb; have HE0 := aK hbox; have HGE := aK (show w.heap.size ≤ ge from by rw [hg]; exact HB.out.size); have HB := aK (HB.out.trans (hb.mono HB.out.size)); clear hg hbox hb) | ((with_reducible refine gate_store (t := 68) (p := 6) rfl ?_); refine store_row rfl 68 (.tmp 6) (.tmp 173) rfl ge rfl #[.string e0, .int .i64 e1, .int .i64 e2, .bool e3, .string e4] _ rfl 68 HE0.out rfl (by kernel_rfl) rfl ?_; intro w2 hX hO; have HE := aK hX; have HB := aK (below_only HB.out hO HB.out.size (fun k hk => by rw [hk]; exact HGE.out)); clear hX hO HE0) | ((with_reducible refine gate_in [182, 189] (by decide) ?_); refine ld (T := 9) (g := ge) (v := .string _) rfl rfl HE.out rfl rfl TuX rfl ?_) | ((with_reducible refine gate_in [176] (by decide) ?_); refine ldr (T := 24) (g := ge) (vs := [.int .i64 _, .int .i64 _]) rfl rfl HE.out 2 rfl rfl Try.underlying24 rfl (by kernel_rfl) ?_) | ((with_reducible refine gate_in [177] (by decide) ?_); refine Kd.event_run rfl (v := .slice (some ⟨w2.heap.size, 0, none⟩) 1 1) (w1 := w2.alloc (.cells #[.int .i64 e1, .int .i64 e2] 24)) (by first | (go_simp; done) | (go_simp; rfl)) ?_; have HE := aK (((below_alloc (Below.refl _ _) (.cells #[.int .i64 e1, .int .i64 e2] 24)).block ge (blk_lt HE.out)).trans HE.out); have HB := aK (below_alloc HB.out (.cells #[.int .i64 e1, .int .i64 e2] 24))) | (go_at_call 49; (with_reducible refine (HP.out w2).mono ?_); rintro e wn ⟨rfl, hD⟩; have HE := aK (dblk hD HE.out); have HB := aK (HB.out.trans (hD.below.mono HB.out.size)); clear hD))
  first | exact hyes (by simp) _ _ ⟨rfl, rfl, rfl⟩ (by first | rfl | (rw [← hw]; rfl) | (simp; done)) HB.out | exact hno (by simp) _ _ ⟨rfl, rfl, rfl⟩ rfl HB.out
theorem rl_seen_end (w : World) (g : Nat) (f : Nat → Value) (x : Nat → Int) (s : Nat → ByteArray) (p : Nat → Bool) (A : Nat → Option Addr) (n c : Nat → Nat) (K : Exit → Act → World → Prop) (i : Nat) (HX : Aside0 (w.heap[g]? = some (.cells (cX x s p (fun j => .slice (A j) (n j) (c j))) 32 (0, 0)))) (h3 : f 7 = .int .i64 (i : Int)) (hd : decide ((i : Int) < ((n 9 : Nat) : Int)) = false)
  (hK : ∀ a, RFr 247 g a → K (.exit 4) a w) : Code.wp Try.prog (cl (cl (cr (cl rb21)))) K (rfr g f) w := by
 unfold rfr
 rw [h3]
 have hq := eq_false (of_decide_eq_false hd)
 have hn := eq_false (show ¬ i < n 9 by have := of_decide_eq_false hd; omega)
 conv => arg 2; whnf
 go_wp2_with (first | ((with_reducible refine gate_in [195] (by decide) ?_); refine ld (T := 26) (g := g) (v := .slice (A 9) (n 9) (c 9)) rfl rfl HX.out (by rfl) rfl TuS rfl ?_))
 first | exact ⟨rfl, rfl, rfl⟩ | exact hK _ ⟨rfl, rfl, rfl⟩
theorem rl_seen (w : World) (g : Nat) (f : Nat → Value) (x : Nat → Int) (s : Nat → ByteArray) (p : Nat → Bool) (A : Nat → Option Addr) (n c : Nat → Nat) (K : Exit → Act → World → Prop) (i : Nat) (e0 : Int) (e1 : Int) (e2 : Int) (e3 : Int) (h3 : f 7 = .int .i64 (i : Int)) (hi : i < n 9) (hn : n 9 ≤ 1048576) (ad : Addr) (HA : Aside0 (A 9 = some ad)) (HX : Aside0 (w.heap[g]? = some (.cells (cX x s p (fun j => .slice (A j) (n j) (c j))) 32 (0, 0)))) (HR : Aside0 (∀ j v, ([.int .i64 e0, .int .i64 e1, .int .i64 e2, .int .i64 e3] : List Value)[j]? = some v → w.cell? ((ad.add (i * 4)).add j) = some v)) (b0 b1 b2 : Bool) (HP : Aside0 (∀ W : World, Calls Try.prog 49 #[.slice (some ⟨W.heap.size, 0, none⟩) 1 1] (W.alloc (.cells #[.int .i64 e2, .int .i64 e3] 24)) (fun e w' => e = .returned (.bool b0) ∧ Drawn0 (W.alloc (.cells #[.int .i64 e2, .int .i64 e3] 24)) w'))) (HI1 : Aside0 (∀ W : World, Calls Try.prog 47 #[.int .i64 (e0), .int .i64 0, .int .i64 9007199254740992] W (fun e w' => e = .returned (.bool b1) ∧ Drawn0 W w'))) (HI2 : Aside0 (∀ W : World, Calls Try.prog 47 #[.int .i64 (e1), .int .i64 0, .int .i64 9007199254740992] W (fun e w' => e = .returned (.bool b2) ∧ Drawn0 W w')))
  (hno : ¬ (b0 = true ∧ b1 = true ∧ b2 = true) → ∀ a w', RFr 247 g a → a.tmps[2]? = some (.bool false) → Below w.heap.size w w' → K .ret a w') (hyes : b0 = true ∧ b1 = true ∧ b2 = true → ∀ a w', RFr 247 g a → a.tmps[7]? = some (.int .i64 ((i + 1 : Nat) : Int)) → Below w.heap.size w w' → K .normal a w') : Code.wp Try.prog (cl (cl (cr (cl rb21)))) K (rfr g f) w := by
 have HB := aK (Below.refl w.heap.size w)
 unfold rfr
 rw [h3]
 have hd : decide ((i : Int) < ((n 9 : Nat) : Int)) = true := by simp; omega
 have hp := eq_true (show (0 : Int) ≤ (i : Int) by omega)
 have hq := eq_true (show (i : Int) < ((n 9 : Nat) : Int) by omega)
 have hw : IntKind.i64.wrap ((i : Int) + 1) = ((i + 1 : Nat) : Int) := by rw [IntKind.wrap_i64]; omega
 clear hi hn
 cases b0; rotate_left
 cases b1; rotate_left
 cases b2; rotate_left
 all_goals
  conv => arg 2; whnf
  go_wp2_with (first | ((with_reducible refine gate_in [195] (by decide) ?_); refine ld (T := 26) (g := g) (v := .slice (A 9) (n 9) (c 9)) rfl rfl HX.out (by rfl) rfl TuS rfl ?_) | ((with_reducible refine gate_in [201] (by decide) ?_); refine ld (T := 26) (g := g) (v := .slice (some ad) (n 9) (c 9)) rfl rfl HX.out (by rw [← HA.out]; rfl) rfl TuS rfl ?_) | ((with_reducible refine gate_in [204] (by decide) ?_); refine ldA (T := 70) (q := ad.add (i * 4)) (vs := [.int .i64 e0, .int .i64 e1, .int .i64 e2, .int .i64 e3]) rfl rfl HR.out rfl Try.underlying70 rfl (by kernel_rfl) ?_) | ((with_reducible refine gate_in [8] (by decide) ?_); refine alloc_row rfl 70 rfl #[.int .i64 0, .int .i64 0, .int .i64 0, .int .i64 0] (by first | (go_simp; done) | (go_simp; rfl)) ?_; intro ge we hg hbox hb; have HE0 := aK hbox; have HGE := aK (show w.heap.size ≤ ge from by rw [hg]; exact HB.out.size); have HB := aK (HB.out.trans (hb.mono HB.out.size)); clear hg hbox hb) | ((with_reducible refine gate_store (t := 70) (p := 8) rfl ?_); refine store_row rfl 70 (.tmp 8) (.tmp 204) rfl ge rfl #[.int .i64 e0, .int .i64 e1, .int .i64 e2, .int .i64 e3] _ rfl 70 HE0.out rfl (by kernel_rfl) rfl ?_; intro w2 hX hO; have HE := aK hX; have HB := aK (below_only HB.out hO HB.out.size (fun k hk => by rw [hk]; exact HGE.out)); clear hX hO HE0) | ((with_reducible refine gate_in [212, 218] (by decide) ?_); refine ld (T := 3) (g := ge) (v := .int .i64 _) rfl rfl HE.out rfl rfl TuI rfl ?_) | ((with_reducible refine gate_in [206] (by decide) ?_); refine ldr (T := 24) (g := ge) (vs := [.int .i64 _, .int .i64 _]) rfl rfl HE.out 2 rfl rfl Try.underlying24 rfl (by kernel_rfl) ?_) | ((with_reducible refine gate_in [207] (by decide) ?_); refine Kd.event_run rfl (v := .slice (some ⟨w2.heap.size, 0, none⟩) 1 1) (w1 := w2.alloc (.cells #[.int .i64 e2, .int .i64 e3] 24)) (by first | (go_simp; done) | (go_simp; rfl)) ?_; have HE := aK (((below_alloc (Below.refl _ _) (.cells #[.int .i64 e2, .int .i64 e3] 24)).block ge (blk_lt HE.out)).trans HE.out); have HB := aK (below_alloc HB.out (.cells #[.int .i64 e2, .int .i64 e3] 24))) | (go_at_call 49; (with_reducible refine (HP.out w2).mono ?_); rintro e wn ⟨rfl, hD⟩; have HE := aK (dblk hD HE.out); have HB := aK (HB.out.trans (hD.below.mono HB.out.size)); clear hD) | (go_at_call 47; (with_reducible refine (HI1.out _).mono ?_); rintro e wn ⟨rfl, hD⟩; have HE := aK (dblk hD HE.out); have HB := aK (HB.out.trans (hD.below.mono HB.out.size)); clear hD) | (go_at_call 47; (with_reducible refine (HI2.out _).mono ?_); rintro e wn ⟨rfl, hD⟩; have HE := aK (dblk hD HE.out); have HB := aK (HB.out.trans (hD.below.mono HB.out.size)); clear hD))
  first | exact hyes (by simp) _ _ ⟨rfl, rfl, rfl⟩ (by first | rfl | (rw [← hw]; rfl) | (simp; done)) HB.out | exact hno (by simp) _ _ ⟨rfl, rfl, rfl⟩ rfl HB.out
theorem rl_epoch_end (w : World) (g : Nat) (f : Nat → Value) (x : Nat → Int) (s : Nat → ByteArray) (p : Nat → Bool) (A : Nat → Option Addr) (n c : Nat → Nat) (K : Exit → Act → World → Prop) (i : Nat) (HX : Aside0 (w.heap[g]? = some (.cells (cX x s p (fun j => .slice (A j) (n j) (c j))) 32 (0, 0)))) (h3 : f 9 = .int .i64 (i : Int)) (hd : decide ((i : Int) < ((n 10 : Nat) : Int)) = false)
  (hK : ∀ a, RFr 247 g a → K (.exit 6) a w) : Code.wp Try.prog (cl (cl (cr (cl rb27)))) K (rfr g f) w := by
 unfold rfr
 rw [h3]
 have hq := eq_false (of_decide_eq_false hd)
 have hn := eq_false (show ¬ i < n 10 by have := of_decide_eq_false hd; omega)
 conv => arg 2; whnf
 go_wp2_with (first | ((with_reducible refine gate_in [224] (by decide) ?_); refine ld (T := 27) (g := g) (v := .slice (A 10) (n 10) (c 10)) rfl rfl HX.out (by rfl) rfl TuT rfl ?_))
 first | exact ⟨rfl, rfl, rfl⟩ | exact hK _ ⟨rfl, rfl, rfl⟩
theorem rl_epoch (w : World) (g : Nat) (f : Nat → Value) (x : Nat → Int) (s : Nat → ByteArray) (p : Nat → Bool) (A : Nat → Option Addr) (n c : Nat → Nat) (K : Exit → Act → World → Prop) (i : Nat) (e0 : Int) (e1 : Int) (e2 : Bool) (h3 : f 9 = .int .i64 (i : Int)) (hi : i < n 10) (hn : n 10 ≤ 1048576) (ad : Addr) (HA : Aside0 (A 10 = some ad)) (HX : Aside0 (w.heap[g]? = some (.cells (cX x s p (fun j => .slice (A j) (n j) (c j))) 32 (0, 0)))) (HC0 : Aside0 (∀ W : World, Below w.heap.size w W → W.cell? (ad.add (i * 3)) = some (.int .i64 e0))) (HC1 : Aside0 (∀ W : World, Below w.heap.size w W → W.cell? ⟨(ad.add (i * 3)).block, (ad.add (i * 3)).off + 1, none⟩ = some (.int .i64 e1))) (b0 b1 : Bool) (HI0 : Aside0 (∀ W : World, Calls Try.prog 47 #[.int .i64 (e0), .int .i64 0, .int .i64 4] W (fun e w' => e = .returned (.bool b0) ∧ Drawn0 W w'))) (HI1 : Aside0 (∀ W : World, Calls Try.prog 47 #[.int .i64 (e1), .int .i64 0, .int .i64 512] W (fun e w' => e = .returned (.bool b1) ∧ Drawn0 W w')))
  (hno : ¬ (b0 = true ∧ b1 = true) → ∀ a w', RFr 247 g a → a.tmps[2]? = some (.bool false) → Below w.heap.size w w' → K .ret a w') (hyes : b0 = true ∧ b1 = true → ∀ a w', RFr 247 g a → a.tmps[9]? = some (.int .i64 ((i + 1 : Nat) : Int)) → Below w.heap.size w w' → K .normal a w') : Code.wp Try.prog (cl (cl (cr (cl rb27)))) K (rfr g f) w := by
 have HB := aK (Below.refl w.heap.size w)
 unfold rfr
 rw [h3]
 have hd : decide ((i : Int) < ((n 10 : Nat) : Int)) = true := by simp; omega
 have hp := eq_true (show (0 : Int) ≤ (i : Int) by omega)
 have hq := eq_true (show (i : Int) < ((n 10 : Nat) : Int) by omega)
 have hw : IntKind.i64.wrap ((i : Int) + 1) = ((i + 1 : Nat) : Int) := by rw [IntKind.wrap_i64]; omega
 clear hi hn
 have hc0 := HC0.out w (Below.refl _ _)
 have hc1 := HC1.out w (Below.refl _ _)
 cases b0; rotate_left
 cases b1; rotate_left
 all_goals
  conv => arg 2; whnf
  go_wp2_with (first | ((with_reducible refine gate_in [224] (by decide) ?_); refine ld (T := 27) (g := g) (v := .slice (A 10) (n 10) (c 10)) rfl rfl HX.out (by rfl) rfl TuT rfl ?_) | ((with_reducible refine gate_in [230, 239] (by decide) ?_); refine ld (T := 27) (g := g) (v := .slice (some ad) (n 10) (c 10)) rfl rfl HX.out (by rw [← HA.out]; rfl) rfl TuT rfl ?_) | (go_at_call 47; (with_reducible refine (HI0.out _).mono ?_); rintro e wn ⟨rfl, hD⟩; have HX := aK (dblk hD HX.out); have HB := aK (HB.out.trans (hD.below.mono HB.out.size)); have hc0 := HC0.out _ HB.out; have hc1 := HC1.out _ HB.out; clear hD) | (go_at_call 47; (with_reducible refine (HI1.out _).mono ?_); rintro e wn ⟨rfl, hD⟩; have HX := aK (dblk hD HX.out); have HB := aK (HB.out.trans (hD.below.mono HB.out.size)); have hc0 := HC0.out _ HB.out; have hc1 := HC1.out _ HB.out; clear hD))
  first | exact hyes (by simp) _ _ ⟨rfl, rfl, rfl⟩ (by first | rfl | (rw [← hw]; rfl) | (simp; done)) HB.out | exact hno (by simp) _ _ ⟨rfl, rfl, rfl⟩ rfl HB.out
end Go.Proofs.Ytcbehfbfaonanaa.Wr
end
section
namespace Go.Proofs.Ytcbehfbfaonanaa.Pk
open Go.RowKit Go.Proofs.YtcbehfbfaonanaaW.PrintWords Go.Proofs.YtcbehfbfaonanaaW.PrintLast Go.Proofs.YtcbehfbfaonanaaW.PrintMore
set_option linter.unusedVariables false
set_option linter.unusedSimpArgs false
theorem goN_enc (f : Nat) : ∀ (m : Nat) (N B : Int) (t : List Int), (enc m).length ≤ f → 0 ≤ N → 0 < B → N + m * B ≤ 9007199254740992 → (m = 0 → f = 8) → goN f N B (enc m ++ t) = (N + m * B, t, false) := by
 induction f with
 | zero => intro m N B t h; have := enc_pos m; omega
 | succ f ih =>
  intro m N B t h hN hB hle h0
  by_cases hm : m < 128
  ·rw [enc_lt hm]
   show goN (f + 1) N B ((m : Int) :: t) = _
   unfold goN
   have e : (m : Int) % 128 = m := by omega
   rw [e, if_pos (by omega), if_neg (by omega)]
  ·rw [enc_ge hm] at h ⊢
   show goN (f + 1) N B (((m : Int) % 128 + 128) :: (enc (m / 128) ++ t)) = _
   unfold goN
   have e : ((m : Int) % 128 + 128) % 128 = (m : Int) % 128 := by omega
   have e2 : (N + (m : Int) % 128 * B) + ((m / 128 : Nat) : Int) * (B * 128) = N + m * B := by
    have h1 : (m : Int) = (m : Int) % 128 + 128 * ((m / 128 : Nat) : Int) := by omega
    have h2 : ((m / 128 : Nat) : Int) * (B * 128) = (128 * ((m / 128 : Nat) : Int)) * B := by
     rw [Int.mul_comm B 128, ← Int.mul_assoc, Int.mul_comm _ (128 : Int)]
    rw [h2, Int.add_assoc, ← Int.add_mul, ← h1]
   have hp : 0 ≤ (m : Int) % 128 * B := Int.mul_nonneg (by omega) (by omega)
   rw [if_neg (by omega), e, ← e2]
   simp only [List.length_cons] at h
   exact ih (m / 128) _ _ t (by omega) (by omega) (by omega) (by rw [e2]; exact hle) (fun h => by omega)
theorem rnum_enc {m : Nat} (h : m ≤ 9007199254740992) (t : List Int) : rnum (enc m ++ t) false = ((m : Int), t, false) := by
 show goN 8 0 1 (enc m ++ t) = _
 rw [goN_enc 8 m 0 1 t (enc_len8 h) (by decide) (by decide) (by omega) (fun _ => rfl)]
 simp
theorem goN_dec (f : Nat) : ∀ (N B : Int) (bs t : List Int) (n : Int), (∀ x ∈ bs, IsB x) → f ≤ 8 → 0 ≤ N → 0 < B → goN f N B bs = (n, t, false) → ∃ m : Nat, bs = enc m ++ t ∧ n = N + m * B ∧ n ≤ 9007199254740992 ∧ (m = 0 → f = 8) := by
 induction f with
 | zero => intro N B bs t n _ _ _ _ h; cases h
 | succ f ih =>
  intro N B bs t n hb hf hN hB h
  cases bs with
  | nil => cases h
  | cons c s =>
   obtain ⟨c0, c1⟩ := hb c (by simp)
   unfold goN at h
   by_cases hc : c < 128
   ·rw [if_pos hc] at h
    split at h
    ·cases h
    ·rename_i hn
     have e : c % 128 = c := by omega
     rw [e] at h hn
     simp only [Prod.mk.injEq] at h
     obtain ⟨rfl, rfl, _⟩ := h
     refine ⟨c.toNat, ?_, by rw [Int.toNat_of_nonneg c0], by omega, fun h => by omega⟩
     rw [enc_lt (by omega), Int.toNat_of_nonneg c0]
     rfl
   ·rw [if_neg hc] at h
    have hp : 0 ≤ c % 128 * B := Int.mul_nonneg (by omega) (by omega)
    obtain ⟨m, rfl, e, hle, h0⟩ := ih _ _ _ _ _ (fun x hx => hb x (by simp [hx])) (by omega) (by omega) (by omega) h
    have hm : m ≠ 0 := fun hm => by have := h0 hm; omega
    obtain ⟨d, hd⟩ : ∃ d : Nat, c % 128 = d := ⟨(c % 128).toNat, by omega⟩
    have hm2 : ¬ d + 128 * m < 128 := by omega
    refine ⟨d + 128 * m, ?_, ?_, hle, fun h => by omega⟩
    ·rw [enc_ge hm2]
     have e1 : ((d + 128 * m : Nat) : Int) % 128 + 128 = c := by omega
     have e2 : (d + 128 * m) / 128 = m := by omega
     rw [e1, e2]
     rfl
    ·rw [e, hd]
     have h2 : (m : Int) * (B * 128) = (128 * (m : Int)) * B := by rw [Int.mul_comm B 128, ← Int.mul_assoc, Int.mul_comm _ (128 : Int)]
     rw [h2, Int.add_assoc, ← Int.add_mul]
     rfl
theorem rnum_dec {bs t : List Int} {n : Int} (hb : ∀ x ∈ bs, IsB x) (h : rnum bs false = (n, t, false)) : ∃ m : Nat, bs = enc m ++ t ∧ n = m ∧ m ≤ 9007199254740992 := by
 obtain ⟨m, h1, h2, h3, _⟩ := goN_dec 8 0 1 bs t n hb (by decide) (by decide) (by decide) h
 exact ⟨m, h1, by omega, by omega⟩
theorem strOf_bytesOf (s : ByteArray) : strOfNums (bytesOf s) = s := by
 apply ByteArray.ext
 apply Array.ext'
 rw [strOfNums_data]
 unfold bytesOf
 rw [List.map_map]
 conv => rhs; rw [← List.map_id s.data.toList]
 apply List.map_congr_left
 intro b _
 simp
theorem bytesOf_strOf {xs : List Int} (h : ∀ x ∈ xs, IsB x) : bytesOf (strOfNums xs) = xs := by
 unfold bytesOf
 rw [strOfNums_data, List.map_map]
 conv => rhs; rw [← List.map_id xs]
 apply List.map_congr_left
 intro x hx
 obtain ⟨h0, h1⟩ := h x hx
 simp only [Function.comp, id]
 rw [UInt8.toNat_ofNat']
 have : x.toNat % 2 ^ 8 = x.toNat := Nat.mod_eq_of_lt (by omega)
 rw [this]
 omega
theorem enc_isB : ∀ n : Nat, ∀ x ∈ enc n, IsB x := by
 intro n
 induction n using Nat.strongRecOn with
 | _ n ih =>
  intro x hx
  by_cases h : n < 128
  ·rw [enc_lt h] at hx
   obtain rfl := List.mem_singleton.1 hx
   unfold IsB; omega
  ·rw [enc_ge h] at hx
   rcases List.mem_cons.1 hx with rfl | hx
   ·unfold IsB; omega
   ·exact ih (n / 128) (by omega) x hx
theorem bytesOf_isB (s : ByteArray) : ∀ x ∈ bytesOf s, IsB x := by
 intro x hx
 unfold bytesOf at hx
 obtain ⟨b, _, rfl⟩ := List.mem_map.1 hx
 have := b.toNat_lt
 unfold IsB; omega
end Go.Proofs.Ytcbehfbfaonanaa.Pk
end
section
namespace Go.Proofs.Ytcbehfbfaonanaa.Wr
open Go.RowKit Go.Proofs.YtcbehfbfaonanaaW.PrintWords Go.Proofs.YtcbehfbfaonanaaW.PrintLast Go.Proofs.YtcbehfbfaonanaaW.PrintMore Go.Proofs.Ytcbehfbfaonanaa.Pk
set_option linter.unusedVariables false
set_option linter.unusedSimpArgs false
def fldB : Fld → Value → List Int
 | .num _ _, .int .i64 n => enc n.toNat
 | .flag, .bool x => [if x = true then 1 else 0]
 | .text _, .string x => enc x.size ++ bytesOf x
 | _, _ => []
def InF : Fld → Value → Prop
 | .num lo hi, .int .i64 n => lo ≤ n ∧ n ≤ hi ∧ 0 ≤ n ∧ n ≤ 9007199254740992
 | .flag, .bool _ => True
 | .text most, .string x => (x.size : Int) ≤ most ∧ x.size ≤ 9007199254740992
 | _, _ => False
theorem enc_flag (x : Bool) : enc (if x = true then (1 : Int) else 0).toNat = [if x = true then 1 else 0] := by
 cases x
 ·exact enc_lt (by decide)
 ·exact enc_lt (by decide)
theorem fld_w {g : Nat} {f : Fld} {v : Value} (hf : f.fits v) (s : OSt) : ((oForm g).fld s f v).2 = v ∧
  (((oForm g).fld s f v).1.2 = (false, false) → s.2 = (false, false) ∧ InF f v ∧ ((oForm g).fld s f v).1.1 = s.1 ++ fldB f v) ∧
  (s.2 = (false, false) → InF f v → ((oForm g).fld s f v).1 = (s.1 ++ fldB f v, false, false)) := by
 obtain ⟨xs, bad, b⟩ := s
 cases f with
 | num lo hi =>
  obtain ⟨n, rfl⟩ := hf
  refine ⟨rfl, fun h => ?_, fun h hi => ?_⟩
  ·have h1 : (wnum n xs bad).2 = false := congrArg Prod.fst h
   have h2 : (b || decide (n < lo) || decide (hi < n)) = false := congrArg Prod.snd h
   simp only [Bool.or_eq_false_iff, decide_eq_false_iff_not] at h2
   have hb : bad = false := by cases bad <;> first | rfl | (rw [wnum_bad] at h1; cases h1)
   subst hb
   have hr : 0 ≤ n ∧ n ≤ 9007199254740992 := by
    refine Classical.byContradiction fun hn => ?_
    rw [wnum_out (by omega)] at h1
    cases h1
   refine ⟨by rw [h2.1.1], ⟨by omega, by omega, hr.1, hr.2⟩, ?_⟩
   show (wnum n xs false).1 = _
   rw [wnum_good hr.1 hr.2]
   rfl
  ·obtain ⟨h1, h2, h3, h4⟩ := hi
   simp only [Prod.mk.injEq] at h
   obtain ⟨rfl, rfl⟩ := h
   show ((wnum n xs false).1, (wnum n xs false).2, (false || decide (n < lo) || decide (_ < n))) = _
   rw [wnum_good h3 h4, decide_eq_false (by omega), decide_eq_false (by omega)]
   rfl
 | flag =>
  obtain ⟨x, rfl⟩ := hf
  have hx : 0 ≤ (if x = true then (1 : Int) else 0) ∧ (if x = true then (1 : Int) else 0) ≤ 9007199254740992 := by cases x <;> decide
  refine ⟨rfl, fun h => ?_, fun h hi => ?_⟩
  ·have h1 : (wflag x xs bad).2 = false := congrArg Prod.fst h
   have h2 : b = false := congrArg Prod.snd h
   have hb : bad = false := by cases bad <;> first | rfl | (unfold wflag at h1; rw [wnum_bad] at h1; cases h1)
   subst hb
   refine ⟨by rw [h2], trivial, ?_⟩
   show (wnum _ xs false).1 = _
   rw [wnum_good hx.1 hx.2, enc_flag]
   rfl
  ·simp only [Prod.mk.injEq] at h
   obtain ⟨rfl, rfl⟩ := h
   show ((wnum _ xs false).1, (wnum _ xs false).2, false) = _
   rw [wnum_good hx.1 hx.2, enc_flag]
   rfl
 | text most =>
  obtain ⟨x, rfl⟩ := hf
  refine ⟨rfl, fun h => ?_, fun h hi => ?_⟩
  ·have h1 : (wtext x xs bad).2 = false := congrArg Prod.fst h
   have h2 : (b || decide (most < (x.size : Int))) = false := congrArg Prod.snd h
   simp only [Bool.or_eq_false_iff, decide_eq_false_iff_not] at h2
   have hb : bad = false := by cases bad <;> first | rfl | (unfold wtext at h1; rw [if_pos (wnum_bad _ _)] at h1; cases h1)
   subst hb
   have hr : x.size ≤ 9007199254740992 := by
    refine Classical.byContradiction fun hn => ?_
    unfold wtext at h1
    rw [if_pos (wnum_out (.inr (by omega)) _)] at h1
    cases h1
   refine ⟨by rw [h2.1], ⟨by omega, hr⟩, ?_⟩
   show (wtext x xs false).1 = _
   unfold wtext
   rw [wnum_good (by omega) (by omega), if_neg (by simp), Int.toNat_natCast]
   exact List.append_assoc _ _ _
  ·obtain ⟨h1, h2⟩ := hi
   simp only [Prod.mk.injEq] at h
   obtain ⟨rfl, rfl⟩ := h
   show ((wtext x xs false).1, (wtext x xs false).2, (false || decide (most < (x.size : Int)))) = _
   unfold wtext
   rw [wnum_good (by omega) (by omega), if_neg (by simp), Int.toNat_natCast, decide_eq_false (by omega), List.append_assoc]
   rfl
theorem rnum_badT (bs : List Int) : rnum bs true = (0, bs, true) := rfl
theorem fld_r {g r q : Nat} {f : Fld} {v : Value} (hf : f.fits v) (s : ISt) (hb : ∀ x ∈ s.1, IsB x) :
  f.fits ((iForm g r q).fld s f v).2 ∧ (((iForm g r q).fld s f v).1.2 = (false, false) → s.2 = (false, false) ∧ InF f ((iForm g r q).fld s f v).2 ∧ s.1 = fldB f ((iForm g r q).fld s f v).2 ++ ((iForm g r q).fld s f v).1.1) := by
 obtain ⟨xs, bad, b⟩ := s
 cases f with
 | num lo hi =>
  obtain ⟨n0, rfl⟩ := hf
  refine ⟨⟨_, rfl⟩, fun h => ?_⟩
  have h1 : (rnum xs bad).2.2 = false := congrArg Prod.fst h
  have h2 : (b || decide ((rnum xs bad).1 < lo) || decide (hi < (rnum xs bad).1)) = false := congrArg Prod.snd h
  simp only [Bool.or_eq_false_iff, decide_eq_false_iff_not] at h2
  have hbd : bad = false := by cases bad <;> first | rfl | (rw [rnum_badT] at h1; cases h1)
  subst hbd
  obtain ⟨m, e1, e2, e3⟩ := rnum_dec (n := (rnum xs false).1) (t := (rnum xs false).2.1) hb (show rnum xs false = _ from Prod.ext rfl (Prod.ext rfl h1))
  have hIn : InF (.num lo hi) (.int .i64 (rnum xs false).1) := ⟨by omega, by omega, by omega, by omega⟩
  refine ⟨by rw [h2.1.1], hIn, ?_⟩
  show xs = enc (rnum xs false).1.toNat ++ (rnum xs false).2.1
  rw [e2, Int.toNat_natCast]
  exact e1
 | flag =>
  obtain ⟨x0, rfl⟩ := hf
  refine ⟨⟨_, rfl⟩, fun h => ?_⟩
  have h1 : (rflag xs bad).2.2 = false := congrArg Prod.fst h
  have h2 : b = false := congrArg Prod.snd h
  have hbd : bad = false := by cases bad <;> first | rfl | cases h1
  subst hbd
  refine ⟨by rw [h2], trivial, ?_⟩
  show xs = [if (rflag xs false).1 = true then 1 else 0] ++ (rflag xs false).2.1
  cases xs with
  | nil => cases h1
  | cons c t =>
   obtain ⟨c0, c1⟩ := hb c (by simp)
   unfold rflag at h1 ⊢
   simp only [Bool.false_eq_true, if_false] at h1 ⊢
   split at h1
   ·cases h1
   ·rename_i hc
    rw [if_neg hc]
    have : c = 0 ∨ c = 1 := by omega
    rcases this with rfl | rfl <;> rfl
 | text most =>
  obtain ⟨x0, rfl⟩ := hf
  refine ⟨⟨_, rfl⟩, fun h => ?_⟩
  have h1 : (rtext most xs bad).2.2 = false := congrArg Prod.fst h
  have h2 : b = false := congrArg Prod.snd h
  have hbd : bad = false := by
   cases bad
   ·rfl
   ·unfold rtext at h1
    rw [rnum_badT, if_pos (.inl rfl)] at h1
    cases h1
  subst hbd
  show _ ∧ InF _ (.string (strOfNums (rtext most xs false).1)) ∧ xs = (enc (strOfNums (rtext most xs false).1).size ++ bytesOf (strOfNums (rtext most xs false).1)) ++ (rtext most xs false).2.1
  unfold rtext at h1 ⊢
  split at h1
  ·cases h1
  ·rename_i hn
   rw [if_neg hn]
   simp only [not_or, Bool.not_eq_true] at hn
   obtain ⟨k1, k2, k3⟩ := hn
   obtain ⟨m, e1, e2, e3⟩ := rnum_dec (n := (rnum xs false).1) (t := (rnum xs false).2.1) hb (show rnum xs false = _ from Prod.ext rfl (Prod.ext rfl k1))
   have hbt : ∀ x ∈ (rnum xs false).2.1, IsB x := fun x hx => hb x (by rw [e1]; exact List.mem_append_right _ hx)
   have hm : (rnum xs false).1.toNat = m := by omega
   have hlen : ((rnum xs false).2.1.take m).length = m := by rw [List.length_take]; omega
   simp only [hm]
   have hsz : (strOfNums ((rnum xs false).2.1.take m)).size = m := by rw [strOfNums_size, hlen]
   refine ⟨by rw [h2], ⟨by rw [hsz]; omega, by rw [hsz]; exact e3⟩, ?_⟩
   rw [hsz, bytesOf_strOf (fun x hx => hbt x (List.mem_of_mem_take hx)), List.append_assoc, List.take_append_drop]
   exact e1
theorem fld_e {g r q : Nat} {f : Fld} {v v0 : Value} (hf : f.fits v0) (hi : InF f v) (t : List Int) : (iForm g r q).fld (fldB f v ++ t, false, false) f v0 = ((t, false, false), v) := by
 cases f with
 | num lo hi' =>
  obtain ⟨n0, rfl⟩ := hf
  cases v with
  | int k n =>
   cases k <;> first | exact hi.elim | skip
   obtain ⟨h1, h2, h3, h4⟩ := hi
   show (((rnum (enc n.toNat ++ t) false).2.1, (rnum (enc n.toNat ++ t) false).2.2, (false || decide ((rnum (enc n.toNat ++ t) false).1 < lo) || decide (hi' < (rnum (enc n.toNat ++ t) false).1))), Value.int .i64 (rnum (enc n.toNat ++ t) false).1) = _
   rw [rnum_enc (by omega), Int.toNat_of_nonneg h3]
   simp only
   rw [decide_eq_false (by omega), decide_eq_false (by omega)]
   rfl
  | _ => exact hi.elim
 | flag =>
  obtain ⟨x0, rfl⟩ := hf
  cases v with
  | bool x => cases x <;> rfl
  | _ => exact hi.elim
 | text most =>
  obtain ⟨x0, rfl⟩ := hf
  cases v with
  | string x =>
   obtain ⟨h1, h2⟩ := hi
   show (((rtext most ((enc x.size ++ bytesOf x) ++ t) false).2.1, (rtext most ((enc x.size ++ bytesOf x) ++ t) false).2.2, false), Value.string (strOfNums (rtext most ((enc x.size ++ bytesOf x) ++ t) false).1)) = _
   rw [List.append_assoc]
   unfold rtext
   rw [rnum_enc h2, if_neg (by simp only [List.length_append, bytesOf_length]; simp; omega)]
   simp only [Int.toNat_natCast]
   rw [List.take_left' (bytesOf_length x), List.drop_left' (bytesOf_length x), strOf_bytesOf]
  | _ => exact hi.elim
def rowB : List Fld → List Value → List Int
 | f :: fs, v :: vs => fldB f v ++ rowB fs vs
 | _, _ => []
def InRow : List Fld → List Value → Prop
 | [], [] => True
 | f :: fs, v :: vs => InF f v ∧ InRow fs vs
 | _, _ => False
def rowsB (fs : List Fld) (rs : List (List Value)) : List Int := rs.flatMap (rowB fs)
theorem row_w {g : Nat} : ∀ {fs : List Fld} {vs : List Value} (_ : fits fs vs) (s : OSt), ((oForm g).row s fs vs).2 = vs ∧
  (((oForm g).row s fs vs).1.2 = (false, false) → s.2 = (false, false) ∧ InRow fs vs ∧ ((oForm g).row s fs vs).1.1 = s.1 ++ rowB fs vs) ∧
  (s.2 = (false, false) → InRow fs vs → ((oForm g).row s fs vs).1 = (s.1 ++ rowB fs vs, false, false))
 | [], [], _, s => ⟨rfl, fun h => ⟨h, trivial, (List.append_nil _).symm⟩, fun h _ => by rw [← h]; exact Prod.ext (List.append_nil _).symm rfl⟩
 | [], _ :: _, h, _ => h.elim
 | _ :: _, [], h, _ => h.elim
 | f :: fs, v :: vs, hf, s => by
  obtain ⟨h1, h2, h3⟩ := fld_w (g := g) hf.1 s
  obtain ⟨k1, k2, k3⟩ := row_w (g := g) hf.2 ((oForm g).fld s f v).1
  refine ⟨?_, fun h => ?_, fun h hi => ?_⟩
  ·show ((oForm g).fld s f v).2 :: ((oForm g).row ((oForm g).fld s f v).1 fs vs).2 = v :: vs
   rw [h1, k1]
  ·obtain ⟨a1, a2, a3⟩ := k2 h
   obtain ⟨b1, b2, b3⟩ := h2 a1
   refine ⟨b1, ⟨b2, a2⟩, ?_⟩
   show ((oForm g).row ((oForm g).fld s f v).1 fs vs).1.1 = s.1 ++ (fldB f v ++ rowB fs vs)
   rw [a3, b3, List.append_assoc]
  ·have e := h3 h hi.1
   show ((oForm g).row ((oForm g).fld s f v).1 fs vs).1 = (s.1 ++ (fldB f v ++ rowB fs vs), false, false)
   rw [k3 (by rw [e]) hi.2, e, List.append_assoc]
theorem fld_mem {g r q : Nat} {f : Fld} {v : Value} (s : ISt) {p : Int → Prop} (h : ∀ x ∈ s.1, p x) : ∀ x ∈ ((iForm g r q).fld s f v).1.1, p x := by
 unfold Form.fld
 split
 ·exact rnum_mem h
 ·exact rflag_mem h
 ·exact rtext_mem h
 ·exact h
theorem row_mem {g r q : Nat} : ∀ (fs : List Fld) (vs : List Value) (s : ISt) {p : Int → Prop} (_ : ∀ x ∈ s.1, p x), ∀ x ∈ ((iForm g r q).row s fs vs).1.1, p x
 | [], vs, s, p, h => by cases vs <;> exact h
 | _ :: _, [], s, p, h => h
 | f :: fs, v :: vs, s, p, h => row_mem fs vs _ (fld_mem s h)
theorem row_r {g r q : Nat} : ∀ {fs : List Fld} {vs : List Value} (_ : fits fs vs) (s : ISt) (_ : ∀ x ∈ s.1, IsB x), ((iForm g r q).row s fs vs).1.2 = (false, false) →
  s.2 = (false, false) ∧ InRow fs ((iForm g r q).row s fs vs).2 ∧ s.1 = rowB fs ((iForm g r q).row s fs vs).2 ++ ((iForm g r q).row s fs vs).1.1
 | [], [], _, s, _, h => ⟨h, trivial, rfl⟩
 | [], _ :: _, h, _, _, _ => h.elim
 | _ :: _, [], h, _, _, _ => h.elim
 | f :: fs, v :: vs, hf, s, hb, h => by
  obtain ⟨_, h2⟩ := fld_r (g := g) (r := r) (q := q) hf.1 s hb
  obtain ⟨a1, a2, a3⟩ := row_r (g := g) (r := r) (q := q) hf.2 ((iForm g r q).fld s f v).1 (fld_mem s hb) h
  obtain ⟨b1, b2, b3⟩ := h2 a1
  refine ⟨b1, ⟨b2, a2⟩, ?_⟩
  show s.1 = (fldB f _ ++ rowB fs _) ++ _
  rw [List.append_assoc]
  exact b3.trans (congrArg (fldB f _ ++ ·) a3)
theorem row_e {g r q : Nat} : ∀ {fs : List Fld} {vs v0 : List Value} (_ : fits fs v0) (_ : InRow fs vs) (t : List Int), (iForm g r q).row (rowB fs vs ++ t, false, false) fs v0 = ((t, false, false), vs)
 | [], [], [], _, _, t => rfl
 | [], _ :: _, _, _, h, _ => h.elim
 | [], [], _ :: _, h, _, _ => h.elim
 | _ :: _, _, [], h, _, _ => h.elim
 | _ :: _, [], _ :: _, _, h, _ => h.elim
 | f :: fs, v :: vs, v0 :: v0s, hf, hi, t => by
  have e := fld_e (g := g) (r := r) (q := q) hf.1 hi.1 (rowB fs vs ++ t)
  have k := row_e (g := g) (r := r) (q := q) hf.2 hi.2 t
  have e0 : rowB (f :: fs) (v :: vs) ++ t = fldB f v ++ (rowB fs vs ++ t) := List.append_assoc _ _ _
  rw [e0]
  exact (congrArg (fun p : ISt × Value => (((iForm g r q).row p.1 fs v0s).1, p.2 :: ((iForm g r q).row p.1 fs v0s).2)) e).trans (congrArg (fun p : ISt × List Value => (p.1, v :: p.2)) k)
theorem rows_w {g : Nat} {fs : List Fld} : ∀ (rs : List (List Value)) (_ : ∀ r, r ∈ rs → fits fs r) (s : OSt), ((oForm g).rows fs s rs).2 = rs ∧
  (((oForm g).rows fs s rs).1.2 = (false, false) → s.2 = (false, false) ∧ (∀ r, r ∈ rs → InRow fs r) ∧ ((oForm g).rows fs s rs).1.1 = s.1 ++ rowsB fs rs) ∧
  (s.2 = (false, false) → (∀ r, r ∈ rs → InRow fs r) → ((oForm g).rows fs s rs).1 = (s.1 ++ rowsB fs rs, false, false))
 | [], _, s => ⟨rfl, fun h => ⟨h, (fun r hr => nomatch hr), (List.append_nil _).symm⟩, fun h _ => by rw [← h]; exact Prod.ext (List.append_nil _).symm rfl⟩
 | r :: rs, hf, s => by
  obtain ⟨h1, h2, h3⟩ := row_w (g := g) (hf r (.head _)) s
  obtain ⟨k1, k2, k3⟩ := rows_w (g := g) rs (fun q hq => hf q (.tail _ hq)) ((oForm g).row s fs r).1
  refine ⟨?_, fun h => ?_, fun h hi => ?_⟩
  ·show ((oForm g).row s fs r).2 :: ((oForm g).rows fs ((oForm g).row s fs r).1 rs).2 = r :: rs
   rw [h1, k1]
  ·obtain ⟨a1, a2, a3⟩ := k2 h
   obtain ⟨b1, b2, b3⟩ := h2 a1
   refine ⟨b1, fun q hq => ?_, ?_⟩
   ·rcases List.mem_cons.1 hq with rfl | hq
    ·exact b2
    ·exact a2 q hq
   ·show ((oForm g).rows fs ((oForm g).row s fs r).1 rs).1.1 = s.1 ++ (rowB fs r ++ rowsB fs rs)
    rw [a3, b3, List.append_assoc]
  ·have e := h3 h (hi r (.head _))
   show ((oForm g).rows fs ((oForm g).row s fs r).1 rs).1 = (s.1 ++ (rowB fs r ++ rowsB fs rs), false, false)
   rw [k3 (by rw [e]) (fun q hq => hi q (.tail _ hq)), e, List.append_assoc]
theorem rows_mem {g r q : Nat} {fs : List Fld} : ∀ (rs : List (List Value)) (s : ISt) {p : Int → Prop} (_ : ∀ x ∈ s.1, p x), ∀ x ∈ ((iForm g r q).rows fs s rs).1.1, p x
 | [], s, p, h => h
 | r' :: rs, s, p, h => rows_mem rs _ (row_mem fs r' s h)
theorem rows_r {g r q : Nat} {fs : List Fld} : ∀ (rs : List (List Value)) (_ : ∀ r, r ∈ rs → fits fs r) (s : ISt) (_ : ∀ x ∈ s.1, IsB x), ((iForm g r q).rows fs s rs).1.2 = (false, false) →
  s.2 = (false, false) ∧ (∀ r', r' ∈ ((iForm g r q).rows fs s rs).2 → InRow fs r') ∧ s.1 = rowsB fs ((iForm g r q).rows fs s rs).2 ++ ((iForm g r q).rows fs s rs).1.1
 | [], _, s, _, h => ⟨h, (fun r' hr => nomatch hr), rfl⟩
 | r' :: rs, hf, s, hb, h => by
  obtain ⟨a1, a2, a3⟩ := rows_r (g := g) (r := r) (q := q) rs (fun q' hq => hf q' (.tail _ hq)) ((iForm g r q).row s fs r').1 (row_mem fs r' s hb) h
  obtain ⟨b1, b2, b3⟩ := row_r (g := g) (r := r) (q := q) (hf r' (.head _)) s hb a1
  refine ⟨b1, fun q' hq => ?_, ?_⟩
  ·rcases List.mem_cons.1 hq with rfl | hq
   ·exact b2
   ·exact a2 q' hq
  ·show s.1 = (rowB fs _ ++ rowsB fs _) ++ _
   rw [List.append_assoc]
   exact b3.trans (congrArg (rowB fs _ ++ ·) a3)
theorem rows_e {g r q : Nat} {fs : List Fld} : ∀ (rs zs : List (List Value)) (_ : ∀ z, z ∈ zs → fits fs z) (_ : zs.length = rs.length) (_ : ∀ r', r' ∈ rs → InRow fs r') (t : List Int), (iForm g r q).rows fs (rowsB fs rs ++ t, false, false) zs = ((t, false, false), rs)
 | [], [], _, _, _, t => rfl
 | [], _ :: _, _, h, _, _ => by simp at h
 | _ :: _, [], _, h, _, _ => by simp at h
 | r' :: rs, z :: zs, hf, hl, hi, t => by
  have e := row_e (g := g) (r := r) (q := q) (hf z (.head _)) (hi r' (.head _)) (rowsB fs rs ++ t)
  have k := rows_e (g := g) (r := r) (q := q) rs zs (fun z' hz => hf z' (.tail _ hz)) (by simpa using hl) (fun q' hq => hi q' (.tail _ hq)) t
  have e0 : rowsB fs (r' :: rs) ++ t = rowB fs r' ++ (rowsB fs rs ++ t) := List.append_assoc _ _ _
  rw [e0]
  exact (congrArg (fun p : ISt × List Value => (((iForm g r q).rows fs p.1 zs).1, p.2 :: ((iForm g r q).rows fs p.1 zs).2)) e).trans (congrArg (fun p : ISt × List (List Value) => (p.1, r' :: p.2)) k)
def listB (fs : List Fld) (rs : List (List Value)) : List Int := enc rs.length ++ rowsB fs rs
def InList (fs : List Fld) (most : Nat) (rs : List (List Value)) : Prop := rs.length ≤ most ∧ ∀ r, r ∈ rs → InRow fs r
theorem list_w {g most : Nat} {fs : List Fld} (hm : most ≤ 9007199254740992) (rs : List (List Value)) (hf : ∀ r, r ∈ rs → fits fs r) (s : OSt) : ((oForm g).list fs s most rs).2 = rs ∧
  (((oForm g).list fs s most rs).1.2 = (false, false) → s.2 = (false, false) ∧ InList fs most rs ∧ ((oForm g).list fs s most rs).1.1 = s.1 ++ listB fs rs) ∧
  (s.2 = (false, false) → InList fs most rs → ((oForm g).list fs s most rs).1 = (s.1 ++ listB fs rs, false, false)) := by
 have hR : (oForm g).listR fs s most rs = rs := by
  unfold Form.listR
  show (if rs.length < ((rs.length : Int)).toNat then _ else rs) = rs
  rw [if_neg (by omega)]
 have hM : (oForm g).listM s most rs.length = min rs.length most := by
  unfold Form.listM
  show min ((rs.length : Int)).toNat most = _
  rw [Int.toNat_natCast]
 unfold Form.list
 rw [hR, hM]
 have hft : ∀ r, r ∈ rs.take (min rs.length most) → fits fs r := fun r hr => hf r (List.mem_of_mem_take hr)
 obtain ⟨h1, h2, h3⟩ := rows_w (g := g) (rs.take (min rs.length most)) hft (ocount s rs.length most)
 have hc : ((oForm g).count s rs.length most).1 = ocount s rs.length most := rfl
 rw [hc]
 obtain ⟨xs, bad, b⟩ := s
 refine ⟨by rw [h1, List.take_append_drop], fun h => ?_, fun h hi => ?_⟩
 ·obtain ⟨a1, a2, a3⟩ := h2 h
  have k1 : (wnum (rs.length : Int) xs bad).2 = false := congrArg Prod.fst a1
  have k2 : (b || decide ((most : Int) < (rs.length : Int))) = false := congrArg Prod.snd a1
  simp only [Bool.or_eq_false_iff, decide_eq_false_iff_not] at k2
  have hb : bad = false := by cases bad <;> first | rfl | (rw [wnum_bad] at k1; cases k1)
  subst hb
  have hle : rs.length ≤ most := by omega
  rw [Nat.min_eq_left hle, List.take_length] at a2 a3
  refine ⟨by rw [k2.1], ⟨hle, a2⟩, ?_⟩
  rw [Nat.min_eq_left hle, List.take_length, a3]
  show (wnum (rs.length : Int) xs false).1 ++ rowsB fs rs = xs ++ (enc rs.length ++ rowsB fs rs)
  rw [wnum_good (by omega) (by omega), Int.toNat_natCast, List.append_assoc]
 ·obtain ⟨hle, hin⟩ := hi
  simp only [Prod.mk.injEq] at h
  obtain ⟨rfl, rfl⟩ := h
  rw [Nat.min_eq_left hle, List.take_length] at h3 ⊢
  have e : ocount (xs, false, false) (rs.length : Int) most = (xs ++ enc rs.length, false, false) := by
   show ((wnum (rs.length : Int) xs false).1, (wnum (rs.length : Int) xs false).2, (false || decide ((most : Int) < (rs.length : Int)))) = _
   rw [wnum_good (by omega) (by omega), Int.toNat_natCast, decide_eq_false (by omega)]
   rfl
  rw [h3 (by rw [e]) hin, e, List.append_assoc]
  rfl
theorem listR_i {g r q most : Nat} {fs : List Fld} (s : ISt) : (iForm g r q).listR fs s most [] = List.replicate (rcount most s.1 s.2.1).1.toNat (zeroRow fs) := by
 unfold Form.listR
 show (if ([] : List (List Value)).length < (rcount most s.1 s.2.1).1.toNat then List.replicate (rcount most s.1 s.2.1).1.toNat (zeroRow fs) else []) = _
 split
 ·rfl
 ·rename_i h
  have : (rcount most s.1 s.2.1).1.toNat = 0 := by simpa using h
  rw [this]
  rfl
theorem rcount_le {most : Nat} {bs : List Int} {bad : Bool} : (rcount most bs bad).1.toNat ≤ most := by
 unfold rcount
 split
 ·simp
 ·omega
theorem list_i {g r q most : Nat} {fs : List Fld} (s : ISt) : (iForm g r q).list fs s most [] = (iForm g r q).rows fs (icount s most) (List.replicate (rcount most s.1 s.2.1).1.toNat (zeroRow fs)) := by
 have hM : (iForm g r q).listM s most 0 = (rcount most s.1 s.2.1).1.toNat := by
  unfold Form.listM
  show min (rcount most s.1 s.2.1).1.toNat most = _
  exact Nat.min_eq_left rcount_le
 unfold Form.list
 rw [listR_i]
 show (((iForm g r q).rows fs (icount s most) ((List.replicate (rcount most s.1 s.2.1).1.toNat (zeroRow fs)).take ((iForm g r q).listM s most 0))).1, ((iForm g r q).rows fs (icount s most) ((List.replicate (rcount most s.1 s.2.1).1.toNat (zeroRow fs)).take ((iForm g r q).listM s most 0))).2 ++ (List.replicate (rcount most s.1 s.2.1).1.toNat (zeroRow fs)).drop ((iForm g r q).listM s most 0)) = _
 rw [hM, List.take_of_length_le (by simp), List.drop_of_length_le (by simp), List.append_nil]
theorem list_r {g r q most : Nat} {fs : List Fld} (s : ISt) (hb : ∀ x ∈ s.1, IsB x) (h : ((iForm g r q).list fs s most []).1.2 = (false, false)) :
  s.2 = (false, false) ∧ InList fs most ((iForm g r q).list fs s most []).2 ∧ s.1 = listB fs ((iForm g r q).list fs s most []).2 ++ ((iForm g r q).list fs s most []).1.1 := by
 rw [list_i] at h ⊢
 have hz : ∀ r', r' ∈ List.replicate (rcount most s.1 s.2.1).1.toNat (zeroRow fs) → fits fs r' := fun r' hr => by
  obtain rfl := List.eq_of_mem_replicate hr
  exact fits_zero fs
 obtain ⟨a1, a2, a3⟩ := rows_r (g := g) (r := r) (q := q) _ hz (icount s most) (rcount_mem hb) h
 have hlen := rows_length (iForm g r q) fs (icount s most) (List.replicate (rcount most s.1 s.2.1).1.toNat (zeroRow fs))
 rw [List.length_replicate] at hlen
 generalize ((iForm g r q).rows fs (icount s most) (List.replicate (rcount most s.1 s.2.1).1.toNat (zeroRow fs))).2 = rs at *
 generalize ((iForm g r q).rows fs (icount s most) (List.replicate (rcount most s.1 s.2.1).1.toNat (zeroRow fs))).1.1 = tl at *
 obtain ⟨xs, bad, b⟩ := s
 have k1 : (rcount most xs bad).2.2 = false := congrArg Prod.fst a1
 have k2 : b = false := congrArg Prod.snd a1
 have a3' : (rcount most xs bad).2.1 = rowsB fs rs ++ tl := a3
 have hlen' : rs.length = (rcount most xs bad).1.toNat := hlen
 have hle := rcount_le (most := most) (bs := xs) (bad := bad)
 unfold rcount at k1 a3' hlen'
 split at k1
 ·cases k1
 ·rename_i hn
  rw [if_neg hn] at a3' hlen'
  have hbd : bad = false := by cases bad <;> first | rfl | (rw [rnum_badT] at k1; cases k1)
  subst hbd
  obtain ⟨m, e1, e2, e3⟩ := rnum_dec (n := (rnum xs false).1) (t := (rnum xs false).2.1) hb (show rnum xs false = _ from Prod.ext rfl (Prod.ext rfl k1))
  have hm : rs.length = m := by omega
  refine ⟨by rw [k2], ⟨by omega, a2⟩, ?_⟩
  show xs = (enc rs.length ++ rowsB fs rs) ++ tl
  rw [List.append_assoc, ← a3', hm]
  exact e1
theorem list_e {g r q most : Nat} {fs : List Fld} (hm : most ≤ 9007199254740992) {rs : List (List Value)} (hi : InList fs most rs) (t : List Int) : (iForm g r q).list fs (listB fs rs ++ t, false, false) most [] = ((t, false, false), rs) := by
 rw [list_i]
 obtain ⟨hle, hin⟩ := hi
 have e : rcount most (listB fs rs ++ t) false = ((rs.length : Int), rowsB fs rs ++ t, false) := by
  unfold rcount listB
  rw [List.append_assoc, rnum_enc (by omega), if_neg (by simp; omega)]
 have e2 : icount (listB fs rs ++ t, false, false) most = (rowsB fs rs ++ t, false, false) := by
  unfold icount
  simp only [e]
 simp only [e, e2, Int.toNat_natCast]
 refine rows_e rs _ (fun z hz => ?_) (by simp) hin t
 obtain rfl := List.eq_of_mem_replicate hz
 exact fits_zero fs
def stepB (m : M) : Step → List Int
 | .row i fs => rowB fs (valsAt m.c i fs.length)
 | .most => rowB [.num (maxOf (m.c 6)) 128] (valsAt m.c 7 1)
 | .lst j fs n => listB fs (m.L j)
def InStep (m : M) : Step → Prop
 | .row i fs => InRow fs (valsAt m.c i fs.length)
 | .most => InRow [.num (maxOf (m.c 6)) 128] (valsAt m.c 7 1)
 | .lst j fs n => InList fs n (m.L j)
def stepsB (m : M) (ts : List Step) : List Int := ts.flatMap (stepB m)
def OkStep : Step → Prop
 | .row i fs => okRow i fs = true
 | .most => True
 | .lst j fs n => (j, fs) ∈ lists ∧ n ≤ 64
theorem putAt_at (c d : Nat → Value) (i n k : Nat) : putAt c i (valsAt d i n) k = if i ≤ k ∧ k < i + n then d k else c k := by
 unfold putAt
 by_cases h1 : i ≤ k
 ·rw [if_pos h1]
  by_cases h2 : k < i + n
  ·rw [if_pos ⟨h1, h2⟩]
   have hl : k - i < (valsAt d i n).length := by rw [valsAt_length]; omega
   rw [List.getElem?_eq_getElem hl]
   have := valsAt_get d n i (k - i) _ (List.getElem?_eq_getElem hl)
   rw [show i + (k - i) = k by omega] at this
   rw [this]
   rfl
  ·rw [if_neg (by omega), List.getElem?_eq_none (by rw [valsAt_length]; omega)]
   rfl
 ·rw [if_neg h1, if_neg (by omega)]
theorem most_fits {m : M} (ht : Typed m) : fits [.num (maxOf (m.c 6)) 128] (valsAt m.c 7 1) := ⟨ht 7 rfl, trivial⟩
theorem step_w {g : Nat} {m : M} (ht : Typed m) (hf : Fit m) {t : Step} (ho : OkStep t) (s : OSt) : ((oForm g).step s m t).2 = m ∧
  (((oForm g).step s m t).1.2 = (false, false) → s.2 = (false, false) ∧ InStep m t ∧ ((oForm g).step s m t).1.1 = s.1 ++ stepB m t) ∧
  (s.2 = (false, false) → InStep m t → ((oForm g).step s m t).1 = (s.1 ++ stepB m t, false, false)) := by
 cases t with
 | row i fs =>
  obtain ⟨h1, h2, h3⟩ := row_w (g := g) (okRow_fits ho ht) s
  refine ⟨?_, h2, h3⟩
  show M.mk (putAt m.c i ((oForm g).row s fs (valsAt m.c i fs.length)).2) m.L = m
  rw [h1, putAt_vals]
 | most =>
  obtain ⟨h1, h2, h3⟩ := row_w (g := g) (most_fits ht) s
  refine ⟨?_, h2, h3⟩
  show M.mk (putAt m.c 7 ((oForm g).row s [.num (maxOf (m.c 6)) 128] (valsAt m.c 7 1)).2) m.L = m
  rw [h1, putAt_vals]
 | lst j fs n =>
  obtain ⟨h1, h2, h3⟩ := list_w (g := g) (most := n) (fs := fs) (by have := ho.2; omega) (m.L j) (hf j fs ho.1) s
  refine ⟨?_, h2, h3⟩
  show M.mk m.c (upL m.L j ((oForm g).list fs s n (m.L j)).2) = m
  rw [h1, upL_self]
theorem run_w {g : Nat} {m : M} (ht : Typed m) (hf : Fit m) : ∀ (ts : List Step) (_ : ∀ t, t ∈ ts → OkStep t) (s : OSt), ((oForm g).run s m ts).2 = m ∧
  (((oForm g).run s m ts).1.2 = (false, false) → s.2 = (false, false) ∧ (∀ t, t ∈ ts → InStep m t) ∧ ((oForm g).run s m ts).1.1 = s.1 ++ stepsB m ts) ∧
  (s.2 = (false, false) → (∀ t, t ∈ ts → InStep m t) → ((oForm g).run s m ts).1 = (s.1 ++ stepsB m ts, false, false))
 | [], _, s => ⟨rfl, fun h => ⟨h, (fun r hr => nomatch hr), (List.append_nil _).symm⟩, fun h _ => by rw [← h]; exact Prod.ext (List.append_nil _).symm rfl⟩
 | t :: ts, ho, s => by
  obtain ⟨h1, h2, h3⟩ := step_w (g := g) ht hf (ho t (.head _)) s
  have e : (oForm g).run s m (t :: ts) = (oForm g).run ((oForm g).step s m t).1 m ts := by
   show (oForm g).run ((oForm g).step s m t).1 ((oForm g).step s m t).2 ts = _
   rw [h1]
  obtain ⟨k1, k2, k3⟩ := run_w (g := g) ht hf ts (fun u hu => ho u (.tail _ hu)) ((oForm g).step s m t).1
  rw [e]
  refine ⟨k1, fun h => ?_, fun h hi => ?_⟩
  ·obtain ⟨a1, a2, a3⟩ := k2 h
   obtain ⟨b1, b2, b3⟩ := h2 a1
   refine ⟨b1, fun u hu => ?_, ?_⟩
   ·rcases List.mem_cons.1 hu with rfl | hu
    ·exact b2
    ·exact a2 u hu
   ·rw [a3, b3]
    exact List.append_assoc _ _ _
  ·have e := h3 h (hi t (.head _))
   rw [k3 (by rw [e]) (fun u hu => hi u (.tail _ hu)), e]
   exact congrArg (fun x => (x, false, false)) (List.append_assoc _ _ _)
def copyS (m a : M) : Step → M
 | .row i fs => ⟨putAt a.c i (valsAt m.c i fs.length), a.L⟩
 | .most => ⟨putAt a.c 7 (valsAt m.c 7 1), a.L⟩
 | .lst j fs n => ⟨a.c, upL a.L j (m.L j)⟩
def copy (m : M) : M → List Step → M
 | a, [] => a
 | a, t :: ts => copy m (copyS m a t) ts
def okRun : List Nat → Bool → List Step → Prop
 | _, _, [] => True
 | l, h, .row i fs :: ts => okRow i fs = true ∧ okRun l (h || (decide (i ≤ 6) && decide (6 < i + fs.length))) ts
 | l, h, .most :: ts => h = true ∧ okRun l h ts
 | l, h, .lst j fs n :: ts => ((j, fs) ∈ lists ∧ n ≤ 64) ∧ j ∉ l ∧ okRun (j :: l) h ts
theorem okRun.step : ∀ {ts : List Step} {l : List Nat} {h : Bool}, okRun l h ts → ∀ t, t ∈ ts → OkStep t
 | [], _, _, _, t, ht => nomatch ht
 | .row i fs :: ts, l, h, hk, t, ht => by
  rcases List.mem_cons.1 ht with rfl | ht
  ·exact hk.1
  ·exact okRun.step hk.2 t ht
 | .most :: ts, l, h, hk, t, ht => by
  rcases List.mem_cons.1 ht with rfl | ht
  ·trivial
  ·exact okRun.step hk.2 t ht
 | .lst j fs n :: ts, l, h, hk, t, ht => by
  rcases List.mem_cons.1 ht with rfl | ht
  ·exact hk.1
  ·exact okRun.step hk.2.2 t ht
theorem typed_put {a m : M} (ha : Typed a) (hm : Typed m) (i n : Nat) : Typed ⟨putAt a.c i (valsAt m.c i n), a.L⟩ := fun k hk => by
 show (kindOf k).fits (putAt a.c i (valsAt m.c i n) k)
 rw [putAt_at]
 split
 ·exact hm k hk
 ·exact ha k hk
theorem run_e {g r q : Nat} {m : M} (hm : Typed m) : ∀ (ts : List Step) (l : List Nat) (h6 : Bool) (a : M), okRun l h6 ts → Typed a → (∀ j, j ∉ l → a.L j = []) → (h6 = true → a.c 6 = m.c 6) → (∀ t, t ∈ ts → InStep m t) → ∀ t : List Int,
   (iForm g r q).run (stepsB m ts ++ t, false, false) a ts = ((t, false, false), copy m a ts)
 | [], l, h6, a, _, _, _, _, _, t => rfl
 | .row i fs :: ts, l, h6, a, ho, ha, hL, hc, hi, t => by
  have e0 : stepsB m (.row i fs :: ts) ++ t = rowB fs (valsAt m.c i fs.length) ++ (stepsB m ts ++ t) := List.append_assoc _ _ _
  rw [e0]
  have e := row_e (g := g) (r := r) (q := q) (okRow_fits ho.1 ha) (hi _ (.head _)) (stepsB m ts ++ t)
  have k := run_e (g := g) (r := r) (q := q) hm ts l _ (copyS m a (.row i fs)) ho.2 (typed_put ha hm i fs.length) hL (fun h => by
   show putAt a.c i (valsAt m.c i fs.length) 6 = m.c 6
   rw [putAt_at]
   split
   ·rfl
   ·rename_i hn
    simp only [Bool.or_eq_true, Bool.and_eq_true, decide_eq_true_eq] at h
    rcases h with h | h
    ·exact hc h
    ·exact absurd h hn) (fun u hu => hi u (.tail _ hu)) t
  exact (congrArg (fun p : ISt × List Value => (iForm g r q).run p.1 ⟨putAt a.c i p.2, a.L⟩ ts) e).trans k
 | .most :: ts, l, h6, a, ho, ha, hL, hc, hi, t => by
  have h6' := hc ho.1
  have e0 : stepsB m (.most :: ts) ++ t = rowB [.num (maxOf (m.c 6)) 128] (valsAt m.c 7 1) ++ (stepsB m ts ++ t) := List.append_assoc _ _ _
  rw [e0]
  have e := row_e (g := g) (r := r) (q := q) (most_fits ha) (v0 := valsAt a.c 7 1) (vs := valsAt m.c 7 1) (fs := [.num (maxOf (a.c 6)) 128]) (by rw [h6']; exact hi _ (.head _)) (stepsB m ts ++ t)
  have k := run_e (g := g) (r := r) (q := q) hm ts l _ (copyS m a .most) ho.2 (typed_put ha hm 7 1) hL (fun h => by
   show putAt a.c 7 (valsAt m.c 7 1) 6 = m.c 6
   rw [putAt_at, if_neg (by omega)]
   exact h6') (fun u hu => hi u (.tail _ hu)) t
  have e1 : rowB [.num (maxOf (m.c 6)) 128] (valsAt m.c 7 1) = rowB [.num (maxOf (a.c 6)) 128] (valsAt m.c 7 1) := by rw [h6']
  rw [e1]
  exact (congrArg (fun p : ISt × List Value => (iForm g r q).run p.1 ⟨putAt a.c 7 p.2, a.L⟩ ts) e).trans k
 | .lst j fs n :: ts, l, h6, a, ho, ha, hL, hc, hi, t => by
  have e0 : stepsB m (.lst j fs n :: ts) ++ t = listB fs (m.L j) ++ (stepsB m ts ++ t) := List.append_assoc _ _ _
  rw [e0]
  have e := list_e (g := g) (r := r) (q := q) (most := n) (fs := fs) (by have := ho.1.2; omega) (hi _ (.head _)) (stepsB m ts ++ t)
  have k := run_e (g := g) (r := r) (q := q) hm ts (j :: l) h6 (copyS m a (.lst j fs n)) ho.2.2 ha (fun j' hj => by
   show upL a.L j (m.L j) j' = []
   unfold upL
   rw [if_neg (fun e => hj (by rw [e]; exact .head _))]
   exact hL j' (fun h => hj (.tail _ h))) hc (fun u hu => hi u (.tail _ hu)) t
  have e2 : a.L j = [] := hL j ho.2.1
  rw [← e2] at e
  exact (congrArg (fun p : ISt × List (List Value) => (iForm g r q).run p.1 ⟨a.c, upL a.L j p.2⟩ ts) e).trans k
def touch : Step → Nat → Bool
 | .row i fs, k => decide (i ≤ k) && decide (k < i + fs.length)
 | .most, k => k == 7
 | .lst _ _ _, _ => false
def touchL : Step → Nat → Bool
 | .lst j _ _, k => k == j
 | _, _ => false
def reach : Step → Nat → Bool
 | .most, k => k == 7 || k == 6
 | t, k => touch t k
def disj : List Step → Bool
 | [] => true
 | t :: ts => ((List.range 26).all fun k => (!(reach t k) || ts.all fun u => !(touch u k)) && (!(touchL t k) || ts.all fun u => !(touchL u k))) && disj ts
theorem run_keep {g r q : Nat} {k : Nat} : ∀ (ts : List Step) (s : ISt) (a : M), (∀ u, u ∈ ts → touch u k = false) → ((iForm g r q).run s a ts).2.c k = a.c k
 | [], s, a, _ => rfl
 | t :: ts, s, a, h => by
  have e := run_keep (g := g) (r := r) (q := q) (k := k) ts ((iForm g r q).step s a t).1 ((iForm g r q).step s a t).2 (fun u hu => h u (.tail _ hu))
  refine e.trans ?_
  have ht := h t (.head _)
  cases t with
  | row i fs =>
   show putAt a.c i ((iForm g r q).row s fs (valsAt a.c i fs.length)).2 k = a.c k
   have hl : ((iForm g r q).row s fs (valsAt a.c i fs.length)).2.length = fs.length := (row_length (iForm g r q) fs (valsAt a.c i fs.length) s).trans (valsAt_length _ _ _)
   unfold touch at ht
   simp only [Bool.and_eq_false_iff, decide_eq_false_iff_not] at ht
   unfold putAt
   split
   ·rw [List.getElem?_eq_none (by omega)]
    rfl
   ·rfl
  | most =>
   show putAt a.c 7 ((iForm g r q).row s [.num (maxOf (a.c 6)) 128] (valsAt a.c 7 1)).2 k = a.c k
   have hl : ((iForm g r q).row s [.num (maxOf (a.c 6)) 128] (valsAt a.c 7 1)).2.length = 1 := (row_length (iForm g r q) [.num (maxOf (a.c 6)) 128] (valsAt a.c 7 1) s).trans (valsAt_length _ _ _)
   have hk : k ≠ 7 := beq_eq_false_iff_ne.1 ht
   unfold putAt
   split
   ·rw [List.getElem?_eq_none (by omega)]
    rfl
   ·rfl
  | lst j fs n => rfl
theorem run_keepL {g r q : Nat} {k : Nat} : ∀ (ts : List Step) (s : ISt) (a : M), (∀ u, u ∈ ts → touchL u k = false) → ((iForm g r q).run s a ts).2.L k = a.L k
 | [], s, a, _ => rfl
 | t :: ts, s, a, h => by
  have e := run_keepL (g := g) (r := r) (q := q) (k := k) ts ((iForm g r q).step s a t).1 ((iForm g r q).step s a t).2 (fun u hu => h u (.tail _ hu))
  refine e.trans ?_
  have ht := h t (.head _)
  cases t with
  | row i fs => rfl
  | most => rfl
  | lst j fs n =>
   show upL a.L j _ k = a.L k
   have hk : k ≠ j := beq_eq_false_iff_ne.1 ht
   unfold upL
   rw [if_neg hk]
theorem vals_of_put {c : Nat → Value} {i : Nat} {vs : List Value} {d : Nat → Value} (h : ∀ k, i ≤ k → k < i + vs.length → d k = putAt c i vs k) : valsAt d i vs.length = vs := by
 apply List.ext_getElem?
 intro j
 rcases Nat.lt_or_ge j vs.length with hj | hj
 ·have hl : j < (valsAt d i vs.length).length := by rw [valsAt_length]; exact hj
  have e := valsAt_get d vs.length i j _ (List.getElem?_eq_getElem hl)
  rw [List.getElem?_eq_getElem hl, e, h (i + j) (by omega) (by omega)]
  unfold putAt
  rw [if_pos (by omega), show i + j - i = j by omega, List.getElem?_eq_getElem hj]
  rfl
 ·rw [List.getElem?_eq_none (by rw [valsAt_length]; exact hj), List.getElem?_eq_none hj]
theorem typed_row {a : M} (ha : Typed a) {i : Nat} {fs : List Fld} {vs : List Value} (ho : okRow i fs = true) (hf : fits fs vs) (L : Nat → List (List Value)) : Typed ⟨putAt a.c i vs, L⟩ := fun k hk => by
 show (kindOf k).fits (putAt a.c i vs k)
 unfold putAt
 split
 ·rename_i h
  rcases Nat.lt_or_ge (k - i) vs.length with hl | hl
  ·rw [List.getElem?_eq_getElem hl]
   have := okRow_back ho hf (k - i) _ (List.getElem?_eq_getElem hl)
   rw [show i + (k - i) = k by omega] at this
   exact this
  ·rw [List.getElem?_eq_none hl]
   exact ha k hk
 ·exact ha k hk
theorem typed_most {a : M} (ha : Typed a) {lo hi : Int} {vs : List Value} (hf : fits [.num lo hi] vs) (L : Nat → List (List Value)) : Typed ⟨putAt a.c 7 vs, L⟩ := typed_row ha (i := 7) (fs := [.num lo hi]) (by rfl) hf L
theorem scalar_lt' {i : Nat} (h : scalar i = true) : i < 26 := by unfold scalar at h; simp only [Bool.and_eq_true, decide_eq_true_eq] at h; exact h.1
theorem okRow_lt {fs : List Fld} {i k : Nat} (h : okRow i fs = true) (h1 : i ≤ k) (h2 : k < i + fs.length) : k < 26 := by
 have := okRow_scalar h (k - i) (by omega)
 rw [show i + (k - i) = k by omega] at this
 exact scalar_lt' this
theorem disj_at {t : Step} {ts : List Step} (h : disj (t :: ts) = true) : (∀ k, k < 26 → reach t k = true → ∀ u, u ∈ ts → touch u k = false) ∧ (∀ k, k < 26 → touchL t k = true → ∀ u, u ∈ ts → touchL u k = false) ∧ disj ts = true := by
 unfold disj at h
 rw [Bool.and_eq_true] at h
 refine ⟨fun k hk hr u hu => ?_, fun k hk hr u hu => ?_, h.2⟩
 ·have := List.all_eq_true.1 h.1 k (by simpa using hk)
  rw [hr, Bool.and_eq_true] at this
  have := this.1
  simp only [Bool.not_true, Bool.false_or] at this
  simpa using List.all_eq_true.1 this u hu
 ·have := List.all_eq_true.1 h.1 k (by simpa using hk)
  rw [hr, Bool.and_eq_true] at this
  have := this.2
  simp only [Bool.not_true, Bool.false_or] at this
  simpa using List.all_eq_true.1 this u hu
theorem list_mem {g r q most : Nat} {fs : List Fld} (s : ISt) {p : Int → Prop} (h : ∀ x ∈ s.1, p x) : ∀ x ∈ ((iForm g r q).list fs s most []).1.1, p x := by
 rw [list_i]
 exact rows_mem _ _ (rcount_mem h)
theorem lists_lt {j : Nat} {fs : List Fld} (h : (j, fs) ∈ lists) : j < 26 := by
 simp only [lists, List.mem_cons, Prod.mk.injEq, List.not_mem_nil, or_false] at h
 omega
theorem run_r {g r q : Nat} : ∀ (ts : List Step) (l : List Nat) (h6 : Bool) (s : ISt) (a : M), okRun l h6 ts → disj ts = true → Typed a → (∀ j, j ∉ l → a.L j = []) → (∀ x ∈ s.1, IsB x) → ((iForm g r q).run s a ts).1.2 = (false, false) →
  s.2 = (false, false) ∧ (∀ t, t ∈ ts → InStep ((iForm g r q).run s a ts).2 t) ∧ s.1 = stepsB ((iForm g r q).run s a ts).2 ts ++ ((iForm g r q).run s a ts).1.1
 | [], l, h6, s, a, _, _, _, _, _, h => ⟨h, (fun t ht => nomatch ht), rfl⟩
 | .row i fs :: ts, l, h6, s, a, ho, hd, ha, hL, hb, h => by
  obtain ⟨d1, d2, d3⟩ := disj_at hd
  have hf := okRow_fits ho.1 ha
  have hf2 := fits_row (iForm g r q) s hf
  obtain ⟨a1, a2, a3⟩ := run_r (g := g) (r := r) (q := q) ts l _ ((iForm g r q).row s fs (valsAt a.c i fs.length)).1 ⟨putAt a.c i ((iForm g r q).row s fs (valsAt a.c i fs.length)).2, a.L⟩ ho.2 d3 (typed_row ha ho.1 hf2 a.L) hL (row_mem fs _ s hb) h
  obtain ⟨b1, b2, b3⟩ := row_r (g := g) (r := r) (q := q) hf s hb a1
  have hk : ∀ k, i ≤ k → k < i + fs.length → ((iForm g r q).run s a (.row i fs :: ts)).2.c k = putAt a.c i ((iForm g r q).row s fs (valsAt a.c i fs.length)).2 k := fun k h1 h2 =>
   run_keep ts _ _ (d1 k (okRow_lt ho.1 h1 h2) (by unfold reach touch; simp only [Bool.and_eq_true, decide_eq_true_eq]; exact ⟨h1, h2⟩))
  have hl : ((iForm g r q).row s fs (valsAt a.c i fs.length)).2.length = fs.length := (row_length (iForm g r q) fs (valsAt a.c i fs.length) s).trans (valsAt_length _ _ _)
  have hv : valsAt ((iForm g r q).run s a (.row i fs :: ts)).2.c i fs.length = ((iForm g r q).row s fs (valsAt a.c i fs.length)).2 := by
   have := vals_of_put (c := a.c) (i := i) (vs := ((iForm g r q).row s fs (valsAt a.c i fs.length)).2) (d := ((iForm g r q).run s a (.row i fs :: ts)).2.c) (fun k h1 h2 => hk k h1 (by rw [← hl]; exact h2))
   rwa [hl] at this
  refine ⟨b1, fun u hu => ?_, ?_⟩
  ·rcases List.mem_cons.1 hu with rfl | hu
   ·show InRow fs (valsAt ((iForm g r q).run s a (.row i fs :: ts)).2.c i fs.length)
    rw [hv]
    exact b2
   ·exact a2 u hu
  ·have e : stepsB ((iForm g r q).run s a (.row i fs :: ts)).2 (.row i fs :: ts) = rowB fs ((iForm g r q).row s fs (valsAt a.c i fs.length)).2 ++ stepsB ((iForm g r q).run s a (.row i fs :: ts)).2 ts := by
    show rowB fs (valsAt ((iForm g r q).run s a (.row i fs :: ts)).2.c i fs.length) ++ _ = _
    rw [hv]
    rfl
   rw [e, List.append_assoc]
   exact b3.trans (congrArg (rowB fs _ ++ ·) a3)
 | .most :: ts, l, h6, s, a, ho, hd, ha, hL, hb, h => by
  obtain ⟨d1, d2, d3⟩ := disj_at hd
  have hf := most_fits ha
  have hf2 := fits_row (iForm g r q) s hf
  obtain ⟨a1, a2, a3⟩ := run_r (g := g) (r := r) (q := q) ts l _ ((iForm g r q).row s [.num (maxOf (a.c 6)) 128] (valsAt a.c 7 1)).1 ⟨putAt a.c 7 ((iForm g r q).row s [.num (maxOf (a.c 6)) 128] (valsAt a.c 7 1)).2, a.L⟩ ho.2 d3 (typed_most ha hf2 a.L) hL (row_mem _ _ s hb) h
  obtain ⟨b1, b2, b3⟩ := row_r (g := g) (r := r) (q := q) hf s hb a1
  have hl : ((iForm g r q).row s [.num (maxOf (a.c 6)) 128] (valsAt a.c 7 1)).2.length = 1 := (row_length (iForm g r q) [.num (maxOf (a.c 6)) 128] (valsAt a.c 7 1) s).trans (valsAt_length _ _ _)
  have h6c : ((iForm g r q).run s a (.most :: ts)).2.c 6 = a.c 6 := by
   refine (run_keep ts _ _ (d1 6 (by omega) rfl)).trans ?_
   show putAt a.c 7 ((iForm g r q).row s [.num (maxOf (a.c 6)) 128] (valsAt a.c 7 1)).2 6 = a.c 6
   unfold putAt
   rw [if_neg (by omega)]
  have hv : valsAt ((iForm g r q).run s a (.most :: ts)).2.c 7 1 = ((iForm g r q).row s [.num (maxOf (a.c 6)) 128] (valsAt a.c 7 1)).2 := by
   have := vals_of_put (c := a.c) (i := 7) (vs := ((iForm g r q).row s [.num (maxOf (a.c 6)) 128] (valsAt a.c 7 1)).2) (d := ((iForm g r q).run s a (.most :: ts)).2.c) (fun k h1 h2 => by
    obtain rfl : k = 7 := by omega
    exact run_keep ts _ _ (d1 7 (by omega) rfl))
   rwa [hl] at this
  refine ⟨b1, fun u hu => ?_, ?_⟩
  ·rcases List.mem_cons.1 hu with rfl | hu
   ·show InRow [.num (maxOf (((iForm g r q).run s a (.most :: ts)).2.c 6)) 128] (valsAt ((iForm g r q).run s a (.most :: ts)).2.c 7 1)
    rw [hv, h6c]
    exact b2
   ·exact a2 u hu
  ·have e : stepsB ((iForm g r q).run s a (.most :: ts)).2 (.most :: ts) = rowB [.num (maxOf (a.c 6)) 128] ((iForm g r q).row s [.num (maxOf (a.c 6)) 128] (valsAt a.c 7 1)).2 ++ stepsB ((iForm g r q).run s a (.most :: ts)).2 ts := by
    show rowB [.num (maxOf (((iForm g r q).run s a (.most :: ts)).2.c 6)) 128] (valsAt ((iForm g r q).run s a (.most :: ts)).2.c 7 1) ++ _ = _
    rw [hv, h6c]
    rfl
   rw [e, List.append_assoc]
   exact b3.trans (congrArg (rowB [.num (maxOf (a.c 6)) 128] _ ++ ·) a3)
 | .lst j fs n :: ts, l, h6, s, a, ho, hd, ha, hL, hb, h => by
  obtain ⟨d1, d2, d3⟩ := disj_at hd
  have e2 : a.L j = [] := hL j ho.2.1
  have eR : (iForm g r q).run s a (.lst j fs n :: ts) = (iForm g r q).run ((iForm g r q).list fs s n []).1 ⟨a.c, upL a.L j ((iForm g r q).list fs s n []).2⟩ ts := by
   show (iForm g r q).run ((iForm g r q).list fs s n (a.L j)).1 ⟨a.c, upL a.L j ((iForm g r q).list fs s n (a.L j)).2⟩ ts = _
   rw [e2]
  rw [eR] at h ⊢
  obtain ⟨a1, a2, a3⟩ := run_r (g := g) (r := r) (q := q) ts (j :: l) h6 ((iForm g r q).list fs s n []).1 ⟨a.c, upL a.L j ((iForm g r q).list fs s n []).2⟩ ho.2.2 d3 ha (fun j' hj => by
   show upL a.L j ((iForm g r q).list fs s n []).2 j' = []
   unfold upL
   rw [if_neg (fun e => hj (by rw [e]; exact .head _))]
   exact hL j' (fun h => hj (.tail _ h))) (list_mem s hb) h
  obtain ⟨b1, b2, b3⟩ := list_r (g := g) (r := r) (q := q) s hb a1
  have hv : ((iForm g r q).run ((iForm g r q).list fs s n []).1 ⟨a.c, upL a.L j ((iForm g r q).list fs s n []).2⟩ ts).2.L j = ((iForm g r q).list fs s n []).2 := by
   refine (run_keepL ts _ _ (d2 j (lists_lt ho.1.1) (by simp [touchL]))).trans ?_
   show upL a.L j ((iForm g r q).list fs s n []).2 j = ((iForm g r q).list fs s n []).2
   unfold upL
   rw [if_pos rfl]
  generalize (iForm g r q).run ((iForm g r q).list fs s n []).1 ⟨a.c, upL a.L j ((iForm g r q).list fs s n []).2⟩ ts = R at *
  refine ⟨b1, fun u hu => ?_, ?_⟩
  ·rcases List.mem_cons.1 hu with rfl | hu
   ·show InList fs n (R.2.L j)
    rw [hv]
    exact b2
   ·exact a2 u hu
  ·have e : stepsB R.2 (.lst j fs n :: ts) = listB fs ((iForm g r q).list fs s n []).2 ++ stepsB R.2 ts := by
    show listB fs (R.2.L j) ++ _ = _
    rw [hv]
    rfl
   rw [e, List.append_assoc]
   exact b3.trans (congrArg (listB fs _ ++ ·) a3)
def wholeS (n : Int) : List Step := .row 0 [.num 1 10] :: script n
theorem script_1 : script 1 = [.row 1 [.num 0 4], .row 2 [.num 0 64], .lst 3 entryF 8] := rfl
theorem script_2 : script 2 = [.row 1 [.num 0 4], .row 2 [.num 0 64], .row 11 posF] := rfl
theorem script_3 : script 3 = [.row 1 [.num 0 4], .row 2 [.num 0 64], .row 4 posF, .row 6 [.num 1 128], .most, .lst 8 pairF 8, .lst 9 seenF 8] := rfl
theorem script_4 : script 4 = [.lst 10 epochF 64] := rfl
theorem script_5 : script 5 = [.row 1 [.num 0 4], .row 2 [.num 0 64], .row 11 posF, .row 13 [.flag]] := rfl
theorem script_6 : script 6 = [.row 2 [.num 0 64]] := rfl
theorem script_7 : script 7 = [.row 1 [.num 0 4], .row 2 [.num 0 64], .row 14 [.num 0 9007199254740992], .row 15 [.num 0 9007199254740992], .row 16 [.text 64], .row 19 posF] := rfl
theorem script_8 : script 8 = [.row 1 [.num 0 4], .row 2 [.num 0 64], .row 14 [.num 0 9007199254740992], .row 15 [.num 0 9007199254740992], .row 16 [.text 64], .row 17 [.flag], .row 18 [.text 1024], .row 19 posF] := rfl
theorem script_9 : script 9 = [.row 1 [.num 0 4], .row 2 [.num 0 64], .row 14 [.num 0 9007199254740992], .row 15 [.num 0 9007199254740992], .row 21 [.num 0 15], .row 22 valueF, .row 11 posF, .row 19 posF] := rfl
theorem script_10 : script 10 = [.row 1 [.num 0 4], .row 2 [.num 0 64], .row 14 [.num 0 9007199254740992], .row 15 [.num 0 9007199254740992], .row 21 [.num 0 15], .row 4 posF, .row 19 posF] := rfl
theorem script_o {n : Int} (h : ¬ (1 ≤ n ∧ n ≤ 10)) : script n = [.row 1 [.num 0 4], .row 2 [.num 0 64]] := by
 unfold script headS fieldsS
 rw [if_neg (by omega), if_neg (by omega), if_neg (by omega), if_neg (by omega), if_neg (by omega), if_neg (by omega), if_neg (by omega), if_neg (by omega), if_neg (by omega), if_neg (by omega), if_neg (by omega)]
 rfl
theorem in_10 {n : Int} (h : 1 ≤ n ∧ n ≤ 10) : n = 1 ∨ n = 2 ∨ n = 3 ∨ n = 4 ∨ n = 5 ∨ n = 6 ∨ n = 7 ∨ n = 8 ∨ n = 9 ∨ n = 10 := by omega
theorem okWhole (n : Int) : okRun [] false (wholeS n) ∧ disj (wholeS n) = true := by
 unfold wholeS
 by_cases h : 1 ≤ n ∧ n ≤ 10
 ·rcases in_10 h with rfl | rfl | rfl | rfl | rfl | rfl | rfl | rfl | rfl | rfl
  ·rw [script_1]; exact ⟨⟨rfl, rfl, rfl, ⟨by simp [lists], by decide⟩, by simp, trivial⟩, by decide⟩
  ·rw [script_2]; exact ⟨⟨rfl, rfl, rfl, rfl, trivial⟩, by decide⟩
  ·rw [script_3]; exact ⟨⟨rfl, rfl, rfl, rfl, rfl, rfl, ⟨by simp [lists], by decide⟩, by simp, ⟨by simp [lists], by decide⟩, by simp, trivial⟩, by decide⟩
  ·rw [script_4]; exact ⟨⟨rfl, ⟨by simp [lists], by decide⟩, by simp, trivial⟩, by decide⟩
  ·rw [script_5]; exact ⟨⟨rfl, rfl, rfl, rfl, rfl, trivial⟩, by decide⟩
  ·rw [script_6]; exact ⟨⟨rfl, rfl, trivial⟩, by decide⟩
  ·rw [script_7]; exact ⟨⟨rfl, rfl, rfl, rfl, rfl, rfl, rfl, trivial⟩, by decide⟩
  ·rw [script_8]; exact ⟨⟨rfl, rfl, rfl, rfl, rfl, rfl, rfl, rfl, rfl, trivial⟩, by decide⟩
  ·rw [script_9]; exact ⟨⟨rfl, rfl, rfl, rfl, rfl, rfl, rfl, rfl, rfl, trivial⟩, by decide⟩
  ·rw [script_10]; exact ⟨⟨rfl, rfl, rfl, rfl, rfl, rfl, rfl, rfl, trivial⟩, by decide⟩
 ·rw [script_o h]; exact ⟨⟨rfl, rfl, rfl, trivial⟩, by decide⟩
theorem whole_ok (n : Int) : ∀ t, t ∈ wholeS n → OkStep t := (okWhole n).1.step
def InAll (m : M) : Prop := (1 ≤ kindM m ∧ kindM m ≤ 10) ∧ ∀ t, t ∈ wholeS (kindM m) → InStep m t
theorem pay_run {m : M} (ht : Typed m) : payS m = ((oForm 0).run ([], false, false) m (wholeS (kindM m))).1 := by
 have h := (row_w (g := 0) (fs := [.num 1 10]) (vs := valsAt m.c 0 1) ⟨ht 0 rfl, trivial⟩ ([], false, false)).1
 have e : ((oForm 0).rowM ([], false, false) m 0 [.num 1 10]).2 = m := by
  show M.mk (putAt m.c 0 ((oForm 0).row ([], false, false) [.num 1 10] (valsAt m.c 0 1)).2) m.L = m
  rw [h, putAt_vals]
 unfold payS Form.all wholeS
 show _ = ((oForm 0).run ((oForm 0).rowM ([], false, false) m 0 [.num 1 10]).1 ((oForm 0).rowM ([], false, false) m 0 [.num 1 10]).2 (script (kindM m))).1
 rw [e]
theorem payOk_iff {m : M} (ht : Typed m) (hf : Fit m) : payOk m = true ↔ InAll m := by
 obtain ⟨_, h2, h3⟩ := run_w (g := 0) ht hf (wholeS (kindM m)) (whole_ok _) ([], false, false)
 unfold payOk InAll
 rw [pay_run ht]
 simp only [Bool.and_eq_true, decide_eq_true_eq, Bool.not_eq_true']
 constructor
 ·rintro ⟨⟨h, a⟩, b⟩
  exact ⟨h, (h2 (Prod.ext a b)).2.1⟩
 ·rintro ⟨h, hi⟩
  have e := h3 rfl hi
  rw [e]
  exact ⟨⟨h, rfl⟩, rfl⟩
theorem pay_eq {m : M} (ht : Typed m) (hf : Fit m) (h : InAll m) : payB m = stepsB m (wholeS (kindM m)) := by
 unfold payB
 rw [pay_run ht, (run_w (g := 0) ht hf (wholeS (kindM m)) (whole_ok _) ([], false, false)).2.2 rfl h.2]
 rfl
def onlyM (m : M) : M := copy m zeroM (wholeS (kindM m))
theorem rd_pay {m : M} (ht : Typed m) (hf : Fit m) (h : InAll m) : rdR (payB m) = (([], false, false), onlyM m) := by
 have hp := pay_eq ht hf h
 have e0 : stepsB m (wholeS (kindM m)) = rowB [.num 1 10] (valsAt m.c 0 1) ++ stepsB m (script (kindM m)) := rfl
 have hr := row_e (g := 0) (r := 0) (q := 0) (fs := [.num 1 10]) (vs := valsAt m.c 0 1) (v0 := valsAt zeroC 0 1) ⟨zero_typed 0 rfl, trivial⟩ (h.2 _ (.head _)) (stepsB m (script (kindM m)))
 have hk : kindM ((iForm 0 0 0).rowM (payB m, false, false) zeroM 0 [.num 1 10]).2 = kindM m := by
  rw [hp, e0]
  have : ((iForm 0 0 0).rowM (rowB [.num 1 10] (valsAt m.c 0 1) ++ stepsB m (script (kindM m)), false, false) zeroM 0 [.num 1 10]).2 = ⟨putAt zeroC 0 (valsAt m.c 0 1), fun _ => []⟩ := congrArg (fun p : ISt × List Value => M.mk (putAt zeroC 0 p.2) (fun _ => [])) hr
  rw [this]
  rfl
 have hrun := run_e (g := 0) (r := 0) (q := 0) ht (wholeS (kindM m)) [] false zeroM (okWhole _).1 zero_typed (fun _ _ => rfl) (fun h => by cases h) h.2 []
 rw [List.append_nil, ← hp] at hrun
 unfold rdR Form.all
 rw [hk]
 exact hrun
theorem right_iff {m : M} (ht : Typed m) (hf : Fit m) : RightM m ↔ InAll m ∧ MEq m (onlyM m) := by
 unfold RightM
 rw [payOk_iff ht hf]
 constructor
 ·rintro ⟨h1, h2, h3⟩
  refine ⟨h1, ?_⟩
  have e := rd_pay ht hf h1
  unfold rdM at h3
  rw [e] at h3
  exact h3
 ·rintro ⟨h1, h3⟩
  have e := rd_pay ht hf h1
  refine ⟨h1, ?_, ?_⟩
  ·unfold rdOk
   rw [e]
   rfl
  ·unfold rdM
   rw [e]
   exact h3
theorem rd_dec {p : List Int} (hb : ∀ x ∈ p, IsB x) (h : rdOk p = true) (ht : Typed (rdM p)) (hf : Fit (rdM p)) : InAll (rdM p) ∧ payB (rdM p) = p ∧ RightM (rdM p) := by
 have hR : rdR p = (iForm 0 0 0).run (p, false, false) zeroM (wholeS (kindM ((iForm 0 0 0).rowM (p, false, false) zeroM 0 [.num 1 10]).2)) := rfl
 generalize hn : kindM ((iForm 0 0 0).rowM (p, false, false) zeroM 0 [.num 1 10]).2 = n at hR
 have hc : (rdR p).1.1 = [] ∧ (rdR p).1.2 = (false, false) := by
  have h' := h
  unfold rdOk rend at h'
  simp only [Bool.and_eq_true, beq_iff_eq, Bool.not_eq_true'] at h'
  obtain ⟨h1, h2⟩ := h'
  split at h1
  ·cases h1
  ·rename_i hq
   simp only [not_or, Bool.not_eq_true] at hq
   exact ⟨List.length_eq_zero_iff.1 (by omega), Prod.ext hq.1 h2⟩
 obtain ⟨k1, k2⟩ := okWhole n
 have hr := run_r (g := 0) (r := 0) (q := 0) (wholeS n) [] false (p, false, false) zeroM k1 k2 zero_typed (fun _ _ => rfl) hb (by rw [← hR]; exact hc.2)
 rw [← hR] at hr
 obtain ⟨_, h2, h3⟩ := hr
 rw [hc.1, List.append_nil] at h3
 have e : (rdR p).2 = rdM p := rfl
 rw [e] at h2 h3
 have h0 : InRow [.num 1 10] (valsAt (rdM p).c 0 1) := h2 _ (.head _)
 obtain ⟨x, hx⟩ : ∃ x, (rdM p).c 0 = .int .i64 x := ht 0 rfl
 have hv : valsAt (rdM p).c 0 1 = [.int .i64 x] := by
  show [(rdM p).c 0] = _
  rw [hx]
 rw [hv] at h0
 have hk : kindM (rdM p) = x := by unfold kindM; rw [hx]
 have hkn : n = x := by
  have d := (disj_at k2).1 0 (by omega) rfl
  have e1 : (rdM p).c 0 = ((iForm 0 0 0).rowM (p, false, false) zeroM 0 [.num 1 10]).2.c 0 := by
   rw [← e, hR]
   exact run_keep (script n) _ _ d
  rw [← hn]
  unfold kindM
  rw [← e1, hx]
 have hall : InAll (rdM p) := ⟨by rw [hk]; exact ⟨h0.1.1, h0.1.2.1⟩, by rw [hk, ← hkn]; exact h2⟩
 have hpay : payB (rdM p) = p := by
  rw [pay_eq ht hf hall, hk, ← hkn]
  exact h3.symm
 refine ⟨hall, hpay, (payOk_iff ht hf).2 hall, by rw [hpay]; exact h, ?_⟩
 rw [hpay]
 exact ⟨fun _ _ => rfl, fun _ _ _ => rfl⟩
end Go.Proofs.Ytcbehfbfaonanaa.Wr
end
