/- Part 20 of the texts that walk the program and tell its laws, joined in the order of their building. No conditions. -/
import Derived.Test.YtcbehfbfaonanaaJw18
import Derived.Test.YtcbehfbfaonanaaJw2
import Derived.Test.YtcbehfbfaonanaaJw8
set_option maxRecDepth 100000
set_option maxHeartbeats 16000000
section
namespace Go.Proofs.Ytcbehfbfaonanaa.Wr
open Go.RowKit Go.Proofs.YtcbehfbfaonanaaW.PrintWords Go.Proofs.YtcbehfbfaonanaaW.PrintLast Go.Proofs.YtcbehfbfaonanaaW.PrintMore Go.Proofs.Ytcbehfbfaonanaa.Pk
set_option linter.unusedVariables false
set_option linter.unusedSimpArgs false
theorem znu (w : World) (g : Nat) (f : Nat → Value) (x : Nat → Int) (s : Nat → ByteArray) (p : Nat → Bool) (A : Nat → Option Addr) (n c : Nat → Nat) (K : Exit → Act → World → Prop) (i : Nat) (HX : Aside0 (w.heap[g]? = some (.cells (cX x s p (fun j => .slice (A j) (n j) (c j))) 32 (0, 0)))) (h3 : f 5 = .int .i64 (i : Int)) (hd : decide ((i : Int) < ((n 8 : Nat) : Int)) = false)
  (hK : ∀ a, RFr 247 g a → K (.exit 2) a w) : Code.wp Try.prog (cl (cl (cr (cl rb15)))) K (rfr g f) w := by
 unfold rfr
 rw [h3]
 have hq := eq_false (of_decide_eq_false hd)
 have hn := eq_false (show ¬ i < n 8 by have := of_decide_eq_false hd; omega)
 conv => arg 2; whnf
 go_wp2_with (first | ((with_reducible refine zae [164] (by decide) ?_); refine ld (T := 25) (g := g) (v := .slice (A 8) (n 8) (c 8)) rfl rfl HX.out (by rfl) rfl TuP rfl ?_))
 first | exact ⟨rfl, rfl, rfl⟩ | exact hK _ ⟨rfl, rfl, rfl⟩
theorem rl_pair (w : World) (g : Nat) (f : Nat → Value) (x : Nat → Int) (s : Nat → ByteArray) (p : Nat → Bool) (A : Nat → Option Addr) (n c : Nat → Nat) (K : Exit → Act → World → Prop) (i : Nat) (e0 : ByteArray) (e1 : Int) (e2 : Int) (e3 : Bool) (e4 : ByteArray) (h3 : f 5 = .int .i64 (i : Int)) (hi : i < n 8) (hn : n 8 ≤ 1048576) (ad : Addr) (HA : Aside0 (A 8 = some ad)) (HX : Aside0 (w.heap[g]? = some (.cells (cX x s p (fun j => .slice (A j) (n j) (c j))) 32 (0, 0)))) (HR : Aside0 (∀ j v, ([.string e0, .int .i64 e1, .int .i64 e2, .bool e3, .string e4] : List Value)[j]? = some v → w.cell? ((ad.add (i * 5)).add j) = some v)) (b0 b1 b2 : Bool) (HP : Aside0 (∀ W : World, Calls Try.prog 49 #[.slice (some ⟨W.heap.size, 0, none⟩) 1 1] (W.alloc (.cells #[.int .i64 e1, .int .i64 e2] 24)) (fun e w' => e = .returned (.bool b0) ∧ Drawn0 (W.alloc (.cells #[.int .i64 e1, .int .i64 e2] 24)) w'))) (hC1 : decide ((64 : Int) < ((e0.size : Nat) : Int)) = b1) (hC2 : decide ((1024 : Int) < ((e4.size : Nat) : Int)) = b2)
  (hno : ¬ (b0 = true ∧ b1 = false ∧ b2 = false) → ∀ a w', RFr 247 g a → a.tmps[2]? = some (.bool false) → Below w.heap.size w w' → K .ret a w') (hyes : b0 = true ∧ b1 = false ∧ b2 = false → ∀ a w', RFr 247 g a → a.tmps[5]? = some (.int .i64 ((i + 1 : Nat) : Int)) → Below w.heap.size w w' → K .normal a w') : Code.wp Try.prog (cl (cl (cr (cl rb15)))) K (rfr g f) w := by
 have HB := aK (Below.refl w.heap.size w)
 unfold rfr
 rw [h3]
 have hd : decide ((i : Int) < ((n 8 : Nat) : Int)) = true := by simp; omega
 have hp := eq_true (show (0 : Int) ≤ (i : Int) by omega)
 have hq := eq_true (show (i : Int) < ((n 8 : Nat) : Int) by omega)
 have hw : IntKind.i64.wrap ((i : Int) + 1) = ((i + 1 : Nat) : Int) := by rw [IntKind.wrap_i64]; omega
 clear hi hn
 cases b0; rotate_left
 obtain rfl | rfl : b1 = true ∨ b1 = false := (by cases b1 <;> simp)
 rotate_left
 obtain rfl | rfl : b2 = true ∨ b2 = false := (by cases b2 <;> simp)
 rotate_left
 all_goals
  conv => arg 2; whnf
  go_wp2_with (first | ((with_reducible refine zae [164] (by decide) ?_); refine ld (T := 25) (g := g) (v := .slice (A 8) (n 8) (c 8)) rfl rfl HX.out (by rfl) rfl TuP rfl ?_) | ((with_reducible refine zae [170] (by decide) ?_); refine ld (T := 25) (g := g) (v := .slice (some ad) (n 8) (c 8)) rfl rfl HX.out (by rw [← HA.out]; rfl) rfl TuP rfl ?_) | ((with_reducible refine zae [173] (by decide) ?_); refine ldA (T := 68) (q := ad.add (i * 5)) (vs := [.string e0, .int .i64 e1, .int .i64 e2, .bool e3, .string e4]) rfl rfl HR.out rfl Try.underlying68 rfl (by kernel_rfl) ?_) | ((with_reducible refine zae [6] (by decide) ?_); refine zbe rfl 68 rfl #[.string (⟨#[]⟩ : ByteArray), .int .i64 0, .int .i64 0, .bool false, .string (⟨#[]⟩ : ByteArray)] (by first | (go_simp; done) | (go_simp; rfl)) ?_; intro ge we hg hbox hb; have HE0 := aK hbox; have HGE := aK (show w.heap.size ≤ ge from by rw [hg]; exact HB.out.size); have HB := aK (HB.out.trans (hb.mono HB.out.size)); clear hg hbox hb) | ((with_reducible refine zan (t := 68) (p := 6) rfl ?_); refine zbk rfl 68 (.tmp 6) (.tmp 173) rfl ge rfl #[.string e0, .int .i64 e1, .int .i64 e2, .bool e3, .string e4] _ rfl 68 HE0.out rfl (by kernel_rfl) rfl ?_; intro w2 hX hO; have HE := aK hX; have HB := aK (zaz HB.out hO HB.out.size (fun k hk => by rw [hk]; exact HGE.out)); clear hX hO HE0) | ((with_reducible refine zae [182, 189] (by decide) ?_); refine ld (T := 9) (g := ge) (v := .string _) rfl rfl HE.out rfl rfl TuX rfl ?_) | ((with_reducible refine zae [176] (by decide) ?_); refine ldr (T := 24) (g := ge) (vs := [.int .i64 _, .int .i64 _]) rfl rfl HE.out 2 rfl rfl Try.underlying24 rfl (by kernel_rfl) ?_) | ((with_reducible refine zae [177] (by decide) ?_); refine Kd.event_run rfl (v := .slice (some ⟨w2.heap.size, 0, none⟩) 1 1) (w1 := w2.alloc (.cells #[.int .i64 e1, .int .i64 e2] 24)) (by first | (go_simp; done) | (go_simp; rfl)) ?_; have HE := aK (((zaa (Below.refl _ _) (.cells #[.int .i64 e1, .int .i64 e2] 24)).block ge (zad HE.out)).trans HE.out); have HB := aK (zaa HB.out (.cells #[.int .i64 e1, .int .i64 e2] 24))) | (go_at_call 49; (with_reducible refine (HP.out w2).mono ?_); rintro e wn ⟨rfl, hD⟩; have HE := aK (dblk hD HE.out); have HB := aK (HB.out.trans (hD.below.mono HB.out.size)); clear hD))
  first | exact hyes (by simp) _ _ ⟨rfl, rfl, rfl⟩ (by first | rfl | (rw [← hw]; rfl) | (simp; done)) HB.out | exact hno (by simp) _ _ ⟨rfl, rfl, rfl⟩ rfl HB.out
theorem znv (w : World) (g : Nat) (f : Nat → Value) (x : Nat → Int) (s : Nat → ByteArray) (p : Nat → Bool) (A : Nat → Option Addr) (n c : Nat → Nat) (K : Exit → Act → World → Prop) (i : Nat) (HX : Aside0 (w.heap[g]? = some (.cells (cX x s p (fun j => .slice (A j) (n j) (c j))) 32 (0, 0)))) (h3 : f 7 = .int .i64 (i : Int)) (hd : decide ((i : Int) < ((n 9 : Nat) : Int)) = false)
  (hK : ∀ a, RFr 247 g a → K (.exit 4) a w) : Code.wp Try.prog (cl (cl (cr (cl rb21)))) K (rfr g f) w := by
 unfold rfr
 rw [h3]
 have hq := eq_false (of_decide_eq_false hd)
 have hn := eq_false (show ¬ i < n 9 by have := of_decide_eq_false hd; omega)
 conv => arg 2; whnf
 go_wp2_with (first | ((with_reducible refine zae [195] (by decide) ?_); refine ld (T := 26) (g := g) (v := .slice (A 9) (n 9) (c 9)) rfl rfl HX.out (by rfl) rfl TuS rfl ?_))
 first | exact ⟨rfl, rfl, rfl⟩ | exact hK _ ⟨rfl, rfl, rfl⟩
theorem rl_seen (w : World) (g : Nat) (f : Nat → Value) (x : Nat → Int) (s : Nat → ByteArray) (p : Nat → Bool) (A : Nat → Option Addr) (n c : Nat → Nat) (K : Exit → Act → World → Prop) (i : Nat) (e0 : Int) (e1 : Int) (e2 : Int) (e3 : Int) (h3 : f 7 = .int .i64 (i : Int)) (hi : i < n 9) (hn : n 9 ≤ 1048576) (ad : Addr) (HA : Aside0 (A 9 = some ad)) (HX : Aside0 (w.heap[g]? = some (.cells (cX x s p (fun j => .slice (A j) (n j) (c j))) 32 (0, 0)))) (HR : Aside0 (∀ j v, ([.int .i64 e0, .int .i64 e1, .int .i64 e2, .int .i64 e3] : List Value)[j]? = some v → w.cell? ((ad.add (i * 4)).add j) = some v)) (b0 b1 b2 : Bool) (HP : Aside0 (∀ W : World, Calls Try.prog 49 #[.slice (some ⟨W.heap.size, 0, none⟩) 1 1] (W.alloc (.cells #[.int .i64 e2, .int .i64 e3] 24)) (fun e w' => e = .returned (.bool b0) ∧ Drawn0 (W.alloc (.cells #[.int .i64 e2, .int .i64 e3] 24)) w'))) (HI1 : Aside0 (∀ W : World, Calls Try.prog 47 #[.int .i64 (e0), .int .i64 0, .int .i64 9007199254740992] W (fun e w' => e = .returned (.bool b1) ∧ Drawn0 W w'))) (HI2 : Aside0 (∀ W : World, Calls Try.prog 47 #[.int .i64 (e1), .int .i64 0, .int .i64 9007199254740992] W (fun e w' => e = .returned (.bool b2) ∧ Drawn0 W w')))
  (hno : ¬ (b0 = true ∧ b1 = true ∧ b2 = true) → ∀ a w', RFr 247 g a → a.tmps[2]? = some (.bool false) → Below w.heap.size w w' → K .ret a w') (hyes : b0 = true ∧ b1 = true ∧ b2 = true → ∀ a w', RFr 247 g a → a.tmps[7]? = some (.int .i64 ((i + 1 : Nat) : Int)) → Below w.heap.size w w' → K .normal a w') : Code.wp Try.prog (cl (cl (cr (cl rb21)))) K (rfr g f) w := by
 have HB := aK (Below.refl w.heap.size w)
 unfold rfr
 rw [h3]
 have hd : decide ((i : Int) < ((n 9 : Nat) : Int)) = true := by simp; omega
 have hp := eq_true (show (0 : Int) ≤ (i : Int) by omega)
 have hq := eq_true (show (i : Int) < ((n 9 : Nat) : Int) by omega)
 have hw : IntKind.i64.wrap ((i : Int) + 1) = ((i + 1 : Nat) : Int) := by rw [IntKind.wrap_i64]; omega
 clear hi hn
 cases b0; rotate_left
 cases b1; rotate_left
 cases b2; rotate_left
 all_goals
  conv => arg 2; whnf
  go_wp2_with (first | ((with_reducible refine zae [195] (by decide) ?_); refine ld (T := 26) (g := g) (v := .slice (A 9) (n 9) (c 9)) rfl rfl HX.out (by rfl) rfl TuS rfl ?_) | ((with_reducible refine zae [201] (by decide) ?_); refine ld (T := 26) (g := g) (v := .slice (some ad) (n 9) (c 9)) rfl rfl HX.out (by rw [← HA.out]; rfl) rfl TuS rfl ?_) | ((with_reducible refine zae [204] (by decide) ?_); refine ldA (T := 70) (q := ad.add (i * 4)) (vs := [.int .i64 e0, .int .i64 e1, .int .i64 e2, .int .i64 e3]) rfl rfl HR.out rfl Try.underlying70 rfl (by kernel_rfl) ?_) | ((with_reducible refine zae [8] (by decide) ?_); refine zbe rfl 70 rfl #[.int .i64 0, .int .i64 0, .int .i64 0, .int .i64 0] (by first | (go_simp; done) | (go_simp; rfl)) ?_; intro ge we hg hbox hb; have HE0 := aK hbox; have HGE := aK (show w.heap.size ≤ ge from by rw [hg]; exact HB.out.size); have HB := aK (HB.out.trans (hb.mono HB.out.size)); clear hg hbox hb) | ((with_reducible refine zan (t := 70) (p := 8) rfl ?_); refine zbk rfl 70 (.tmp 8) (.tmp 204) rfl ge rfl #[.int .i64 e0, .int .i64 e1, .int .i64 e2, .int .i64 e3] _ rfl 70 HE0.out rfl (by kernel_rfl) rfl ?_; intro w2 hX hO; have HE := aK hX; have HB := aK (zaz HB.out hO HB.out.size (fun k hk => by rw [hk]; exact HGE.out)); clear hX hO HE0) | ((with_reducible refine zae [212, 218] (by decide) ?_); refine ld (T := 3) (g := ge) (v := .int .i64 _) rfl rfl HE.out rfl rfl TuI rfl ?_) | ((with_reducible refine zae [206] (by decide) ?_); refine ldr (T := 24) (g := ge) (vs := [.int .i64 _, .int .i64 _]) rfl rfl HE.out 2 rfl rfl Try.underlying24 rfl (by kernel_rfl) ?_) | ((with_reducible refine zae [207] (by decide) ?_); refine Kd.event_run rfl (v := .slice (some ⟨w2.heap.size, 0, none⟩) 1 1) (w1 := w2.alloc (.cells #[.int .i64 e2, .int .i64 e3] 24)) (by first | (go_simp; done) | (go_simp; rfl)) ?_; have HE := aK (((zaa (Below.refl _ _) (.cells #[.int .i64 e2, .int .i64 e3] 24)).block ge (zad HE.out)).trans HE.out); have HB := aK (zaa HB.out (.cells #[.int .i64 e2, .int .i64 e3] 24))) | (go_at_call 49; (with_reducible refine (HP.out w2).mono ?_); rintro e wn ⟨rfl, hD⟩; have HE := aK (dblk hD HE.out); have HB := aK (HB.out.trans (hD.below.mono HB.out.size)); clear hD) | (go_at_call 47; (with_reducible refine (HI1.out _).mono ?_); rintro e wn ⟨rfl, hD⟩; have HE := aK (dblk hD HE.out); have HB := aK (HB.out.trans (hD.below.mono HB.out.size)); clear hD) | (go_at_call 47; (with_reducible refine (HI2.out _).mono ?_); rintro e wn ⟨rfl, hD⟩; have HE := aK (dblk hD HE.out); have HB := aK (HB.out.trans (hD.below.mono HB.out.size)); clear hD))
  first | exact hyes (by simp) _ _ ⟨rfl, rfl, rfl⟩ (by first | rfl | (rw [← hw]; rfl) | (simp; done)) HB.out | exact hno (by simp) _ _ ⟨rfl, rfl, rfl⟩ rfl HB.out
theorem zmo (w : World) (g : Nat) (f : Nat → Value) (x : Nat → Int) (s : Nat → ByteArray) (p : Nat → Bool) (A : Nat → Option Addr) (n c : Nat → Nat) (K : Exit → Act → World → Prop) (i : Nat) (HX : Aside0 (w.heap[g]? = some (.cells (cX x s p (fun j => .slice (A j) (n j) (c j))) 32 (0, 0)))) (h3 : f 9 = .int .i64 (i : Int)) (hd : decide ((i : Int) < ((n 10 : Nat) : Int)) = false)
  (hK : ∀ a, RFr 247 g a → K (.exit 6) a w) : Code.wp Try.prog (cl (cl (cr (cl rb27)))) K (rfr g f) w := by
 unfold rfr
 rw [h3]
 have hq := eq_false (of_decide_eq_false hd)
 have hn := eq_false (show ¬ i < n 10 by have := of_decide_eq_false hd; omega)
 conv => arg 2; whnf
 go_wp2_with (first | ((with_reducible refine zae [224] (by decide) ?_); refine ld (T := 27) (g := g) (v := .slice (A 10) (n 10) (c 10)) rfl rfl HX.out (by rfl) rfl TuT rfl ?_))
 first | exact ⟨rfl, rfl, rfl⟩ | exact hK _ ⟨rfl, rfl, rfl⟩
theorem rl_epoch (w : World) (g : Nat) (f : Nat → Value) (x : Nat → Int) (s : Nat → ByteArray) (p : Nat → Bool) (A : Nat → Option Addr) (n c : Nat → Nat) (K : Exit → Act → World → Prop) (i : Nat) (e0 : Int) (e1 : Int) (e2 : Bool) (h3 : f 9 = .int .i64 (i : Int)) (hi : i < n 10) (hn : n 10 ≤ 1048576) (ad : Addr) (HA : Aside0 (A 10 = some ad)) (HX : Aside0 (w.heap[g]? = some (.cells (cX x s p (fun j => .slice (A j) (n j) (c j))) 32 (0, 0)))) (HC0 : Aside0 (∀ W : World, Below w.heap.size w W → W.cell? (ad.add (i * 3)) = some (.int .i64 e0))) (HC1 : Aside0 (∀ W : World, Below w.heap.size w W → W.cell? ⟨(ad.add (i * 3)).block, (ad.add (i * 3)).off + 1, none⟩ = some (.int .i64 e1))) (b0 b1 : Bool) (HI0 : Aside0 (∀ W : World, Calls Try.prog 47 #[.int .i64 (e0), .int .i64 0, .int .i64 4] W (fun e w' => e = .returned (.bool b0) ∧ Drawn0 W w'))) (HI1 : Aside0 (∀ W : World, Calls Try.prog 47 #[.int .i64 (e1), .int .i64 0, .int .i64 512] W (fun e w' => e = .returned (.bool b1) ∧ Drawn0 W w')))
  (hno : ¬ (b0 = true ∧ b1 = true) → ∀ a w', RFr 247 g a → a.tmps[2]? = some (.bool false) → Below w.heap.size w w' → K .ret a w') (hyes : b0 = true ∧ b1 = true → ∀ a w', RFr 247 g a → a.tmps[9]? = some (.int .i64 ((i + 1 : Nat) : Int)) → Below w.heap.size w w' → K .normal a w') : Code.wp Try.prog (cl (cl (cr (cl rb27)))) K (rfr g f) w := by
 have HB := aK (Below.refl w.heap.size w)
 unfold rfr
 rw [h3]
 have hd : decide ((i : Int) < ((n 10 : Nat) : Int)) = true := by simp; omega
 have hp := eq_true (show (0 : Int) ≤ (i : Int) by omega)
 have hq := eq_true (show (i : Int) < ((n 10 : Nat) : Int) by omega)
 have hw : IntKind.i64.wrap ((i : Int) + 1) = ((i + 1 : Nat) : Int) := by rw [IntKind.wrap_i64]; omega
 clear hi hn
 have hc0 := HC0.out w (Below.refl _ _)
 have hc1 := HC1.out w (Below.refl _ _)
 cases b0; rotate_left
 cases b1; rotate_left
 all_goals
  conv => arg 2; whnf
  go_wp2_with (first | ((with_reducible refine zae [224] (by decide) ?_); refine ld (T := 27) (g := g) (v := .slice (A 10) (n 10) (c 10)) rfl rfl HX.out (by rfl) rfl TuT rfl ?_) | ((with_reducible refine zae [230, 239] (by decide) ?_); refine ld (T := 27) (g := g) (v := .slice (some ad) (n 10) (c 10)) rfl rfl HX.out (by rw [← HA.out]; rfl) rfl TuT rfl ?_) | (go_at_call 47; (with_reducible refine (HI0.out _).mono ?_); rintro e wn ⟨rfl, hD⟩; have HX := aK (dblk hD HX.out); have HB := aK (HB.out.trans (hD.below.mono HB.out.size)); have hc0 := HC0.out _ HB.out; have hc1 := HC1.out _ HB.out; clear hD) | (go_at_call 47; (with_reducible refine (HI1.out _).mono ?_); rintro e wn ⟨rfl, hD⟩; have HX := aK (dblk hD HX.out); have HB := aK (HB.out.trans (hD.below.mono HB.out.size)); have hc0 := HC0.out _ HB.out; have hc1 := HC1.out _ HB.out; clear hD))
  first | exact hyes (by simp) _ _ ⟨rfl, rfl, rfl⟩ (by first | rfl | (rw [← hw]; rfl) | (simp; done)) HB.out | exact hno (by simp) _ _ ⟨rfl, rfl, rfl⟩ rfl HB.out
end Go.Proofs.Ytcbehfbfaonanaa.Wr
end
section
namespace Go.Proofs.Ytcbehfbfaonanaa.Pk
open Go.RowKit Go.Proofs.YtcbehfbfaonanaaW.PrintWords Go.Proofs.YtcbehfbfaonanaaW.PrintLast Go.Proofs.YtcbehfbfaonanaaW.PrintMore
set_option linter.unusedVariables false
set_option linter.unusedSimpArgs false
theorem goN_enc (f : Nat) : ∀ (m : Nat) (N B : Int) (t : List Int), (enc m).length ≤ f → 0 ≤ N → 0 < B → N + m * B ≤ 9007199254740992 → (m = 0 → f = 8) → goN f N B (enc m ++ t) = (N + m * B, t, false) := by
 induction f with
 | zero => intro m N B t h; have := zis m; omega
 | succ f ih =>
  intro m N B t h hN hB hle h0
  by_cases hm : m < 128
  ·rw [zeh hm]
   show goN (f + 1) N B ((m : Int) :: t) = _
   unfold goN
   have e : (m : Int) % 128 = m := by omega
   rw [e, if_pos (by omega), if_neg (by omega)]
  ·rw [zir hm] at h ⊢
   show goN (f + 1) N B (((m : Int) % 128 + 128) :: (enc (m / 128) ++ t)) = _
   unfold goN
   have e : ((m : Int) % 128 + 128) % 128 = (m : Int) % 128 := by omega
   have e2 : (N + (m : Int) % 128 * B) + ((m / 128 : Nat) : Int) * (B * 128) = N + m * B := by
    have h1 : (m : Int) = (m : Int) % 128 + 128 * ((m / 128 : Nat) : Int) := by omega
    have h2 : ((m / 128 : Nat) : Int) * (B * 128) = (128 * ((m / 128 : Nat) : Int)) * B := by
     rw [Int.mul_comm B 128, ← Int.mul_assoc, Int.mul_comm _ (128 : Int)]
    rw [h2, Int.add_assoc, ← Int.add_mul, ← h1]
   have hp : 0 ≤ (m : Int) % 128 * B := Int.mul_nonneg (by omega) (by omega)
   rw [if_neg (by omega), e, ← e2]
   simp only [List.length_cons] at h
   exact ih (m / 128) _ _ t (by omega) (by omega) (by omega) (by rw [e2]; exact hle) (fun h => by omega)
theorem zld {m : Nat} (h : m ≤ 9007199254740992) (t : List Int) : rnum (enc m ++ t) false = ((m : Int), t, false) := by
 show goN 8 0 1 (enc m ++ t) = _
 rw [goN_enc 8 m 0 1 t (zeu h) (by decide) (by decide) (by omega) (fun _ => rfl)]
 simp
theorem zle (s : ByteArray) : strOfNums (zbq s) = s := by
 apply ByteArray.ext
 apply Array.ext'
 rw [strOfNums_data]
 unfold zbq
 rw [List.map_map]
 conv => rhs; rw [← List.map_id s.data.toList]
 apply List.map_congr_left
 intro b _
 simp
theorem zha {xs : List Int} (h : ∀ x ∈ xs, IsB x) : zbq (strOfNums xs) = xs := by
 unfold zbq
 rw [strOfNums_data, List.map_map]
 conv => rhs; rw [← List.map_id xs]
 apply List.map_congr_left
 intro x hx
 obtain ⟨h0, h1⟩ := h x hx
 simp only [Function.comp, id]
 rw [UInt8.toNat_ofNat']
 have : x.toNat % 2 ^ 8 = x.toNat := Nat.mod_eq_of_lt (by omega)
 rw [this]
 omega
theorem enc_isB : ∀ n : Nat, ∀ x ∈ enc n, IsB x := by
 intro n
 induction n using Nat.strongRecOn with
 | _ n ih =>
  intro x hx
  by_cases h : n < 128
  ·rw [zeh h] at hx
   obtain rfl := List.mem_singleton.1 hx
   unfold IsB; omega
  ·rw [zir h] at hx
   rcases List.mem_cons.1 hx with rfl | hx
   ·unfold IsB; omega
   ·exact ih (n / 128) (by omega) x hx
theorem bytesOf_isB (s : ByteArray) : ∀ x ∈ zbq s, IsB x := by
 intro x hx
 unfold zbq at hx
 obtain ⟨b, _, rfl⟩ := List.mem_map.1 hx
 have := b.toNat_lt
 unfold IsB; omega
end Go.Proofs.Ytcbehfbfaonanaa.Pk
end
section
namespace Go.Proofs.Ytcbehfbfaonanaa.Wr
open Go.RowKit Go.Proofs.YtcbehfbfaonanaaW.PrintWords Go.Proofs.YtcbehfbfaonanaaW.PrintLast Go.Proofs.YtcbehfbfaonanaaW.PrintMore Go.Proofs.Ytcbehfbfaonanaa.Pk
set_option linter.unusedVariables false
set_option linter.unusedSimpArgs false
def fldB : Fld → Value → List Int
 | .num _ _, .int .i64 n => enc n.toNat
 | .flag, .bool x => [if x = true then 1 else 0]
 | .text _, .string x => enc x.size ++ zbq x
 | _, _ => []
def InF : Fld → Value → Prop
 | .num lo hi, .int .i64 n => lo ≤ n ∧ n ≤ hi ∧ 0 ≤ n ∧ n ≤ 9007199254740992
 | .flag, .bool _ => True
 | .text most, .string x => (x.size : Int) ≤ most ∧ x.size ≤ 9007199254740992
 | _, _ => False
theorem zpb (x : Bool) : enc (if x = true then (1 : Int) else 0).toNat = [if x = true then 1 else 0] := by
 cases x
 ·exact zeh (by decide)
 ·exact zeh (by decide)
theorem fld_w {g : Nat} {f : Fld} {v : Value} (hf : f.fits v) (s : OSt) : ((zar g).fld s f v).2 = v ∧
  (((zar g).fld s f v).1.2 = (false, false) → s.2 = (false, false) ∧ InF f v ∧ ((zar g).fld s f v).1.1 = s.1 ++ fldB f v) ∧
  (s.2 = (false, false) → InF f v → ((zar g).fld s f v).1 = (s.1 ++ fldB f v, false, false)) := by
 obtain ⟨xs, bad, b⟩ := s
 cases f with
 | num lo hi =>
  obtain ⟨n, rfl⟩ := hf
  refine ⟨rfl, fun h => ?_, fun h hi => ?_⟩
  ·have h1 : (wnum n xs bad).2 = false := congrArg Prod.fst h
   have h2 : (b || decide (n < lo) || decide (hi < n)) = false := congrArg Prod.snd h
   simp only [Bool.or_eq_false_iff, decide_eq_false_iff_not] at h2
   have hb : bad = false := by cases bad <;> first | rfl | (rw [wnum_bad] at h1; cases h1)
   subst hb
   have hr : 0 ≤ n ∧ n ≤ 9007199254740992 := by
    refine Classical.byContradiction fun hn => ?_
    rw [wnum_out (by omega)] at h1
    cases h1
   refine ⟨by rw [h2.1.1], ⟨by omega, by omega, hr.1, hr.2⟩, ?_⟩
   show (wnum n xs false).1 = _
   rw [wnum_good hr.1 hr.2]
   rfl
  ·obtain ⟨h1, h2, h3, h4⟩ := hi
   simp only [Prod.mk.injEq] at h
   obtain ⟨rfl, rfl⟩ := h
   show ((wnum n xs false).1, (wnum n xs false).2, (false || decide (n < lo) || decide (_ < n))) = _
   rw [wnum_good h3 h4, decide_eq_false (by omega), decide_eq_false (by omega)]
   rfl
 | flag =>
  obtain ⟨x, rfl⟩ := hf
  have hx : 0 ≤ (if x = true then (1 : Int) else 0) ∧ (if x = true then (1 : Int) else 0) ≤ 9007199254740992 := by cases x <;> decide
  refine ⟨rfl, fun h => ?_, fun h hi => ?_⟩
  ·have h1 : (zev x xs bad).2 = false := congrArg Prod.fst h
   have h2 : b = false := congrArg Prod.snd h
   have hb : bad = false := by cases bad <;> first | rfl | (unfold zev at h1; rw [wnum_bad] at h1; cases h1)
   subst hb
   refine ⟨by rw [h2], trivial, ?_⟩
   show (wnum _ xs false).1 = _
   rw [wnum_good hx.1 hx.2, zpb]
   rfl
  ·simp only [Prod.mk.injEq] at h
   obtain ⟨rfl, rfl⟩ := h
   show ((wnum _ xs false).1, (wnum _ xs false).2, false) = _
   rw [wnum_good hx.1 hx.2, zpb]
   rfl
 | text most =>
  obtain ⟨x, rfl⟩ := hf
  refine ⟨rfl, fun h => ?_, fun h hi => ?_⟩
  ·have h1 : (zcv x xs bad).2 = false := congrArg Prod.fst h
   have h2 : (b || decide (most < (x.size : Int))) = false := congrArg Prod.snd h
   simp only [Bool.or_eq_false_iff, decide_eq_false_iff_not] at h2
   have hb : bad = false := by cases bad <;> first | rfl | (unfold zcv at h1; rw [if_pos (wnum_bad _ _)] at h1; cases h1)
   subst hb
   have hr : x.size ≤ 9007199254740992 := by
    refine Classical.byContradiction fun hn => ?_
    unfold zcv at h1
    rw [if_pos (wnum_out (.inr (by omega)) _)] at h1
    cases h1
   refine ⟨by rw [h2.1], ⟨by omega, hr⟩, ?_⟩
   show (zcv x xs false).1 = _
   unfold zcv
   rw [wnum_good (by omega) (by omega), if_neg (by simp), Int.toNat_natCast]
   exact List.append_assoc _ _ _
  ·obtain ⟨h1, h2⟩ := hi
   simp only [Prod.mk.injEq] at h
   obtain ⟨rfl, rfl⟩ := h
   show ((zcv x xs false).1, (zcv x xs false).2, (false || decide (most < (x.size : Int)))) = _
   unfold zcv
   rw [wnum_good (by omega) (by omega), if_neg (by simp), Int.toNat_natCast, decide_eq_false (by omega), List.append_assoc]
   rfl
theorem fld_e {g r q : Nat} {f : Fld} {v v0 : Value} (hf : f.fits v0) (hi : InF f v) (t : List Int) : (zbc g r q).fld (fldB f v ++ t, false, false) f v0 = ((t, false, false), v) := by
 cases f with
 | num lo hi' =>
  obtain ⟨n0, rfl⟩ := hf
  cases v with
  | int k n =>
   cases k <;> first | exact hi.elim | skip
   obtain ⟨h1, h2, h3, h4⟩ := hi
   show (((rnum (enc n.toNat ++ t) false).2.1, (rnum (enc n.toNat ++ t) false).2.2, (false || decide ((rnum (enc n.toNat ++ t) false).1 < lo) || decide (hi' < (rnum (enc n.toNat ++ t) false).1))), Value.int .i64 (rnum (enc n.toNat ++ t) false).1) = _
   rw [zld (by omega), Int.toNat_of_nonneg h3]
   simp only
   rw [decide_eq_false (by omega), decide_eq_false (by omega)]
   rfl
  | _ => exact hi.elim
 | flag =>
  obtain ⟨x0, rfl⟩ := hf
  cases v with
  | bool x => cases x <;> rfl
  | _ => exact hi.elim
 | text most =>
  obtain ⟨x0, rfl⟩ := hf
  cases v with
  | string x =>
   obtain ⟨h1, h2⟩ := hi
   show (((zeq most ((enc x.size ++ zbq x) ++ t) false).2.1, (zeq most ((enc x.size ++ zbq x) ++ t) false).2.2, false), Value.string (strOfNums (zeq most ((enc x.size ++ zbq x) ++ t) false).1)) = _
   rw [List.append_assoc]
   unfold zeq
   rw [zld h2, if_neg (by simp only [List.length_append, zcl]; simp; omega)]
   simp only [Int.toNat_natCast]
   rw [List.take_left' (zcl x), List.drop_left' (zcl x), zle]
  | _ => exact hi.elim
def rowB : List Fld → List Value → List Int
 | f :: fs, v :: vs => fldB f v ++ rowB fs vs
 | _, _ => []
def zbj : List Fld → List Value → Prop
 | [], [] => True
 | f :: fs, v :: vs => InF f v ∧ zbj fs vs
 | _, _ => False
def zhb (fs : List Fld) (rs : List (List Value)) : List Int := rs.flatMap (rowB fs)
theorem ztx {g : Nat} : ∀ {fs : List Fld} {vs : List Value} (_ : fits fs vs) (s : OSt), ((zar g).row s fs vs).2 = vs ∧
  (((zar g).row s fs vs).1.2 = (false, false) → s.2 = (false, false) ∧ zbj fs vs ∧ ((zar g).row s fs vs).1.1 = s.1 ++ rowB fs vs) ∧
  (s.2 = (false, false) → zbj fs vs → ((zar g).row s fs vs).1 = (s.1 ++ rowB fs vs, false, false))
 | [], [], _, s => ⟨rfl, fun h => ⟨h, trivial, (List.append_nil _).symm⟩, fun h _ => by rw [← h]; exact Prod.ext (List.append_nil _).symm rfl⟩
 | [], _ :: _, h, _ => h.elim
 | _ :: _, [], h, _ => h.elim
 | f :: fs, v :: vs, hf, s => by
  obtain ⟨h1, h2, h3⟩ := fld_w (g := g) hf.1 s
  obtain ⟨k1, k2, k3⟩ := ztx (g := g) hf.2 ((zar g).fld s f v).1
  refine ⟨?_, fun h => ?_, fun h hi => ?_⟩
  ·show ((zar g).fld s f v).2 :: ((zar g).row ((zar g).fld s f v).1 fs vs).2 = v :: vs
   rw [h1, k1]
  ·obtain ⟨a1, a2, a3⟩ := k2 h
   obtain ⟨b1, b2, b3⟩ := h2 a1
   refine ⟨b1, ⟨b2, a2⟩, ?_⟩
   show ((zar g).row ((zar g).fld s f v).1 fs vs).1.1 = s.1 ++ (fldB f v ++ rowB fs vs)
   rw [a3, b3, List.append_assoc]
  ·have e := h3 h hi.1
   show ((zar g).row ((zar g).fld s f v).1 fs vs).1 = (s.1 ++ (fldB f v ++ rowB fs vs), false, false)
   rw [k3 (by rw [e]) hi.2, e, List.append_assoc]
theorem zty {g r q : Nat} : ∀ {fs : List Fld} {vs v0 : List Value} (_ : fits fs v0) (_ : zbj fs vs) (t : List Int), (zbc g r q).row (rowB fs vs ++ t, false, false) fs v0 = ((t, false, false), vs)
 | [], [], [], _, _, t => rfl
 | [], _ :: _, _, _, h, _ => h.elim
 | [], [], _ :: _, h, _, _ => h.elim
 | _ :: _, _, [], h, _, _ => h.elim
 | _ :: _, [], _ :: _, _, h, _ => h.elim
 | f :: fs, v :: vs, v0 :: v0s, hf, hi, t => by
  have e := fld_e (g := g) (r := r) (q := q) hf.1 hi.1 (rowB fs vs ++ t)
  have k := zty (g := g) (r := r) (q := q) hf.2 hi.2 t
  have e0 : rowB (f :: fs) (v :: vs) ++ t = fldB f v ++ (rowB fs vs ++ t) := List.append_assoc _ _ _
  rw [e0]
  exact (congrArg (fun p : ISt × Value => (((zbc g r q).row p.1 fs v0s).1, p.2 :: ((zbc g r q).row p.1 fs v0s).2)) e).trans (congrArg (fun p : ISt × List Value => (p.1, v :: p.2)) k)
theorem rows_w {g : Nat} {fs : List Fld} : ∀ (rs : List (List Value)) (_ : ∀ r, r ∈ rs → fits fs r) (s : OSt), ((zar g).rows fs s rs).2 = rs ∧
  (((zar g).rows fs s rs).1.2 = (false, false) → s.2 = (false, false) ∧ (∀ r, r ∈ rs → zbj fs r) ∧ ((zar g).rows fs s rs).1.1 = s.1 ++ zhb fs rs) ∧
  (s.2 = (false, false) → (∀ r, r ∈ rs → zbj fs r) → ((zar g).rows fs s rs).1 = (s.1 ++ zhb fs rs, false, false))
 | [], _, s => ⟨rfl, fun h => ⟨h, (fun r hr => nomatch hr), (List.append_nil _).symm⟩, fun h _ => by rw [← h]; exact Prod.ext (List.append_nil _).symm rfl⟩
 | r :: rs, hf, s => by
  obtain ⟨h1, h2, h3⟩ := ztx (g := g) (hf r (.head _)) s
  obtain ⟨k1, k2, k3⟩ := rows_w (g := g) rs (fun q hq => hf q (.tail _ hq)) ((zar g).row s fs r).1
  refine ⟨?_, fun h => ?_, fun h hi => ?_⟩
  ·show ((zar g).row s fs r).2 :: ((zar g).rows fs ((zar g).row s fs r).1 rs).2 = r :: rs
   rw [h1, k1]
  ·obtain ⟨a1, a2, a3⟩ := k2 h
   obtain ⟨b1, b2, b3⟩ := h2 a1
   refine ⟨b1, fun q hq => ?_, ?_⟩
   ·rcases List.mem_cons.1 hq with rfl | hq
    ·exact b2
    ·exact a2 q hq
   ·show ((zar g).rows fs ((zar g).row s fs r).1 rs).1.1 = s.1 ++ (rowB fs r ++ zhb fs rs)
    rw [a3, b3, List.append_assoc]
  ·have e := h3 h (hi r (.head _))
   show ((zar g).rows fs ((zar g).row s fs r).1 rs).1 = (s.1 ++ (rowB fs r ++ zhb fs rs), false, false)
   rw [k3 (by rw [e]) (fun q hq => hi q (.tail _ hq)), e, List.append_assoc]
theorem rows_e {g r q : Nat} {fs : List Fld} : ∀ (rs zs : List (List Value)) (_ : ∀ z, z ∈ zs → fits fs z) (_ : zs.length = rs.length) (_ : ∀ r', r' ∈ rs → zbj fs r') (t : List Int), (zbc g r q).rows fs (zhb fs rs ++ t, false, false) zs = ((t, false, false), rs)
 | [], [], _, _, _, t => rfl
 | [], _ :: _, _, h, _, _ => by simp at h
 | _ :: _, [], _, h, _, _ => by simp at h
 | r' :: rs, z :: zs, hf, hl, hi, t => by
  have e := zty (g := g) (r := r) (q := q) (hf z (.head _)) (hi r' (.head _)) (zhb fs rs ++ t)
  have k := rows_e (g := g) (r := r) (q := q) rs zs (fun z' hz => hf z' (.tail _ hz)) (by simpa using hl) (fun q' hq => hi q' (.tail _ hq)) t
  have e0 : zhb fs (r' :: rs) ++ t = rowB fs r' ++ (zhb fs rs ++ t) := List.append_assoc _ _ _
  rw [e0]
  exact (congrArg (fun p : ISt × List Value => (((zbc g r q).rows fs p.1 zs).1, p.2 :: ((zbc g r q).rows fs p.1 zs).2)) e).trans (congrArg (fun p : ISt × List (List Value) => (p.1, r' :: p.2)) k)
def zmp (fs : List Fld) (rs : List (List Value)) : List Int := enc rs.length ++ zhb fs rs
def zhs (fs : List Fld) (most : Nat) (rs : List (List Value)) : Prop := rs.length ≤ most ∧ ∀ r, r ∈ rs → zbj fs r
theorem list_w {g most : Nat} {fs : List Fld} (hm : most ≤ 9007199254740992) (rs : List (List Value)) (hf : ∀ r, r ∈ rs → fits fs r) (s : OSt) : ((zar g).list fs s most rs).2 = rs ∧
  (((zar g).list fs s most rs).1.2 = (false, false) → s.2 = (false, false) ∧ zhs fs most rs ∧ ((zar g).list fs s most rs).1.1 = s.1 ++ zmp fs rs) ∧
  (s.2 = (false, false) → zhs fs most rs → ((zar g).list fs s most rs).1 = (s.1 ++ zmp fs rs, false, false)) := by
 have hR : (zar g).listR fs s most rs = rs := by
  unfold Form.listR
  show (if rs.length < ((rs.length : Int)).toNat then _ else rs) = rs
  rw [if_neg (by omega)]
 have hM : (zar g).listM s most rs.length = min rs.length most := by
  unfold Form.listM
  show min ((rs.length : Int)).toNat most = _
  rw [Int.toNat_natCast]
 unfold Form.list
 rw [hR, hM]
 have hft : ∀ r, r ∈ rs.take (min rs.length most) → fits fs r := fun r hr => hf r (List.mem_of_mem_take hr)
 obtain ⟨h1, h2, h3⟩ := rows_w (g := g) (rs.take (min rs.length most)) hft (zhn s rs.length most)
 have hc : ((zar g).count s rs.length most).1 = zhn s rs.length most := rfl
 rw [hc]
 obtain ⟨xs, bad, b⟩ := s
 refine ⟨by rw [h1, List.take_append_drop], fun h => ?_, fun h hi => ?_⟩
 ·obtain ⟨a1, a2, a3⟩ := h2 h
  have k1 : (wnum (rs.length : Int) xs bad).2 = false := congrArg Prod.fst a1
  have k2 : (b || decide ((most : Int) < (rs.length : Int))) = false := congrArg Prod.snd a1
  simp only [Bool.or_eq_false_iff, decide_eq_false_iff_not] at k2
  have hb : bad = false := by cases bad <;> first | rfl | (rw [wnum_bad] at k1; cases k1)
  subst hb
  have hle : rs.length ≤ most := by omega
  rw [Nat.min_eq_left hle, List.take_length] at a2 a3
  refine ⟨by rw [k2.1], ⟨hle, a2⟩, ?_⟩
  rw [Nat.min_eq_left hle, List.take_length, a3]
  show (wnum (rs.length : Int) xs false).1 ++ zhb fs rs = xs ++ (enc rs.length ++ zhb fs rs)
  rw [wnum_good (by omega) (by omega), Int.toNat_natCast, List.append_assoc]
 ·obtain ⟨hle, hin⟩ := hi
  simp only [Prod.mk.injEq] at h
  obtain ⟨rfl, rfl⟩ := h
  rw [Nat.min_eq_left hle, List.take_length] at h3 ⊢
  have e : zhn (xs, false, false) (rs.length : Int) most = (xs ++ enc rs.length, false, false) := by
   show ((wnum (rs.length : Int) xs false).1, (wnum (rs.length : Int) xs false).2, (false || decide ((most : Int) < (rs.length : Int)))) = _
   rw [wnum_good (by omega) (by omega), Int.toNat_natCast, decide_eq_false (by omega)]
   rfl
  rw [h3 (by rw [e]) hin, e, List.append_assoc]
  rfl
theorem listR_i {g r q most : Nat} {fs : List Fld} (s : ISt) : (zbc g r q).listR fs s most [] = List.replicate (zbw most s.1 s.2.1).1.toNat (zao fs) := by
 unfold Form.listR
 show (if ([] : List (List Value)).length < (zbw most s.1 s.2.1).1.toNat then List.replicate (zbw most s.1 s.2.1).1.toNat (zao fs) else []) = _
 split
 ·rfl
 ·rename_i h
  have : (zbw most s.1 s.2.1).1.toNat = 0 := by simpa using h
  rw [this]
  rfl
theorem ztz {most : Nat} {bs : List Int} {bad : Bool} : (zbw most bs bad).1.toNat ≤ most := by
 unfold zbw
 split
 ·simp
 ·omega
theorem list_i {g r q most : Nat} {fs : List Fld} (s : ISt) : (zbc g r q).list fs s most [] = (zbc g r q).rows fs (zho s most) (List.replicate (zbw most s.1 s.2.1).1.toNat (zao fs)) := by
 have hM : (zbc g r q).listM s most 0 = (zbw most s.1 s.2.1).1.toNat := by
  unfold Form.listM
  show min (zbw most s.1 s.2.1).1.toNat most = _
  exact Nat.min_eq_left ztz
 unfold Form.list
 rw [listR_i]
 show (((zbc g r q).rows fs (zho s most) ((List.replicate (zbw most s.1 s.2.1).1.toNat (zao fs)).take ((zbc g r q).listM s most 0))).1, ((zbc g r q).rows fs (zho s most) ((List.replicate (zbw most s.1 s.2.1).1.toNat (zao fs)).take ((zbc g r q).listM s most 0))).2 ++ (List.replicate (zbw most s.1 s.2.1).1.toNat (zao fs)).drop ((zbc g r q).listM s most 0)) = _
 rw [hM, List.take_of_length_le (by simp), List.drop_of_length_le (by simp), List.append_nil]
theorem list_e {g r q most : Nat} {fs : List Fld} (hm : most ≤ 9007199254740992) {rs : List (List Value)} (hi : zhs fs most rs) (t : List Int) : (zbc g r q).list fs (zmp fs rs ++ t, false, false) most [] = ((t, false, false), rs) := by
 rw [list_i]
 obtain ⟨hle, hin⟩ := hi
 have e : zbw most (zmp fs rs ++ t) false = ((rs.length : Int), zhb fs rs ++ t, false) := by
  unfold zbw zmp
  rw [List.append_assoc, zld (by omega), if_neg (by simp; omega)]
 have e2 : zho (zmp fs rs ++ t, false, false) most = (zhb fs rs ++ t, false, false) := by
  unfold zho
  simp only [e]
 simp only [e, e2, Int.toNat_natCast]
 refine rows_e rs _ (fun z hz => ?_) (by simp) hin t
 obtain rfl := List.eq_of_mem_replicate hz
 exact zee fs
def zua (m : M) : Step → List Int
 | .row i fs => rowB fs (zaq m.c i fs.length)
 | .most => rowB [.num (zgd (m.c 6)) 128] (zaq m.c 7 1)
 | .lst j fs n => zmp fs (m.L j)
def zbv (m : M) : Step → Prop
 | .row i fs => zbj fs (zaq m.c i fs.length)
 | .most => zbj [.num (zgd (m.c 6)) 128] (zaq m.c 7 1)
 | .lst j fs n => zhs fs n (m.L j)
def zdn (m : M) (ts : List Step) : List Int := ts.flatMap (zua m)
def zpc : Step → Prop
 | .row i fs => zfk i fs = true
 | .most => True
 | .lst j fs n => (j, fs) ∈ zah ∧ n ≤ 64
theorem zlf (c d : Nat → Value) (i n k : Nat) : zdy c i (zaq d i n) k = if i ≤ k ∧ k < i + n then d k else c k := by
 unfold zdy
 by_cases h1 : i ≤ k
 ·rw [if_pos h1]
  by_cases h2 : k < i + n
  ·rw [if_pos ⟨h1, h2⟩]
   have hl : k - i < (zaq d i n).length := by rw [zdi]; omega
   rw [List.getElem?_eq_getElem hl]
   have := zfx d n i (k - i) _ (List.getElem?_eq_getElem hl)
   rw [show i + (k - i) = k by omega] at this
   rw [this]
   rfl
  ·rw [if_neg (by omega), List.getElem?_eq_none (by rw [zdi]; omega)]
   rfl
 ·rw [if_neg h1, if_neg (by omega)]
theorem zmq {m : M} (ht : zbh m) : fits [.num (zgd (m.c 6)) 128] (zaq m.c 7 1) := ⟨ht 7 rfl, trivial⟩
theorem step_w {g : Nat} {m : M} (ht : zbh m) (hf : Fit m) {t : Step} (ho : zpc t) (s : OSt) : ((zar g).step s m t).2 = m ∧
  (((zar g).step s m t).1.2 = (false, false) → s.2 = (false, false) ∧ zbv m t ∧ ((zar g).step s m t).1.1 = s.1 ++ zua m t) ∧
  (s.2 = (false, false) → zbv m t → ((zar g).step s m t).1 = (s.1 ++ zua m t, false, false)) := by
 cases t with
 | row i fs =>
  obtain ⟨h1, h2, h3⟩ := ztx (g := g) (zde ho ht) s
  refine ⟨?_, h2, h3⟩
  show M.mk (zdy m.c i ((zar g).row s fs (zaq m.c i fs.length)).2) m.L = m
  rw [h1, zfy]
 | most =>
  obtain ⟨h1, h2, h3⟩ := ztx (g := g) (zmq ht) s
  refine ⟨?_, h2, h3⟩
  show M.mk (zdy m.c 7 ((zar g).row s [.num (zgd (m.c 6)) 128] (zaq m.c 7 1)).2) m.L = m
  rw [h1, zfy]
 | lst j fs n =>
  obtain ⟨h1, h2, h3⟩ := list_w (g := g) (most := n) (fs := fs) (by have := ho.2; omega) (m.L j) (hf j fs ho.1) s
  refine ⟨?_, h2, h3⟩
  show M.mk m.c (upL m.L j ((zar g).list fs s n (m.L j)).2) = m
  rw [h1, zoh]
theorem run_w {g : Nat} {m : M} (ht : zbh m) (hf : Fit m) : ∀ (ts : List Step) (_ : ∀ t, t ∈ ts → zpc t) (s : OSt), ((zar g).run s m ts).2 = m ∧
  (((zar g).run s m ts).1.2 = (false, false) → s.2 = (false, false) ∧ (∀ t, t ∈ ts → zbv m t) ∧ ((zar g).run s m ts).1.1 = s.1 ++ zdn m ts) ∧
  (s.2 = (false, false) → (∀ t, t ∈ ts → zbv m t) → ((zar g).run s m ts).1 = (s.1 ++ zdn m ts, false, false))
 | [], _, s => ⟨rfl, fun h => ⟨h, (fun r hr => nomatch hr), (List.append_nil _).symm⟩, fun h _ => by rw [← h]; exact Prod.ext (List.append_nil _).symm rfl⟩
 | t :: ts, ho, s => by
  obtain ⟨h1, h2, h3⟩ := step_w (g := g) ht hf (ho t (.head _)) s
  have e : (zar g).run s m (t :: ts) = (zar g).run ((zar g).step s m t).1 m ts := by
   show (zar g).run ((zar g).step s m t).1 ((zar g).step s m t).2 ts = _
   rw [h1]
  obtain ⟨k1, k2, k3⟩ := run_w (g := g) ht hf ts (fun u hu => ho u (.tail _ hu)) ((zar g).step s m t).1
  rw [e]
  refine ⟨k1, fun h => ?_, fun h hi => ?_⟩
  ·obtain ⟨a1, a2, a3⟩ := k2 h
   obtain ⟨b1, b2, b3⟩ := h2 a1
   refine ⟨b1, fun u hu => ?_, ?_⟩
   ·rcases List.mem_cons.1 hu with rfl | hu
    ·exact b2
    ·exact a2 u hu
   ·rw [a3, b3]
    exact List.append_assoc _ _ _
  ·have e := h3 h (hi t (.head _))
   rw [k3 (by rw [e]) (fun u hu => hi u (.tail _ hu)), e]
   exact congrArg (fun x => (x, false, false)) (List.append_assoc _ _ _)
def zqq (m a : M) : Step → M
 | .row i fs => ⟨zdy a.c i (zaq m.c i fs.length), a.L⟩
 | .most => ⟨zdy a.c 7 (zaq m.c 7 1), a.L⟩
 | .lst j fs n => ⟨a.c, upL a.L j (m.L j)⟩
def copy (m : M) : M → List Step → M
 | a, [] => a
 | a, t :: ts => copy m (zqq m a t) ts
def okRun : List Nat → Bool → List Step → Prop
 | _, _, [] => True
 | l, h, .row i fs :: ts => zfk i fs = true ∧ okRun l (h || (decide (i ≤ 6) && decide (6 < i + fs.length))) ts
 | l, h, .most :: ts => h = true ∧ okRun l h ts
 | l, h, .lst j fs n :: ts => ((j, fs) ∈ zah ∧ n ≤ 64) ∧ j ∉ l ∧ okRun (j :: l) h ts
theorem okRun.step : ∀ {ts : List Step} {l : List Nat} {h : Bool}, okRun l h ts → ∀ t, t ∈ ts → zpc t
 | [], _, _, _, t, ht => nomatch ht
 | .row i fs :: ts, l, h, hk, t, ht => by
  rcases List.mem_cons.1 ht with rfl | ht
  ·exact hk.1
  ·exact okRun.step hk.2 t ht
 | .most :: ts, l, h, hk, t, ht => by
  rcases List.mem_cons.1 ht with rfl | ht
  ·trivial
  ·exact okRun.step hk.2 t ht
 | .lst j fs n :: ts, l, h, hk, t, ht => by
  rcases List.mem_cons.1 ht with rfl | ht
  ·exact hk.1
  ·exact okRun.step hk.2.2 t ht
theorem zhc {a m : M} (ha : zbh a) (hm : zbh m) (i n : Nat) : zbh ⟨zdy a.c i (zaq m.c i n), a.L⟩ := fun k hk => by
 show (zck k).fits (zdy a.c i (zaq m.c i n) k)
 rw [zlf]
 split
 ·exact hm k hk
 ·exact ha k hk
theorem run_e {g r q : Nat} {m : M} (hm : zbh m) : ∀ (ts : List Step) (l : List Nat) (h6 : Bool) (a : M), okRun l h6 ts → zbh a → (∀ j, j ∉ l → a.L j = []) → (h6 = true → a.c 6 = m.c 6) → (∀ t, t ∈ ts → zbv m t) → ∀ t : List Int,
   (zbc g r q).run (zdn m ts ++ t, false, false) a ts = ((t, false, false), copy m a ts)
 | [], l, h6, a, _, _, _, _, _, t => rfl
 | .row i fs :: ts, l, h6, a, ho, ha, hL, hc, hi, t => by
  have e0 : zdn m (.row i fs :: ts) ++ t = rowB fs (zaq m.c i fs.length) ++ (zdn m ts ++ t) := List.append_assoc _ _ _
  rw [e0]
  have e := zty (g := g) (r := r) (q := q) (zde ho.1 ha) (hi _ (.head _)) (zdn m ts ++ t)
  have k := run_e (g := g) (r := r) (q := q) hm ts l _ (zqq m a (.row i fs)) ho.2 (zhc ha hm i fs.length) hL (fun h => by
   show zdy a.c i (zaq m.c i fs.length) 6 = m.c 6
   rw [zlf]
   split
   ·rfl
   ·rename_i hn
    simp only [Bool.or_eq_true, Bool.and_eq_true, decide_eq_true_eq] at h
    rcases h with h | h
    ·exact hc h
    ·exact absurd h hn) (fun u hu => hi u (.tail _ hu)) t
  exact (congrArg (fun p : ISt × List Value => (zbc g r q).run p.1 ⟨zdy a.c i p.2, a.L⟩ ts) e).trans k
 | .most :: ts, l, h6, a, ho, ha, hL, hc, hi, t => by
  have h6' := hc ho.1
  have e0 : zdn m (.most :: ts) ++ t = rowB [.num (zgd (m.c 6)) 128] (zaq m.c 7 1) ++ (zdn m ts ++ t) := List.append_assoc _ _ _
  rw [e0]
  have e := zty (g := g) (r := r) (q := q) (zmq ha) (v0 := zaq a.c 7 1) (vs := zaq m.c 7 1) (fs := [.num (zgd (a.c 6)) 128]) (by rw [h6']; exact hi _ (.head _)) (zdn m ts ++ t)
  have k := run_e (g := g) (r := r) (q := q) hm ts l _ (zqq m a .most) ho.2 (zhc ha hm 7 1) hL (fun h => by
   show zdy a.c 7 (zaq m.c 7 1) 6 = m.c 6
   rw [zlf, if_neg (by omega)]
   exact h6') (fun u hu => hi u (.tail _ hu)) t
  have e1 : rowB [.num (zgd (m.c 6)) 128] (zaq m.c 7 1) = rowB [.num (zgd (a.c 6)) 128] (zaq m.c 7 1) := by rw [h6']
  rw [e1]
  exact (congrArg (fun p : ISt × List Value => (zbc g r q).run p.1 ⟨zdy a.c 7 p.2, a.L⟩ ts) e).trans k
 | .lst j fs n :: ts, l, h6, a, ho, ha, hL, hc, hi, t => by
  have e0 : zdn m (.lst j fs n :: ts) ++ t = zmp fs (m.L j) ++ (zdn m ts ++ t) := List.append_assoc _ _ _
  rw [e0]
  have e := list_e (g := g) (r := r) (q := q) (most := n) (fs := fs) (by have := ho.1.2; omega) (hi _ (.head _)) (zdn m ts ++ t)
  have k := run_e (g := g) (r := r) (q := q) hm ts (j :: l) h6 (zqq m a (.lst j fs n)) ho.2.2 ha (fun j' hj => by
   show upL a.L j (m.L j) j' = []
   unfold upL
   rw [if_neg (fun e => hj (by rw [e]; exact .head _))]
   exact hL j' (fun h => hj (.tail _ h))) hc (fun u hu => hi u (.tail _ hu)) t
  have e2 : a.L j = [] := hL j ho.2.1
  rw [← e2] at e
  exact (congrArg (fun p : ISt × List (List Value) => (zbc g r q).run p.1 ⟨a.c, upL a.L j p.2⟩ ts) e).trans k
def touch : Step → Nat → Bool
 | .row i fs, k => decide (i ≤ k) && decide (k < i + fs.length)
 | .most, k => k == 7
 | .lst _ _ _, _ => false
def zpd : Step → Nat → Bool
 | .lst j _ _, k => k == j
 | _, _ => false
def reach : Step → Nat → Bool
 | .most, k => k == 7 || k == 6
 | t, k => touch t k
def disj : List Step → Bool
 | [] => true
 | t :: ts => ((List.range 26).all fun k => (!(reach t k) || ts.all fun u => !(touch u k)) && (!(zpd t k) || ts.all fun u => !(zpd u k))) && disj ts
def zam (n : Int) : List Step := .row 0 [.num 1 10] :: zbu n
theorem zel : zbu 1 = [.row 1 [.num 0 4], .row 2 [.num 0 64], .lst 3 zak 8] := rfl
theorem zfe : zbu 2 = [.row 1 [.num 0 4], .row 2 [.num 0 64], .row 11 posF] := rfl
theorem zcu : zbu 3 = [.row 1 [.num 0 4], .row 2 [.num 0 64], .row 4 posF, .row 6 [.num 1 128], .most, .lst 8 zat 8, .lst 9 zau 8] := rfl
theorem zgc : zbu 4 = [.lst 10 zaj 64] := rfl
theorem zff : zbu 5 = [.row 1 [.num 0 4], .row 2 [.num 0 64], .row 11 posF, .row 13 [.flag]] := rfl
theorem zhd : zbu 6 = [.row 2 [.num 0 64]] := rfl
theorem zdr : zbu 7 = [.row 1 [.num 0 4], .row 2 [.num 0 64], .row 14 [.num 0 9007199254740992], .row 15 [.num 0 9007199254740992], .row 16 [.text 64], .row 19 posF] := rfl
theorem zdl : zbu 8 = [.row 1 [.num 0 4], .row 2 [.num 0 64], .row 14 [.num 0 9007199254740992], .row 15 [.num 0 9007199254740992], .row 16 [.text 64], .row 17 [.flag], .row 18 [.text 1024], .row 19 posF] := rfl
theorem zdc : zbu 9 = [.row 1 [.num 0 4], .row 2 [.num 0 64], .row 14 [.num 0 9007199254740992], .row 15 [.num 0 9007199254740992], .row 21 [.num 0 15], .row 22 zdm, .row 11 posF, .row 19 posF] := rfl
theorem zcq : zbu 10 = [.row 1 [.num 0 4], .row 2 [.num 0 64], .row 14 [.num 0 9007199254740992], .row 15 [.num 0 9007199254740992], .row 21 [.num 0 15], .row 4 posF, .row 19 posF] := rfl
theorem script_o {n : Int} (h : ¬ (1 ≤ n ∧ n ≤ 10)) : zbu n = [.row 1 [.num 0 4], .row 2 [.num 0 64]] := by
 unfold zbu zgt zal
 rw [if_neg (by omega), if_neg (by omega), if_neg (by omega), if_neg (by omega), if_neg (by omega), if_neg (by omega), if_neg (by omega), if_neg (by omega), if_neg (by omega), if_neg (by omega), if_neg (by omega)]
 rfl
theorem in_10 {n : Int} (h : 1 ≤ n ∧ n ≤ 10) : n = 1 ∨ n = 2 ∨ n = 3 ∨ n = 4 ∨ n = 5 ∨ n = 6 ∨ n = 7 ∨ n = 8 ∨ n = 9 ∨ n = 10 := by omega
theorem zub (n : Int) : okRun [] false (zam n) ∧ disj (zam n) = true := by
 unfold zam
 by_cases h : 1 ≤ n ∧ n ≤ 10
 ·rcases in_10 h with rfl | rfl | rfl | rfl | rfl | rfl | rfl | rfl | rfl | rfl
  ·rw [zel]; exact ⟨⟨rfl, rfl, rfl, ⟨by simp [zah], by decide⟩, by simp, trivial⟩, by decide⟩
  ·rw [zfe]; exact ⟨⟨rfl, rfl, rfl, rfl, trivial⟩, by decide⟩
  ·rw [zcu]; exact ⟨⟨rfl, rfl, rfl, rfl, rfl, rfl, ⟨by simp [zah], by decide⟩, by simp, ⟨by simp [zah], by decide⟩, by simp, trivial⟩, by decide⟩
  ·rw [zgc]; exact ⟨⟨rfl, ⟨by simp [zah], by decide⟩, by simp, trivial⟩, by decide⟩
  ·rw [zff]; exact ⟨⟨rfl, rfl, rfl, rfl, rfl, trivial⟩, by decide⟩
  ·rw [zhd]; exact ⟨⟨rfl, rfl, trivial⟩, by decide⟩
  ·rw [zdr]; exact ⟨⟨rfl, rfl, rfl, rfl, rfl, rfl, rfl, trivial⟩, by decide⟩
  ·rw [zdl]; exact ⟨⟨rfl, rfl, rfl, rfl, rfl, rfl, rfl, rfl, rfl, trivial⟩, by decide⟩
  ·rw [zdc]; exact ⟨⟨rfl, rfl, rfl, rfl, rfl, rfl, rfl, rfl, rfl, trivial⟩, by decide⟩
  ·rw [zcq]; exact ⟨⟨rfl, rfl, rfl, rfl, rfl, rfl, rfl, rfl, trivial⟩, by decide⟩
 ·rw [script_o h]; exact ⟨⟨rfl, rfl, rfl, trivial⟩, by decide⟩
theorem zpe (n : Int) : ∀ t, t ∈ zam n → zpc t := (zub n).1.step
def zlg (m : M) : Prop := (1 ≤ zbs m ∧ zbs m ≤ 10) ∧ ∀ t, t ∈ zam (zbs m) → zbv m t
theorem zuc {m : M} (ht : zbh m) : payS m = ((zar 0).run ([], false, false) m (zam (zbs m))).1 := by
 have h := (ztx (g := 0) (fs := [.num 1 10]) (vs := zaq m.c 0 1) ⟨ht 0 rfl, trivial⟩ ([], false, false)).1
 have e : ((zar 0).rowM ([], false, false) m 0 [.num 1 10]).2 = m := by
  show M.mk (zdy m.c 0 ((zar 0).row ([], false, false) [.num 1 10] (zaq m.c 0 1)).2) m.L = m
  rw [h, zfy]
 unfold payS Form.all zam
 show _ = ((zar 0).run ((zar 0).rowM ([], false, false) m 0 [.num 1 10]).1 ((zar 0).rowM ([], false, false) m 0 [.num 1 10]).2 (zbu (zbs m))).1
 rw [e]
theorem zud {m : M} (ht : zbh m) (hf : Fit m) : zgu m = true ↔ zlg m := by
 obtain ⟨_, h2, h3⟩ := run_w (g := 0) ht hf (zam (zbs m)) (zpe _) ([], false, false)
 unfold zgu zlg
 rw [zuc ht]
 simp only [Bool.and_eq_true, decide_eq_true_eq, Bool.not_eq_true']
 constructor
 ·rintro ⟨⟨h, a⟩, b⟩
  exact ⟨h, (h2 (Prod.ext a b)).2.1⟩
 ·rintro ⟨h, hi⟩
  have e := h3 rfl hi
  rw [e]
  exact ⟨⟨h, rfl⟩, rfl⟩
theorem pay_eq {m : M} (ht : zbh m) (hf : Fit m) (h : zlg m) : payB m = zdn m (zam (zbs m)) := by
 unfold payB
 rw [zuc ht, (run_w (g := 0) ht hf (zam (zbs m)) (zpe _) ([], false, false)).2.2 rfl h.2]
 rfl
def zbx (m : M) : M := copy m zcn (zam (zbs m))
theorem rd_pay {m : M} (ht : zbh m) (hf : Fit m) (h : zlg m) : rdR (payB m) = (([], false, false), zbx m) := by
 have hp := pay_eq ht hf h
 have e0 : zdn m (zam (zbs m)) = rowB [.num 1 10] (zaq m.c 0 1) ++ zdn m (zbu (zbs m)) := rfl
 have hr := zty (g := 0) (r := 0) (q := 0) (fs := [.num 1 10]) (vs := zaq m.c 0 1) (v0 := zaq zdu 0 1) ⟨zea 0 rfl, trivial⟩ (h.2 _ (.head _)) (zdn m (zbu (zbs m)))
 have hk : zbs ((zbc 0 0 0).rowM (payB m, false, false) zcn 0 [.num 1 10]).2 = zbs m := by
  rw [hp, e0]
  have : ((zbc 0 0 0).rowM (rowB [.num 1 10] (zaq m.c 0 1) ++ zdn m (zbu (zbs m)), false, false) zcn 0 [.num 1 10]).2 = ⟨zdy zdu 0 (zaq m.c 0 1), fun _ => []⟩ := congrArg (fun p : ISt × List Value => M.mk (zdy zdu 0 p.2) (fun _ => [])) hr
  rw [this]
  rfl
 have hrun := run_e (g := 0) (r := 0) (q := 0) ht (zam (zbs m)) [] false zcn (zub _).1 zea (fun _ _ => rfl) (fun h => by cases h) h.2 []
 rw [List.append_nil, ← hp] at hrun
 unfold rdR Form.all
 rw [hk]
 exact hrun
theorem zmr {m : M} (ht : zbh m) (hf : Fit m) : zdk m ↔ zlg m ∧ MEq m (zbx m) := by
 unfold zdk
 rw [zud ht hf]
 constructor
 ·rintro ⟨h1, h2, h3⟩
  refine ⟨h1, ?_⟩
  have e := rd_pay ht hf h1
  unfold rdM at h3
  rw [e] at h3
  exact h3
 ·rintro ⟨h1, h3⟩
  have e := rd_pay ht hf h1
  refine ⟨h1, ?_, ?_⟩
  ·unfold rdOk
   rw [e]
   rfl
  ·unfold rdM
   rw [e]
   exact h3
end Go.Proofs.Ytcbehfbfaonanaa.Wr
end
