/- Part 17 of the texts that walk the program and tell its laws, joined in the order of their building. No conditions. -/
import Derived.Test.YtcbehfbfaonanaaJw15
set_option maxRecDepth 100000
set_option maxHeartbeats 16000000
section
namespace Go.Proofs.Ytcbehfbfaonanaa.Wr
open Go.RowKit Go.Proofs.YtcbehfbfaonanaaW.PrintWords Go.Proofs.YtcbehfbfaonanaaW.PrintLast Go.Proofs.YtcbehfbfaonanaaW.PrintMore Go.Proofs.Ytcbehfbfaonanaa.Pk
set_option linter.unusedVariables false
set_option linter.unusedSimpArgs false
theorem r3 (w : World) (g : Nat) (f : Nat → Value) (x : Nat → Int) (s : Nat → ByteArray) (p : Nat → Bool) (A : Nat → Option Addr) (n c : Nat → Nat) (K : Exit → Act → World → Prop)  (HX : Aside0 (w.heap[g]? = some (.cells (cX x s p (fun j => .slice (A j) (n j) (c j))) 32 (0, 0))))  (b0 b1 b2 b3 b4 : Bool) (hC0 : decide ((8 : Int) < ((n 3 : Nat) : Int)) = b0) (hC1 : decide ((8 : Int) < ((n 8 : Nat) : Int)) = b1) (hC2 : decide ((8 : Int) < ((n 9 : Nat) : Int)) = b2) (hC3 : decide ((64 : Int) < ((n 10 : Nat) : Int)) = b3) (HI4 : Aside0 (∀ W : World, Calls Try.prog 47 #[.int .i64 (x 21), .int .i64 0, .int .i64 15] W (fun e w' => e = .returned (.bool b4) ∧ Drawn0 W w')))
  (hno : ¬ (b0 = false ∧ b1 = false ∧ b2 = false ∧ b3 = false ∧ b4 = true) → ∀ a w', RFr 247 g a → a.tmps[2]? = some (.bool false) → Below w.heap.size w w' → K .ret a w') (hyes : b0 = false ∧ b1 = false ∧ b2 = false ∧ b3 = false ∧ b4 = true → ∀ a w', RFr 247 g a → Below w.heap.size w w' → K .normal a w') : Code.wp Try.prog (cl rb3) K (rfr g f) w := by
 have HB := aK (Below.refl w.heap.size w)
 unfold rfr
 obtain rfl | rfl : b0 = true ∨ b0 = false := (by cases b0 <;> simp)
 rotate_left
 obtain rfl | rfl : b1 = true ∨ b1 = false := (by cases b1 <;> simp)
 rotate_left
 obtain rfl | rfl : b2 = true ∨ b2 = false := (by cases b2 <;> simp)
 rotate_left
 obtain rfl | rfl : b3 = true ∨ b3 = false := (by cases b3 <;> simp)
 rotate_left
 cases b4; rotate_left
 all_goals
  conv => arg 2; whnf
  go_wp2_with (first | ((with_reducible refine zae [48] (by decide) ?_); refine ld (T := 22) (g := g) (v := .slice _ _ _) rfl rfl HX.out rfl rfl TuE rfl ?_) | ((with_reducible refine zae [53] (by decide) ?_); refine ld (T := 25) (g := g) (v := .slice _ _ _) rfl rfl HX.out rfl rfl TuP rfl ?_) | ((with_reducible refine zae [59] (by decide) ?_); refine ld (T := 26) (g := g) (v := .slice _ _ _) rfl rfl HX.out rfl rfl TuS rfl ?_) | ((with_reducible refine zae [65] (by decide) ?_); refine ld (T := 27) (g := g) (v := .slice _ _ _) rfl rfl HX.out rfl rfl TuT rfl ?_) | ((with_reducible refine zae [71] (by decide) ?_); refine ld (T := 28) (g := g) (v := .int .i64 _) rfl rfl HX.out rfl rfl TuN rfl ?_) | (go_at_call 47; (with_reducible refine (HI4.out _).mono ?_); rintro e wn ⟨rfl, hD⟩; have HX := aK (dblk hD HX.out); have HB := aK (HB.out.trans (hD.below.mono HB.out.size)); clear hD))
  first | exact hyes (by simp) _ _ ⟨rfl, rfl, rfl⟩ HB.out | exact hno (by simp) _ _ ⟨rfl, rfl, rfl⟩ rfl HB.out
theorem r5 (w : World) (g : Nat) (f : Nat → Value) (x : Nat → Int) (s : Nat → ByteArray) (p : Nat → Bool) (A : Nat → Option Addr) (n c : Nat → Nat) (K : Exit → Act → World → Prop)  (HX : Aside0 (w.heap[g]? = some (.cells (cX x s p (fun j => .slice (A j) (n j) (c j))) 32 (0, 0))))  (b0 b1 b2 : Bool) (hC0 : (x 0 == 3) = b0) (HI1 : Aside0 (∀ W : World, Calls Try.prog 47 #[.int .i64 (x 7), .int .i64 1, .int .i64 128] W (fun e w' => e = .returned (.bool b1) ∧ Drawn0 W w'))) (HI2 : Aside0 (∀ W : World, Calls Try.prog 47 #[.int .i64 (x 6), .int .i64 1, .int .i64 (x 7)] W (fun e w' => e = .returned (.bool b2) ∧ Drawn0 W w')))
  (hno : ¬ (b0 = true → b1 = true ∧ b2 = true) → ∀ a w', RFr 247 g a → a.tmps[2]? = some (.bool false) → Below w.heap.size w w' → K .ret a w') (hyes : (b0 = true → b1 = true ∧ b2 = true) → ∀ a w', RFr 247 g a → Below w.heap.size w w' → K .normal a w') : Code.wp Try.prog (cl rb5) K (rfr g f) w := by
 have HB := aK (Below.refl w.heap.size w)
 unfold rfr
 cases b0
 rotate_left
 cases b1; rotate_left
 cases b2; rotate_left
 all_goals
  conv => arg 2; whnf
  go_wp2_with (first | ((with_reducible refine zae [76, 80, 85, 87] (by decide) ?_); refine ld (T := 3) (g := g) (v := .int .i64 _) rfl rfl HX.out rfl rfl TuI rfl ?_) | (go_at_call 47; (with_reducible refine (HI1.out _).mono ?_); rintro e wn ⟨rfl, hD⟩; have HX := aK (dblk hD HX.out); have HB := aK (HB.out.trans (hD.below.mono HB.out.size)); clear hD) | (go_at_call 47; (with_reducible refine (HI2.out _).mono ?_); rintro e wn ⟨rfl, hD⟩; have HX := aK (dblk hD HX.out); have HB := aK (HB.out.trans (hD.below.mono HB.out.size)); clear hD))
  first | exact hyes (by simp) _ _ ⟨rfl, rfl, rfl⟩ HB.out | exact hno (by simp) _ _ ⟨rfl, rfl, rfl⟩ rfl HB.out
theorem r7 (w : World) (g : Nat) (f : Nat → Value) (x : Nat → Int) (s : Nat → ByteArray) (p : Nat → Bool) (A : Nat → Option Addr) (n c : Nat → Nat) (K : Exit → Act → World → Prop)  (HX : Aside0 (w.heap[g]? = some (.cells (cX x s p (fun j => .slice (A j) (n j) (c j))) 32 (0, 0))))  (b0 b1 b2 b3 b4 : Bool) (HI0 : Aside0 (∀ W : World, Calls Try.prog 47 #[.int .i64 (x 14), .int .i64 0, .int .i64 9007199254740992] W (fun e w' => e = .returned (.bool b0) ∧ Drawn0 W w'))) (HI1 : Aside0 (∀ W : World, Calls Try.prog 47 #[.int .i64 (x 15), .int .i64 0, .int .i64 9007199254740992] W (fun e w' => e = .returned (.bool b1) ∧ Drawn0 W w'))) (hC2 : decide ((64 : Int) < (((s 16).size : Nat) : Int)) = b2) (hC3 : decide ((1024 : Int) < (((s 18).size : Nat) : Int)) = b3) (hC4 : decide ((1024 : Int) < (((s 25).size : Nat) : Int)) = b4)
  (hno : ¬ (b0 = true ∧ b1 = true ∧ b2 = false ∧ b3 = false ∧ b4 = false) → ∀ a w', RFr 247 g a → a.tmps[2]? = some (.bool false) → Below w.heap.size w w' → K .ret a w') (hyes : b0 = true ∧ b1 = true ∧ b2 = false ∧ b3 = false ∧ b4 = false → ∀ a w', RFr 247 g a → Below w.heap.size w w' → K .normal a w') : Code.wp Try.prog (cl rb7) K (rfr g f) w := by
 have HB := aK (Below.refl w.heap.size w)
 unfold rfr
 cases b0; rotate_left
 cases b1; rotate_left
 obtain rfl | rfl : b2 = true ∨ b2 = false := (by cases b2 <;> simp)
 rotate_left
 obtain rfl | rfl : b3 = true ∨ b3 = false := (by cases b3 <;> simp)
 rotate_left
 obtain rfl | rfl : b4 = true ∨ b4 = false := (by cases b4 <;> simp)
 rotate_left
 all_goals
  conv => arg 2; whnf
  go_wp2_with (first | ((with_reducible refine zae [93, 98] (by decide) ?_); refine ld (T := 3) (g := g) (v := .int .i64 _) rfl rfl HX.out rfl rfl TuI rfl ?_) | ((with_reducible refine zae [104, 110, 117] (by decide) ?_); refine ld (T := 9) (g := g) (v := .string _) rfl rfl HX.out rfl rfl TuX rfl ?_) | (go_at_call 47; (with_reducible refine (HI0.out _).mono ?_); rintro e wn ⟨rfl, hD⟩; have HX := aK (dblk hD HX.out); have HB := aK (HB.out.trans (hD.below.mono HB.out.size)); clear hD) | (go_at_call 47; (with_reducible refine (HI1.out _).mono ?_); rintro e wn ⟨rfl, hD⟩; have HX := aK (dblk hD HX.out); have HB := aK (HB.out.trans (hD.below.mono HB.out.size)); clear hD))
  first | exact hyes (by simp) _ _ ⟨rfl, rfl, rfl⟩ HB.out | exact hno (by simp) _ _ ⟨rfl, rfl, rfl⟩ rfl HB.out
end Go.Proofs.Ytcbehfbfaonanaa.Wr
end
