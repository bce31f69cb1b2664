/- Part 6 of the texts that walk the program and tell its laws, joined in the order of their building. No conditions. -/
import Derived.Test.YtcbehfbfaonanaaJw2
set_option maxRecDepth 100000
set_option maxHeartbeats 16000000
section
namespace Go.Proofs.Ytcbehfbfaonanaa.Wr
open Go.RowKit Go.Proofs.YtcbehfbfaonanaaW.PrintWords Go.Proofs.YtcbehfbfaonanaaW.PrintLast Go.Proofs.YtcbehfbfaonanaaW.PrintMore Go.Proofs.Ytcbehfbfaonanaa.Pk
set_option linter.unusedVariables false
set_option linter.unusedSimpArgs false
def MEq (a b : M) : Prop := (∀ i, scalar i = true → a.c i = b.c i) ∧ ∀ j fs, (j, fs) ∈ zah → a.L j = b.L j
def zgj (p : Prop) (w : World) (e : Ending) (w' : World) : Prop := ∃ r, e = .returned (.bool r) ∧ (r = true ↔ p) ∧ Below w.heap.size w w'
structure St (n : Nat) (a : Act) (g1 g2 : Nat) : Prop where
 size : a.tmps.size = n
 h2 : Has a 2 (.pointer (some ⟨g1, 0, none⟩))
 h3 : Has a 3 (.pointer (some ⟨g2, 0, none⟩))
 defers : a.defers = []
theorem St.step {n d g1 g2 : Nat} {a a' : Act} (h : St n a g1 g2) (hf : Fr n d a a') (hd : 3 < d) : St n a' g1 g2 := ⟨hf.size, hf.old 2 _ (by omega) h.h2, hf.old 3 _ hd h.h3, hf.defers.trans h.defers⟩
theorem wp_frame {P : Program} {ops : Array Oper} {Q : Exit → Act → World → Prop} {l : List Oper} {a : Act} {W : World} {n g1 g2 : Nat} (h0 : St n a g1 g2) (h : ∀ a, St n a g1 g2 → wpList P ops Q l a W) : wpList P ops Q l a W := h a h0
theorem zqh {c d : Nat → Value} {i : Nat} (hi : scalar i = true) (h : c 0 = d 0 ∧ c 1 = d 1 ∧ c 2 = d 2 ∧ c 4 = d 4 ∧ c 5 = d 5 ∧ c 6 = d 6 ∧ c 7 = d 7 ∧ c 11 = d 11 ∧ c 12 = d 12 ∧ c 13 = d 13 ∧ c 14 = d 14 ∧ c 15 = d 15 ∧ c 16 = d 16 ∧ c 17 = d 17 ∧ c 18 = d 18 ∧ c 19 = d 19 ∧ c 20 = d 20 ∧ c 21 = d 21 ∧ c 22 = d 22 ∧ c 23 = d 23 ∧ c 24 = d 24 ∧ c 25 = d 25) : c i = d i := by
 obtain ⟨h0, h1, h2, h4, h5, h6, h7, h11, h12, h13, h14, h15, h16, h17, h18, h19, h20, h21, h22, h23, h24, h25⟩ := h
 have hlt : i < 26 := by unfold scalar at hi; simp only [Bool.and_eq_true, decide_eq_true_eq] at hi; exact hi.1
 have n3 : i ≠ 3 := fun e => by subst e; cases hi
 have n8 : i ≠ 8 := fun e => by subst e; cases hi
 have n9 : i ≠ 9 := fun e => by subst e; cases hi
 have n10 : i ≠ 10 := fun e => by subst e; cases hi
 have : i = 0 ∨ i = 1 ∨ i = 2 ∨ i = 4 ∨ i = 5 ∨ i = 6 ∨ i = 7 ∨ i = 11 ∨ i = 12 ∨ i = 13 ∨ i = 14 ∨ i = 15 ∨ i = 16 ∨ i = 17 ∨ i = 18 ∨ i = 19 ∨ i = 20 ∨ i = 21 ∨ i = 22 ∨ i = 23 ∨ i = 24 ∨ i = 25 := by omega
 rcases this with rfl | rfl | rfl | rfl | rfl | rfl | rfl | rfl | rfl | rfl | rfl | rfl | rfl | rfl | rfl | rfl | rfl | rfl | rfl | rfl | rfl | rfl <;> assumption
attribute [local go_sem high] zeo zds in
theorem zgb (w : World) (va vb : Value) (a b : M) (sa sb : Nat → Value) (ha : MsgRd w va a sa) (hb : MsgRd w vb b sb) (hsa : ∀ j, (a.L j).length ≤ 1048576) (hsb : ∀ j, (b.L j).length ≤ 1048576) :
  Calls Try.prog 17 #[va, vb] w (zgj (MEq a b) w) := by
 obtain ⟨ea, ta, fa, ra⟩ := ha
 obtain ⟨eb, tb, fb, rb⟩ := hb
 obtain ⟨x0, e0⟩ := ta 0 rfl
 obtain ⟨y0, g0⟩ := tb 0 rfl
 obtain ⟨x1, e1⟩ := ta 1 rfl
 obtain ⟨y1, g1⟩ := tb 1 rfl
 obtain ⟨x2, e2⟩ := ta 2 rfl
 obtain ⟨y2, g2⟩ := tb 2 rfl
 obtain ⟨x4, e4⟩ := ta 4 rfl
 obtain ⟨y4, g4⟩ := tb 4 rfl
 obtain ⟨x5, e5⟩ := ta 5 rfl
 obtain ⟨y5, g5⟩ := tb 5 rfl
 obtain ⟨x6, e6⟩ := ta 6 rfl
 obtain ⟨y6, g6⟩ := tb 6 rfl
 obtain ⟨x7, e7⟩ := ta 7 rfl
 obtain ⟨y7, g7⟩ := tb 7 rfl
 obtain ⟨x11, e11⟩ := ta 11 rfl
 obtain ⟨y11, g11⟩ := tb 11 rfl
 obtain ⟨x12, e12⟩ := ta 12 rfl
 obtain ⟨y12, g12⟩ := tb 12 rfl
 obtain ⟨x13, e13⟩ := ta 13 rfl
 obtain ⟨y13, g13⟩ := tb 13 rfl
 obtain ⟨x14, e14⟩ := ta 14 rfl
 obtain ⟨y14, g14⟩ := tb 14 rfl
 obtain ⟨x15, e15⟩ := ta 15 rfl
 obtain ⟨y15, g15⟩ := tb 15 rfl
 obtain ⟨x16, e16⟩ := ta 16 rfl
 obtain ⟨y16, g16⟩ := tb 16 rfl
 obtain ⟨x17, e17⟩ := ta 17 rfl
 obtain ⟨y17, g17⟩ := tb 17 rfl
 obtain ⟨x18, e18⟩ := ta 18 rfl
 obtain ⟨y18, g18⟩ := tb 18 rfl
 obtain ⟨x19, e19⟩ := ta 19 rfl
 obtain ⟨y19, g19⟩ := tb 19 rfl
 obtain ⟨x20, e20⟩ := ta 20 rfl
 obtain ⟨y20, g20⟩ := tb 20 rfl
 obtain ⟨x21, e21⟩ := ta 21 rfl
 obtain ⟨y21, g21⟩ := tb 21 rfl
 obtain ⟨x22, e22⟩ := ta 22 rfl
 obtain ⟨y22, g22⟩ := tb 22 rfl
 obtain ⟨x23, e23⟩ := ta 23 rfl
 obtain ⟨y23, g23⟩ := tb 23 rfl
 obtain ⟨x24, e24⟩ := ta 24 rfl
 obtain ⟨y24, g24⟩ := tb 24 rfl
 obtain ⟨x25, e25⟩ := ta 25 rfl
 obtain ⟨y25, g25⟩ := tb 25 rfl
 have p3 := ra 3 zak (by simp [zah])
 have q3 := rb 3 zak (by simp [zah])
 have P3 := aK p3
 have Q3 := aK q3
 obtain ⟨A3, c3, s3, _⟩ := p3
 obtain ⟨B3, d3, t3, _⟩ := q3
 rw [s3] at P3
 rw [t3] at Q3
 have HC3 := aK (fun (W : World) (hB : Below w.heap.size w W) => zmg W A3 B3 c3 d3 (a.L 3) (b.L 3) (P3.out.below (by simp [zak]) (fitl fa (by simp [zah])) hB) (Q3.out.below (by simp [zak]) (fitl fb (by simp [zah])) hB) (fa 3 zak (by simp [zah])) (fb 3 zak (by simp [zah])) (hsa 3) (hsb 3))
 have p8 := ra 8 zat (by simp [zah])
 have q8 := rb 8 zat (by simp [zah])
 have P8 := aK p8
 have Q8 := aK q8
 obtain ⟨A8, c8, s8, _⟩ := p8
 obtain ⟨B8, d8, t8, _⟩ := q8
 rw [s8] at P8
 rw [t8] at Q8
 have HC8 := aK (fun (W : World) (hB : Below w.heap.size w W) => znl W A8 B8 c8 d8 (a.L 8) (b.L 8) (P8.out.below (by simp [zat]) (fitl fa (by simp [zah])) hB) (Q8.out.below (by simp [zat]) (fitl fb (by simp [zah])) hB) (fa 8 zat (by simp [zah])) (fb 8 zat (by simp [zah])) (hsa 8) (hsb 8))
 have p9 := ra 9 zau (by simp [zah])
 have q9 := rb 9 zau (by simp [zah])
 have P9 := aK p9
 have Q9 := aK q9
 obtain ⟨A9, c9, s9, _⟩ := p9
 obtain ⟨B9, d9, t9, _⟩ := q9
 rw [s9] at P9
 rw [t9] at Q9
 have HC9 := aK (fun (W : World) (hB : Below w.heap.size w W) => znm W A9 B9 c9 d9 (a.L 9) (b.L 9) (P9.out.below (by simp [zau]) (fitl fa (by simp [zah])) hB) (Q9.out.below (by simp [zau]) (fitl fb (by simp [zah])) hB) (fa 9 zau (by simp [zah])) (fb 9 zau (by simp [zah])) (hsa 9) (hsb 9))
 have p10 := ra 10 zaj (by simp [zah])
 have q10 := rb 10 zaj (by simp [zah])
 have P10 := aK p10
 have Q10 := aK q10
 obtain ⟨A10, c10, s10, _⟩ := p10
 obtain ⟨B10, d10, t10, _⟩ := q10
 rw [s10] at P10
 rw [t10] at Q10
 have HC10 := aK (fun (W : World) (hB : Below w.heap.size w W) => zmh W A10 B10 c10 d10 (a.L 10) (b.L 10) (P10.out.below (by simp [zaj]) (fitl fa (by simp [zah])) hB) (Q10.out.below (by simp [zaj]) (fitl fb (by simp [zah])) hB) (fa 10 zaj (by simp [zah])) (fb 10 zaj (by simp [zah])) (hsa 10) (hsb 10))
 have HEQ := aK (show MEq a b ↔ ((x0 == y0) = true ∧ (x1 == y1) = true ∧ (x2 == y2) = true ∧ (x4 == y4 && (x5 == y5)) = true ∧ (x6 == y6) = true ∧ (x7 == y7) = true ∧ (x11 == y11 && (x12 == y12)) = true ∧ (x13 == y13) = true ∧ (x14 == y14) = true ∧ (x15 == y15) = true ∧ (x16.toList == y16.toList) = true ∧ (x17 == y17) = true ∧ (x18.toList == y18.toList) = true ∧ (x19 == y19 && (x20 == y20)) = true ∧ (x21 == y21) = true ∧ ((x22 == y22 && (x23 == y23)) && (x24 == y24 && (x25.toList == y25.toList))) = true) ∧ a.L 3 = b.L 3 ∧ a.L 8 = b.L 8 ∧ a.L 9 = b.L 9 ∧ a.L 10 = b.L 10 from by
  constructor
  ·intro h
   have k0 := h.1 0 rfl
   rw [e0, g0] at k0
   simp only [Value.int.injEq, Value.string.injEq, Value.bool.injEq, true_and] at k0
   have k1 := h.1 1 rfl
   rw [e1, g1] at k1
   simp only [Value.int.injEq, Value.string.injEq, Value.bool.injEq, true_and] at k1
   have k2 := h.1 2 rfl
   rw [e2, g2] at k2
   simp only [Value.int.injEq, Value.string.injEq, Value.bool.injEq, true_and] at k2
   have k4 := h.1 4 rfl
   rw [e4, g4] at k4
   simp only [Value.int.injEq, Value.string.injEq, Value.bool.injEq, true_and] at k4
   have k5 := h.1 5 rfl
   rw [e5, g5] at k5
   simp only [Value.int.injEq, Value.string.injEq, Value.bool.injEq, true_and] at k5
   have k6 := h.1 6 rfl
   rw [e6, g6] at k6
   simp only [Value.int.injEq, Value.string.injEq, Value.bool.injEq, true_and] at k6
   have k7 := h.1 7 rfl
   rw [e7, g7] at k7
   simp only [Value.int.injEq, Value.string.injEq, Value.bool.injEq, true_and] at k7
   have k11 := h.1 11 rfl
   rw [e11, g11] at k11
   simp only [Value.int.injEq, Value.string.injEq, Value.bool.injEq, true_and] at k11
   have k12 := h.1 12 rfl
   rw [e12, g12] at k12
   simp only [Value.int.injEq, Value.string.injEq, Value.bool.injEq, true_and] at k12
   have k13 := h.1 13 rfl
   rw [e13, g13] at k13
   simp only [Value.int.injEq, Value.string.injEq, Value.bool.injEq, true_and] at k13
   have k14 := h.1 14 rfl
   rw [e14, g14] at k14
   simp only [Value.int.injEq, Value.string.injEq, Value.bool.injEq, true_and] at k14
   have k15 := h.1 15 rfl
   rw [e15, g15] at k15
   simp only [Value.int.injEq, Value.string.injEq, Value.bool.injEq, true_and] at k15
   have k16 := h.1 16 rfl
   rw [e16, g16] at k16
   simp only [Value.int.injEq, Value.string.injEq, Value.bool.injEq, true_and] at k16
   have k17 := h.1 17 rfl
   rw [e17, g17] at k17
   simp only [Value.int.injEq, Value.string.injEq, Value.bool.injEq, true_and] at k17
   have k18 := h.1 18 rfl
   rw [e18, g18] at k18
   simp only [Value.int.injEq, Value.string.injEq, Value.bool.injEq, true_and] at k18
   have k19 := h.1 19 rfl
   rw [e19, g19] at k19
   simp only [Value.int.injEq, Value.string.injEq, Value.bool.injEq, true_and] at k19
   have k20 := h.1 20 rfl
   rw [e20, g20] at k20
   simp only [Value.int.injEq, Value.string.injEq, Value.bool.injEq, true_and] at k20
   have k21 := h.1 21 rfl
   rw [e21, g21] at k21
   simp only [Value.int.injEq, Value.string.injEq, Value.bool.injEq, true_and] at k21
   have k22 := h.1 22 rfl
   rw [e22, g22] at k22
   simp only [Value.int.injEq, Value.string.injEq, Value.bool.injEq, true_and] at k22
   have k23 := h.1 23 rfl
   rw [e23, g23] at k23
   simp only [Value.int.injEq, Value.string.injEq, Value.bool.injEq, true_and] at k23
   have k24 := h.1 24 rfl
   rw [e24, g24] at k24
   simp only [Value.int.injEq, Value.string.injEq, Value.bool.injEq, true_and] at k24
   have k25 := h.1 25 rfl
   rw [e25, g25] at k25
   simp only [Value.int.injEq, Value.string.injEq, Value.bool.injEq, true_and] at k25
   refine ⟨⟨by simp [k0], by simp [k1], by simp [k2], by simp [k4, k5], by simp [k6], by simp [k7], by simp [k11, k12], by simp [k13], by simp [k14], by simp [k15], by simp [k16], by simp [k17], by simp [k18], by simp [k19, k20], by simp [k21], by simp [k22, k23, k24, k25]⟩, h.2 3 zak (by simp [zah]), h.2 8 zat (by simp [zah]), h.2 9 zau (by simp [zah]), h.2 10 zaj (by simp [zah])⟩
  ·rintro ⟨⟨k0, k1, k2, k3, k4, k5, k6, k7, k8, k9, k10, k11, k12, k13, k14, k15⟩, h3, h8, h9, h10⟩
   have z0 : x0 = y0 := by simpa using k0
   have z1 : x1 = y1 := by simpa using k1
   have z2 : x2 = y2 := by simpa using k2
   obtain ⟨z4, z5⟩ : x4 = y4 ∧ x5 = y5 := by simpa [and_assoc] using k3
   have z6 : x6 = y6 := by simpa using k4
   have z7 : x7 = y7 := by simpa using k5
   obtain ⟨z11, z12⟩ : x11 = y11 ∧ x12 = y12 := by simpa [and_assoc] using k6
   have z13 : x13 = y13 := by simpa using k7
   have z14 : x14 = y14 := by simpa using k8
   have z15 : x15 = y15 := by simpa using k9
   have z16 : x16.toList = y16.toList := by simpa using k10
   have z17 : x17 = y17 := by simpa using k11
   have z18 : x18.toList = y18.toList := by simpa using k12
   obtain ⟨z19, z20⟩ : x19 = y19 ∧ x20 = y20 := by simpa [and_assoc] using k13
   have z21 : x21 = y21 := by simpa using k14
   obtain ⟨z22, z23, z24, z25⟩ : x22 = y22 ∧ x23 = y23 ∧ x24 = y24 ∧ x25.toList = y25.toList := by simpa [and_assoc] using k15
   refine ⟨fun i hi => zqh hi ⟨by rw [e0, g0, z0], by rw [e1, g1, z1], by rw [e2, g2, z2], by rw [e4, g4, z4], by rw [e5, g5, z5], by rw [e6, g6, z6], by rw [e7, g7, z7], by rw [e11, g11, z11], by rw [e12, g12, z12], by rw [e13, g13, z13], by rw [e14, g14, z14], by rw [e15, g15, z15], by rw [e16, g16, zbo z16], by rw [e17, g17, z17], by rw [e18, g18, zbo z18], by rw [e19, g19, z19], by rw [e20, g20, z20], by rw [e21, g21, z21], by rw [e22, g22, z22], by rw [e23, g23, z23], by rw [e24, g24, z24], by rw [e25, g25, zbo z25]⟩, fun j fs hj => ?_⟩
   simp only [zah, List.mem_cons, Prod.mk.injEq, List.not_mem_nil, or_false] at hj
   rcases hj with ⟨rfl, _⟩ | ⟨rfl, _⟩ | ⟨rfl, _⟩ | ⟨rfl, _⟩
   ·exact h3
   ·exact h8
   ·exact h9
   ·exact h10)
 have ea' : va = .agg #[.int .i64 x0, .int .i64 x1, .int .i64 x2, .slice A3 (a.L 3).length c3, .int .i64 x4, .int .i64 x5, .int .i64 x6, .int .i64 x7, .slice A8 (a.L 8).length c8, .slice A9 (a.L 9).length c9, .slice A10 (a.L 10).length c10, .int .i64 x11, .int .i64 x12, .bool x13, .int .i64 x14, .int .i64 x15, .string x16, .bool x17, .string x18, .int .i64 x19, .int .i64 x20, .int .i64 x21, .int .i64 x22, .int .i64 x23, .bool x24, .string x25] := by rw [ea]; simp only [msgV, msgC, e0, e1, e2, e4, e5, e6, e7, e11, e12, e13, e14, e15, e16, e17, e18, e19, e20, e21, e22, e23, e24, e25, s3, s8, s9, s10]
 have eb' : vb = .agg #[.int .i64 y0, .int .i64 y1, .int .i64 y2, .slice B3 (b.L 3).length d3, .int .i64 y4, .int .i64 y5, .int .i64 y6, .int .i64 y7, .slice B8 (b.L 8).length d8, .slice B9 (b.L 9).length d9, .slice B10 (b.L 10).length d10, .int .i64 y11, .int .i64 y12, .bool y13, .int .i64 y14, .int .i64 y15, .string y16, .bool y17, .string y18, .int .i64 y19, .int .i64 y20, .int .i64 y21, .int .i64 y22, .int .i64 y23, .bool y24, .string y25] := by rw [eb]; simp only [msgV, msgC, g0, g1, g2, g4, g5, g6, g7, g11, g12, g13, g14, g15, g16, g17, g18, g19, g20, g21, g22, g23, g24, g25, t3, t8, t9, t10]
 rw [ea', eb']
 clear ea eb ea' eb' ta tb fa fb ra rb hsa hsb e0 g0 e1 g1 e2 g2 e4 g4 e5 g5 e6 g6 e7 g7 e11 g11 e12 g12 e13 g13 e14 g14 e15 g15 e16 g16 e17 g17 e18 g18 e19 g19 e20 g20 e21 g21 e22 g22 e23 g23 e24 g24 e25 g25 s3 t3 P3 Q3 s8 t8 P8 Q8 s9 t9 P9 Q9 s10 t10 P10 Q10
 go_enter Try.func17, Try.ntmps17
 go_upto_region 1 with (first | ((with_reducible refine zag (N := 2) rfl ?_); refine zbf rfl 35 (.tmp 0) rfl #[.int .i64 x0, .int .i64 x1, .int .i64 x2, .slice A3 (a.L 3).length c3, .int .i64 x4, .int .i64 x5, .int .i64 x6, .int .i64 x7, .slice A8 (a.L 8).length c8, .slice A9 (a.L 9).length c9, .slice A10 (a.L 10).length c10, .int .i64 x11, .int .i64 x12, .bool x13, .int .i64 x14, .int .i64 x15, .string x16, .bool x17, .string x18, .int .i64 x19, .int .i64 x20, .int .i64 x21, .int .i64 x22, .int .i64 x23, .bool x24, .string x25] rfl ?_; intro g1 w1 hg hbox hb1; have HB1 := aK hb1; have HX0 := aK hbox; clear hb1 hg hbox) | ((with_reducible refine zag (N := 3) rfl ?_); refine zbf rfl 35 (.tmp 1) rfl #[.int .i64 y0, .int .i64 y1, .int .i64 y2, .slice B3 (b.L 3).length d3, .int .i64 y4, .int .i64 y5, .int .i64 y6, .int .i64 y7, .slice B8 (b.L 8).length d8, .slice B9 (b.L 9).length d9, .slice B10 (b.L 10).length d10, .int .i64 y11, .int .i64 y12, .bool y13, .int .i64 y14, .int .i64 y15, .string y16, .bool y17, .string y18, .int .i64 y19, .int .i64 y20, .int .i64 y21, .int .i64 y22, .int .i64 y23, .bool y24, .string y25] rfl ?_; intro g2 w2 hg hbox hb1; have HX1 := aK ((hb1.block g1 (zad HX0.out)).trans HX0.out); have HX2 := aK hbox; have HBW := aK (HB1.out.trans (hb1.mono HB1.out.size)); clear hb1 hg hbox HX0 HB1))
 refine wp_region_lit ?_
 refine wp_frame (n := 143) (g1 := g1) (g2 := g2) ⟨rfl, rfl, rfl, rfl⟩ ?_
 intro a0 S0
 have q0 := zab HX1.out 0
 simp only [List.getElem?_toArray, List.getElem?_cons_zero, List.getElem?_cons_succ] at q0
 have r0 := zab HX2.out 0
 simp only [List.getElem?_toArray, List.getElem?_cons_zero, List.getElem?_cons_succ] at r0
 refine zso (n := 143) (d := 5) (A1 := (.pointer (some ⟨g1, 0, none⟩))) (A2 := (.pointer (some ⟨g2, 0, none⟩))) (v1 := (.int .i64 x0)) (v2 := (.int .i64 y0)) (e := (x0 == y0)) (by omega) S0.size S0.h2 S0.h3 (by omega) ?_ ?_ ?_ ?_ ?_ ?_ ?_ ?_ ?_ ?_ ?_
 ·exact ⟨rfl, rfl⟩
 ·exact ⟨rfl, rfl⟩
 ·exact ⟨rfl, rfl⟩
 ·exact ⟨rfl, rfl⟩
 ·exact ⟨rfl, rfl⟩
 ·(intro ρ h; go_simp; (try with_reducible rfl))
 ·(intro ρ h; go_simp; (try with_reducible rfl))
 ·(intro ρ h; go_simp; (try with_reducible rfl))
 ·(intro ρ h; go_simp; (try with_reducible rfl))
 ·(intro ρ h h'; go_simp; (try with_reducible rfl))
 intro a1 F1 R1
 have S1 := St.step S0 F1 (by omega)
 clear q0 r0
 have q1 := zab HX1.out 1
 simp only [List.getElem?_toArray, List.getElem?_cons_zero, List.getElem?_cons_succ] at q1
 have r1 := zab HX2.out 1
 simp only [List.getElem?_toArray, List.getElem?_cons_zero, List.getElem?_cons_succ] at r1
 refine zbz (n := 143) (d := 10) (j := 5) (p := 9) (b := true) (A1 := (.pointer (some ⟨g1, 1, none⟩))) (A2 := (.pointer (some ⟨g2, 1, none⟩))) (v1 := (.int .i64 x1)) (v2 := (.int .i64 y1)) (e := (x1 == y1)) (by omega) S1.size R1 S1.h2 S1.h3 (by omega) (by omega) ?_ ?_ ?_ ?_ ?_ ?_ ?_ ?_ ?_ ?_ ?_ ?_ ?_ ?_ ?_
 ·exact ⟨rfl, rfl, rfl⟩
 ·exact ⟨rfl, rfl⟩
 ·exact ⟨rfl, rfl⟩
 ·exact ⟨rfl, rfl⟩
 ·exact ⟨rfl, rfl⟩
 ·exact ⟨rfl, rfl⟩
 ·exact ⟨rfl, rfl⟩
 ·rfl
 ·(intro ρ h; go_simp; (try with_reducible rfl))
 ·(intro ρ h; go_simp; (try with_reducible rfl))
 ·(intro ρ h; go_simp; (try with_reducible rfl))
 ·(intro ρ h; go_simp; (try with_reducible rfl))
 ·(intro ρ h h'; go_simp; (try with_reducible rfl))
 ·(intro ρ hc; exact ⟨(by intro h h'; go_simp), (by intro h; (try simp only [Bool.not_true, Bool.not_false] at h); go_simp)⟩)
 intro a2 r2_ F2 R2 K2
 have S2 := St.step S1 F2 (by omega)
 clear q1 r1
 have q2 := zab HX1.out 2
 simp only [List.getElem?_toArray, List.getElem?_cons_zero, List.getElem?_cons_succ] at q2
 have r2 := zab HX2.out 2
 simp only [List.getElem?_toArray, List.getElem?_cons_zero, List.getElem?_cons_succ] at r2
 refine zbz (n := 143) (d := 17) (j := 12) (p := 16) (b := true) (A1 := (.pointer (some ⟨g1, 2, none⟩))) (A2 := (.pointer (some ⟨g2, 2, none⟩))) (v1 := (.int .i64 x2)) (v2 := (.int .i64 y2)) (e := (x2 == y2)) (by omega) S2.size R2 S2.h2 S2.h3 (by omega) (by omega) ?_ ?_ ?_ ?_ ?_ ?_ ?_ ?_ ?_ ?_ ?_ ?_ ?_ ?_ ?_
 ·exact ⟨rfl, rfl, rfl⟩
 ·exact ⟨rfl, rfl⟩
 ·exact ⟨rfl, rfl⟩
 ·exact ⟨rfl, rfl⟩
 ·exact ⟨rfl, rfl⟩
 ·exact ⟨rfl, rfl⟩
 ·exact ⟨rfl, rfl⟩
 ·rfl
 ·(intro ρ h; go_simp; (try with_reducible rfl))
 ·(intro ρ h; go_simp; (try with_reducible rfl))
 ·(intro ρ h; go_simp; (try with_reducible rfl))
 ·(intro ρ h; go_simp; (try with_reducible rfl))
 ·(intro ρ h h'; go_simp; (try with_reducible rfl))
 ·(intro ρ hc; exact ⟨(by intro h h'; go_simp), (by intro h; (try simp only [Bool.not_true, Bool.not_false] at h); go_simp)⟩)
 intro a3 r3_ F3 R3 K3
 have S3 := St.step S2 F3 (by omega)
 clear q2 r2
 have q4 := zab HX1.out 4
 simp only [List.getElem?_toArray, List.getElem?_cons_zero, List.getElem?_cons_succ] at q4
 have q5 := zab HX1.out 5
 simp only [List.getElem?_toArray, List.getElem?_cons_zero, List.getElem?_cons_succ] at q5
 have r4 := zab HX2.out 4
 simp only [List.getElem?_toArray, List.getElem?_cons_zero, List.getElem?_cons_succ] at r4
 have r5 := zab HX2.out 5
 simp only [List.getElem?_toArray, List.getElem?_cons_zero, List.getElem?_cons_succ] at r5
 refine zbz (n := 143) (d := 24) (j := 19) (p := 23) (b := true) (A1 := (.pointer (some ⟨g1, 4, none⟩))) (A2 := (.pointer (some ⟨g2, 4, none⟩))) (v1 := (.agg #[.int .i64 x4, .int .i64 x5])) (v2 := (.agg #[.int .i64 y4, .int .i64 y5])) (e := (x4 == y4 && (x5 == y5))) (by omega) S3.size R3 S3.h2 S3.h3 (by omega) (by omega) ?_ ?_ ?_ ?_ ?_ ?_ ?_ ?_ ?_ ?_ ?_ ?_ ?_ ?_ ?_
 ·exact ⟨rfl, rfl, rfl⟩
 ·exact ⟨rfl, rfl⟩
 ·exact ⟨rfl, rfl⟩
 ·exact ⟨rfl, rfl⟩
 ·exact ⟨rfl, rfl⟩
 ·exact ⟨rfl, rfl⟩
 ·exact ⟨rfl, rfl⟩
 ·rfl
 ·(intro ρ h; go_simp; (try with_reducible rfl))
 ·(intro ρ h; go_simp; (try with_reducible rfl))
 ·(intro ρ h; go_simp; (try with_reducible rfl))
 ·(intro ρ h; go_simp; (try with_reducible rfl))
 ·(intro ρ h h'; go_simp; (try with_reducible rfl))
 ·(intro ρ hc; exact ⟨(by intro h h'; go_simp), (by intro h; (try simp only [Bool.not_true, Bool.not_false] at h); go_simp)⟩)
 intro a4 r4_ F4 R4 K4
 have S4 := St.step S3 F4 (by omega)
 clear q4 r4 q5 r5
 have q6 := zab HX1.out 6
 simp only [List.getElem?_toArray, List.getElem?_cons_zero, List.getElem?_cons_succ] at q6
 have r6 := zab HX2.out 6
 simp only [List.getElem?_toArray, List.getElem?_cons_zero, List.getElem?_cons_succ] at r6
 refine zbz (n := 143) (d := 31) (j := 26) (p := 30) (b := true) (A1 := (.pointer (some ⟨g1, 6, none⟩))) (A2 := (.pointer (some ⟨g2, 6, none⟩))) (v1 := (.int .i64 x6)) (v2 := (.int .i64 y6)) (e := (x6 == y6)) (by omega) S4.size R4 S4.h2 S4.h3 (by omega) (by omega) ?_ ?_ ?_ ?_ ?_ ?_ ?_ ?_ ?_ ?_ ?_ ?_ ?_ ?_ ?_
 ·exact ⟨rfl, rfl, rfl⟩
 ·exact ⟨rfl, rfl⟩
 ·exact ⟨rfl, rfl⟩
 ·exact ⟨rfl, rfl⟩
 ·exact ⟨rfl, rfl⟩
 ·exact ⟨rfl, rfl⟩
 ·exact ⟨rfl, rfl⟩
 ·rfl
 ·(intro ρ h; go_simp; (try with_reducible rfl))
 ·(intro ρ h; go_simp; (try with_reducible rfl))
 ·(intro ρ h; go_simp; (try with_reducible rfl))
 ·(intro ρ h; go_simp; (try with_reducible rfl))
 ·(intro ρ h h'; go_simp; (try with_reducible rfl))
 ·(intro ρ hc; exact ⟨(by intro h h'; go_simp), (by intro h; (try simp only [Bool.not_true, Bool.not_false] at h); go_simp)⟩)
 intro a5 r5_ F5 R5 K5
 have S5 := St.step S4 F5 (by omega)
 clear q6 r6
 have q7 := zab HX1.out 7
 simp only [List.getElem?_toArray, List.getElem?_cons_zero, List.getElem?_cons_succ] at q7
 have r7 := zab HX2.out 7
 simp only [List.getElem?_toArray, List.getElem?_cons_zero, List.getElem?_cons_succ] at r7
 refine zbz (n := 143) (d := 38) (j := 33) (p := 37) (b := true) (A1 := (.pointer (some ⟨g1, 7, none⟩))) (A2 := (.pointer (some ⟨g2, 7, none⟩))) (v1 := (.int .i64 x7)) (v2 := (.int .i64 y7)) (e := (x7 == y7)) (by omega) S5.size R5 S5.h2 S5.h3 (by omega) (by omega) ?_ ?_ ?_ ?_ ?_ ?_ ?_ ?_ ?_ ?_ ?_ ?_ ?_ ?_ ?_
 ·exact ⟨rfl, rfl, rfl⟩
 ·exact ⟨rfl, rfl⟩
 ·exact ⟨rfl, rfl⟩
 ·exact ⟨rfl, rfl⟩
 ·exact ⟨rfl, rfl⟩
 ·exact ⟨rfl, rfl⟩
 ·exact ⟨rfl, rfl⟩
 ·rfl
 ·(intro ρ h; go_simp; (try with_reducible rfl))
 ·(intro ρ h; go_simp; (try with_reducible rfl))
 ·(intro ρ h; go_simp; (try with_reducible rfl))
 ·(intro ρ h; go_simp; (try with_reducible rfl))
 ·(intro ρ h h'; go_simp; (try with_reducible rfl))
 ·(intro ρ hc; exact ⟨(by intro h h'; go_simp), (by intro h; (try simp only [Bool.not_true, Bool.not_false] at h); go_simp)⟩)
 intro a6 r6_ F6 R6 K6
 have S6 := St.step S5 F6 (by omega)
 clear q7 r7
 have q11 := zab HX1.out 11
 simp only [List.getElem?_toArray, List.getElem?_cons_zero, List.getElem?_cons_succ] at q11
 have q12 := zab HX1.out 12
 simp only [List.getElem?_toArray, List.getElem?_cons_zero, List.getElem?_cons_succ] at q12
 have r11 := zab HX2.out 11
 simp only [List.getElem?_toArray, List.getElem?_cons_zero, List.getElem?_cons_succ] at r11
 have r12 := zab HX2.out 12
 simp only [List.getElem?_toArray, List.getElem?_cons_zero, List.getElem?_cons_succ] at r12
 refine zbz (n := 143) (d := 45) (j := 40) (p := 44) (b := true) (A1 := (.pointer (some ⟨g1, 11, none⟩))) (A2 := (.pointer (some ⟨g2, 11, none⟩))) (v1 := (.agg #[.int .i64 x11, .int .i64 x12])) (v2 := (.agg #[.int .i64 y11, .int .i64 y12])) (e := (x11 == y11 && (x12 == y12))) (by omega) S6.size R6 S6.h2 S6.h3 (by omega) (by omega) ?_ ?_ ?_ ?_ ?_ ?_ ?_ ?_ ?_ ?_ ?_ ?_ ?_ ?_ ?_
 ·exact ⟨rfl, rfl, rfl⟩
 ·exact ⟨rfl, rfl⟩
 ·exact ⟨rfl, rfl⟩
 ·exact ⟨rfl, rfl⟩
 ·exact ⟨rfl, rfl⟩
 ·exact ⟨rfl, rfl⟩
 ·exact ⟨rfl, rfl⟩
 ·rfl
 ·(intro ρ h; go_simp; (try with_reducible rfl))
 ·(intro ρ h; go_simp; (try with_reducible rfl))
 ·(intro ρ h; go_simp; (try with_reducible rfl))
 ·(intro ρ h; go_simp; (try with_reducible rfl))
 ·(intro ρ h h'; go_simp; (try with_reducible rfl))
 ·(intro ρ hc; exact ⟨(by intro h h'; go_simp), (by intro h; (try simp only [Bool.not_true, Bool.not_false] at h); go_simp)⟩)
 intro a7 r7_ F7 R7 K7
 have S7 := St.step S6 F7 (by omega)
 clear q11 r11 q12 r12
 have q13 := zab HX1.out 13
 simp only [List.getElem?_toArray, List.getElem?_cons_zero, List.getElem?_cons_succ] at q13
 have r13 := zab HX2.out 13
 simp only [List.getElem?_toArray, List.getElem?_cons_zero, List.getElem?_cons_succ] at r13
 refine zbz (n := 143) (d := 52) (j := 47) (p := 51) (b := true) (A1 := (.pointer (some ⟨g1, 13, none⟩))) (A2 := (.pointer (some ⟨g2, 13, none⟩))) (v1 := (.bool x13)) (v2 := (.bool y13)) (e := (x13 == y13)) (by omega) S7.size R7 S7.h2 S7.h3 (by omega) (by omega) ?_ ?_ ?_ ?_ ?_ ?_ ?_ ?_ ?_ ?_ ?_ ?_ ?_ ?_ ?_
 ·exact ⟨rfl, rfl, rfl⟩
 ·exact ⟨rfl, rfl⟩
 ·exact ⟨rfl, rfl⟩
 ·exact ⟨rfl, rfl⟩
 ·exact ⟨rfl, rfl⟩
 ·exact ⟨rfl, rfl⟩
 ·exact ⟨rfl, rfl⟩
 ·rfl
 ·(intro ρ h; go_simp; (try with_reducible rfl))
 ·(intro ρ h; go_simp; (try with_reducible rfl))
 ·(intro ρ h; go_simp; (try with_reducible rfl))
 ·(intro ρ h; go_simp; (try with_reducible rfl))
 ·(intro ρ h h'; go_simp; (try with_reducible rfl))
 ·(intro ρ hc; exact ⟨(by intro h h'; go_simp), (by intro h; (try simp only [Bool.not_true, Bool.not_false] at h); go_simp)⟩)
 intro a8 r8_ F8 R8 K8
 have S8 := St.step S7 F8 (by omega)
 clear q13 r13
 have q14 := zab HX1.out 14
 simp only [List.getElem?_toArray, List.getElem?_cons_zero, List.getElem?_cons_succ] at q14
 have r14 := zab HX2.out 14
 simp only [List.getElem?_toArray, List.getElem?_cons_zero, List.getElem?_cons_succ] at r14
 refine zbz (n := 143) (d := 59) (j := 54) (p := 58) (b := true) (A1 := (.pointer (some ⟨g1, 14, none⟩))) (A2 := (.pointer (some ⟨g2, 14, none⟩))) (v1 := (.int .i64 x14)) (v2 := (.int .i64 y14)) (e := (x14 == y14)) (by omega) S8.size R8 S8.h2 S8.h3 (by omega) (by omega) ?_ ?_ ?_ ?_ ?_ ?_ ?_ ?_ ?_ ?_ ?_ ?_ ?_ ?_ ?_
 ·exact ⟨rfl, rfl, rfl⟩
 ·exact ⟨rfl, rfl⟩
 ·exact ⟨rfl, rfl⟩
 ·exact ⟨rfl, rfl⟩
 ·exact ⟨rfl, rfl⟩
 ·exact ⟨rfl, rfl⟩
 ·exact ⟨rfl, rfl⟩
 ·rfl
 ·(intro ρ h; go_simp; (try with_reducible rfl))
 ·(intro ρ h; go_simp; (try with_reducible rfl))
 ·(intro ρ h; go_simp; (try with_reducible rfl))
 ·(intro ρ h; go_simp; (try with_reducible rfl))
 ·(intro ρ h h'; go_simp; (try with_reducible rfl))
 ·(intro ρ hc; exact ⟨(by intro h h'; go_simp), (by intro h; (try simp only [Bool.not_true, Bool.not_false] at h); go_simp)⟩)
 intro a9 r9_ F9 R9 K9
 have S9 := St.step S8 F9 (by omega)
 clear q14 r14
 have q15 := zab HX1.out 15
 simp only [List.getElem?_toArray, List.getElem?_cons_zero, List.getElem?_cons_succ] at q15
 have r15 := zab HX2.out 15
 simp only [List.getElem?_toArray, List.getElem?_cons_zero, List.getElem?_cons_succ] at r15
 refine zbz (n := 143) (d := 66) (j := 61) (p := 65) (b := true) (A1 := (.pointer (some ⟨g1, 15, none⟩))) (A2 := (.pointer (some ⟨g2, 15, none⟩))) (v1 := (.int .i64 x15)) (v2 := (.int .i64 y15)) (e := (x15 == y15)) (by omega) S9.size R9 S9.h2 S9.h3 (by omega) (by omega) ?_ ?_ ?_ ?_ ?_ ?_ ?_ ?_ ?_ ?_ ?_ ?_ ?_ ?_ ?_
 ·exact ⟨rfl, rfl, rfl⟩
 ·exact ⟨rfl, rfl⟩
 ·exact ⟨rfl, rfl⟩
 ·exact ⟨rfl, rfl⟩
 ·exact ⟨rfl, rfl⟩
 ·exact ⟨rfl, rfl⟩
 ·exact ⟨rfl, rfl⟩
 ·rfl
 ·(intro ρ h; go_simp; (try with_reducible rfl))
 ·(intro ρ h; go_simp; (try with_reducible rfl))
 ·(intro ρ h; go_simp; (try with_reducible rfl))
 ·(intro ρ h; go_simp; (try with_reducible rfl))
 ·(intro ρ h h'; go_simp; (try with_reducible rfl))
 ·(intro ρ hc; exact ⟨(by intro h h'; go_simp), (by intro h; (try simp only [Bool.not_true, Bool.not_false] at h); go_simp)⟩)
 intro a10 r10_ F10 R10 K10
 have S10 := St.step S9 F10 (by omega)
 clear q15 r15
 have q16 := zab HX1.out 16
 simp only [List.getElem?_toArray, List.getElem?_cons_zero, List.getElem?_cons_succ] at q16
 have r16 := zab HX2.out 16
 simp only [List.getElem?_toArray, List.getElem?_cons_zero, List.getElem?_cons_succ] at r16
 refine zbz (n := 143) (d := 73) (j := 68) (p := 72) (b := true) (A1 := (.pointer (some ⟨g1, 16, none⟩))) (A2 := (.pointer (some ⟨g2, 16, none⟩))) (v1 := (.string x16)) (v2 := (.string y16)) (e := (x16.toList == y16.toList)) (by omega) S10.size R10 S10.h2 S10.h3 (by omega) (by omega) ?_ ?_ ?_ ?_ ?_ ?_ ?_ ?_ ?_ ?_ ?_ ?_ ?_ ?_ ?_
 ·exact ⟨rfl, rfl, rfl⟩
 ·exact ⟨rfl, rfl⟩
 ·exact ⟨rfl, rfl⟩
 ·exact ⟨rfl, rfl⟩
 ·exact ⟨rfl, rfl⟩
 ·exact ⟨rfl, rfl⟩
 ·exact ⟨rfl, rfl⟩
 ·rfl
 ·(intro ρ h; go_simp; (try with_reducible rfl))
 ·(intro ρ h; go_simp; (try with_reducible rfl))
 ·(intro ρ h; go_simp; (try with_reducible rfl))
 ·(intro ρ h; go_simp; (try with_reducible rfl))
 ·(intro ρ h h'; go_simp; (try with_reducible rfl))
 ·(intro ρ hc; exact ⟨(by intro h h'; go_simp), (by intro h; (try simp only [Bool.not_true, Bool.not_false] at h); go_simp)⟩)
 intro a11 r11_ F11 R11 K11
 have S11 := St.step S10 F11 (by omega)
 clear q16 r16
 have q17 := zab HX1.out 17
 simp only [List.getElem?_toArray, List.getElem?_cons_zero, List.getElem?_cons_succ] at q17
 have r17 := zab HX2.out 17
 simp only [List.getElem?_toArray, List.getElem?_cons_zero, List.getElem?_cons_succ] at r17
 refine zbz (n := 143) (d := 80) (j := 75) (p := 79) (b := true) (A1 := (.pointer (some ⟨g1, 17, none⟩))) (A2 := (.pointer (some ⟨g2, 17, none⟩))) (v1 := (.bool x17)) (v2 := (.bool y17)) (e := (x17 == y17)) (by omega) S11.size R11 S11.h2 S11.h3 (by omega) (by omega) ?_ ?_ ?_ ?_ ?_ ?_ ?_ ?_ ?_ ?_ ?_ ?_ ?_ ?_ ?_
 ·exact ⟨rfl, rfl, rfl⟩
 ·exact ⟨rfl, rfl⟩
 ·exact ⟨rfl, rfl⟩
 ·exact ⟨rfl, rfl⟩
 ·exact ⟨rfl, rfl⟩
 ·exact ⟨rfl, rfl⟩
 ·exact ⟨rfl, rfl⟩
 ·rfl
 ·(intro ρ h; go_simp; (try with_reducible rfl))
 ·(intro ρ h; go_simp; (try with_reducible rfl))
 ·(intro ρ h; go_simp; (try with_reducible rfl))
 ·(intro ρ h; go_simp; (try with_reducible rfl))
 ·(intro ρ h h'; go_simp; (try with_reducible rfl))
 ·(intro ρ hc; exact ⟨(by intro h h'; go_simp), (by intro h; (try simp only [Bool.not_true, Bool.not_false] at h); go_simp)⟩)
 intro a12 r12_ F12 R12 K12
 have S12 := St.step S11 F12 (by omega)
 clear q17 r17
 have q18 := zab HX1.out 18
 simp only [List.getElem?_toArray, List.getElem?_cons_zero, List.getElem?_cons_succ] at q18
 have r18 := zab HX2.out 18
 simp only [List.getElem?_toArray, List.getElem?_cons_zero, List.getElem?_cons_succ] at r18
 refine zbz (n := 143) (d := 87) (j := 82) (p := 86) (b := true) (A1 := (.pointer (some ⟨g1, 18, none⟩))) (A2 := (.pointer (some ⟨g2, 18, none⟩))) (v1 := (.string x18)) (v2 := (.string y18)) (e := (x18.toList == y18.toList)) (by omega) S12.size R12 S12.h2 S12.h3 (by omega) (by omega) ?_ ?_ ?_ ?_ ?_ ?_ ?_ ?_ ?_ ?_ ?_ ?_ ?_ ?_ ?_
 ·exact ⟨rfl, rfl, rfl⟩
 ·exact ⟨rfl, rfl⟩
 ·exact ⟨rfl, rfl⟩
 ·exact ⟨rfl, rfl⟩
 ·exact ⟨rfl, rfl⟩
 ·exact ⟨rfl, rfl⟩
 ·exact ⟨rfl, rfl⟩
 ·rfl
 ·(intro ρ h; go_simp; (try with_reducible rfl))
 ·(intro ρ h; go_simp; (try with_reducible rfl))
 ·(intro ρ h; go_simp; (try with_reducible rfl))
 ·(intro ρ h; go_simp; (try with_reducible rfl))
 ·(intro ρ h h'; go_simp; (try with_reducible rfl))
 ·(intro ρ hc; exact ⟨(by intro h h'; go_simp), (by intro h; (try simp only [Bool.not_true, Bool.not_false] at h); go_simp)⟩)
 intro a13 r13_ F13 R13 K13
 have S13 := St.step S12 F13 (by omega)
 clear q18 r18
 have q19 := zab HX1.out 19
 simp only [List.getElem?_toArray, List.getElem?_cons_zero, List.getElem?_cons_succ] at q19
 have q20 := zab HX1.out 20
 simp only [List.getElem?_toArray, List.getElem?_cons_zero, List.getElem?_cons_succ] at q20
 have r19 := zab HX2.out 19
 simp only [List.getElem?_toArray, List.getElem?_cons_zero, List.getElem?_cons_succ] at r19
 have r20 := zab HX2.out 20
 simp only [List.getElem?_toArray, List.getElem?_cons_zero, List.getElem?_cons_succ] at r20
 refine zbz (n := 143) (d := 94) (j := 89) (p := 93) (b := true) (A1 := (.pointer (some ⟨g1, 19, none⟩))) (A2 := (.pointer (some ⟨g2, 19, none⟩))) (v1 := (.agg #[.int .i64 x19, .int .i64 x20])) (v2 := (.agg #[.int .i64 y19, .int .i64 y20])) (e := (x19 == y19 && (x20 == y20))) (by omega) S13.size R13 S13.h2 S13.h3 (by omega) (by omega) ?_ ?_ ?_ ?_ ?_ ?_ ?_ ?_ ?_ ?_ ?_ ?_ ?_ ?_ ?_
 ·exact ⟨rfl, rfl, rfl⟩
 ·exact ⟨rfl, rfl⟩
 ·exact ⟨rfl, rfl⟩
 ·exact ⟨rfl, rfl⟩
 ·exact ⟨rfl, rfl⟩
 ·exact ⟨rfl, rfl⟩
 ·exact ⟨rfl, rfl⟩
 ·rfl
 ·(intro ρ h; go_simp; (try with_reducible rfl))
 ·(intro ρ h; go_simp; (try with_reducible rfl))
 ·(intro ρ h; go_simp; (try with_reducible rfl))
 ·(intro ρ h; go_simp; (try with_reducible rfl))
 ·(intro ρ h h'; go_simp; (try with_reducible rfl))
 ·(intro ρ hc; exact ⟨(by intro h h'; go_simp), (by intro h; (try simp only [Bool.not_true, Bool.not_false] at h); go_simp)⟩)
 intro a14 r14_ F14 R14 K14
 have S14 := St.step S13 F14 (by omega)
 clear q19 r19 q20 r20
 have q21 := zab HX1.out 21
 simp only [List.getElem?_toArray, List.getElem?_cons_zero, List.getElem?_cons_succ] at q21
 have r21 := zab HX2.out 21
 simp only [List.getElem?_toArray, List.getElem?_cons_zero, List.getElem?_cons_succ] at r21
 refine zbz (n := 143) (d := 101) (j := 96) (p := 100) (b := true) (A1 := (.pointer (some ⟨g1, 21, none⟩))) (A2 := (.pointer (some ⟨g2, 21, none⟩))) (v1 := (.int .i64 x21)) (v2 := (.int .i64 y21)) (e := (x21 == y21)) (by omega) S14.size R14 S14.h2 S14.h3 (by omega) (by omega) ?_ ?_ ?_ ?_ ?_ ?_ ?_ ?_ ?_ ?_ ?_ ?_ ?_ ?_ ?_
 ·exact ⟨rfl, rfl, rfl⟩
 ·exact ⟨rfl, rfl⟩
 ·exact ⟨rfl, rfl⟩
 ·exact ⟨rfl, rfl⟩
 ·exact ⟨rfl, rfl⟩
 ·exact ⟨rfl, rfl⟩
 ·exact ⟨rfl, rfl⟩
 ·rfl
 ·(intro ρ h; go_simp; (try with_reducible rfl))
 ·(intro ρ h; go_simp; (try with_reducible rfl))
 ·(intro ρ h; go_simp; (try with_reducible rfl))
 ·(intro ρ h; go_simp; (try with_reducible rfl))
 ·(intro ρ h h'; go_simp; (try with_reducible rfl))
 ·(intro ρ hc; exact ⟨(by intro h h'; go_simp), (by intro h; (try simp only [Bool.not_true, Bool.not_false] at h); go_simp)⟩)
 intro a15 r15_ F15 R15 K15
 have S15 := St.step S14 F15 (by omega)
 clear q21 r21
 have q22 := zab HX1.out 22
 simp only [List.getElem?_toArray, List.getElem?_cons_zero, List.getElem?_cons_succ] at q22
 have q23 := zab HX1.out 23
 simp only [List.getElem?_toArray, List.getElem?_cons_zero, List.getElem?_cons_succ] at q23
 have q24 := zab HX1.out 24
 simp only [List.getElem?_toArray, List.getElem?_cons_zero, List.getElem?_cons_succ] at q24
 have q25 := zab HX1.out 25
 simp only [List.getElem?_toArray, List.getElem?_cons_zero, List.getElem?_cons_succ] at q25
 have r22 := zab HX2.out 22
 simp only [List.getElem?_toArray, List.getElem?_cons_zero, List.getElem?_cons_succ] at r22
 have r23 := zab HX2.out 23
 simp only [List.getElem?_toArray, List.getElem?_cons_zero, List.getElem?_cons_succ] at r23
 have r24 := zab HX2.out 24
 simp only [List.getElem?_toArray, List.getElem?_cons_zero, List.getElem?_cons_succ] at r24
 have r25 := zab HX2.out 25
 simp only [List.getElem?_toArray, List.getElem?_cons_zero, List.getElem?_cons_succ] at r25
 refine zbz (n := 143) (d := 108) (j := 103) (p := 107) (b := true) (A1 := (.pointer (some ⟨g1, 22, none⟩))) (A2 := (.pointer (some ⟨g2, 22, none⟩))) (v1 := (.agg #[.int .i64 x22, .int .i64 x23, .bool x24, .string x25])) (v2 := (.agg #[.int .i64 y22, .int .i64 y23, .bool y24, .string y25])) (e := ((x22 == y22 && (x23 == y23)) && (x24 == y24 && (x25.toList == y25.toList)))) (by omega) S15.size R15 S15.h2 S15.h3 (by omega) (by omega) ?_ ?_ ?_ ?_ ?_ ?_ ?_ ?_ ?_ ?_ ?_ ?_ ?_ ?_ ?_
 ·exact ⟨rfl, rfl, rfl⟩
 ·exact ⟨rfl, rfl⟩
 ·exact ⟨rfl, rfl⟩
 ·exact ⟨rfl, rfl⟩
 ·exact ⟨rfl, rfl⟩
 ·exact ⟨rfl, rfl⟩
 ·exact ⟨rfl, rfl⟩
 ·rfl
 ·(intro ρ h; go_simp; (try with_reducible rfl))
 ·(intro ρ h; go_simp; (try with_reducible rfl))
 ·(intro ρ h; go_simp; (try with_reducible rfl))
 ·(intro ρ h; go_simp; (try with_reducible rfl))
 ·(intro ρ h h'; go_simp; (try with_reducible rfl))
 ·(intro ρ hc; exact ⟨(by intro h h'; go_simp), (by intro h; (try simp only [Bool.not_true, Bool.not_false] at h); go_simp)⟩)
 intro a16 r16_ F16 R16 K16
 have S16 := St.step S15 F16 (by omega)
 clear q22 r22 q23 r23 q24 r24 q25 r25
 have HX1_17 := HX1
 have HX2_17 := HX2
 have HBW17 := aK HBW.out
 have q3 := zab HX1_17.out 3
 simp only [List.getElem?_toArray, List.getElem?_cons_zero, List.getElem?_cons_succ] at q3
 have r3 := zab HX2_17.out 3
 simp only [List.getElem?_toArray, List.getElem?_cons_zero, List.getElem?_cons_succ] at r3
 refine zga (ts := #[22, 22]) (n := 143) (d := 115) (j := 110) (p := 114) (p' := a.L 3 = b.L 3) (A1 := (.pointer (some ⟨g1, 3, none⟩))) (A2 := (.pointer (some ⟨g2, 3, none⟩))) (v1 := .slice A3 (a.L 3).length c3) (v2 := .slice B3 (b.L 3).length d3) Try.func30 rfl rfl (by omega) S16.size R16 S16.h2 S16.h3 (by omega) (by omega) ?_ ?_ ?_ ?_ ?_ ?_ ?_ ?_ ?_ ?_ ?_ ?_ ?_ (HC3.out _ HBW17.out) ?_ ?_
 ·exact ⟨rfl, rfl, rfl⟩
 ·exact ⟨rfl, rfl⟩
 ·exact ⟨rfl, rfl⟩
 ·exact ⟨rfl, rfl⟩
 ·exact ⟨rfl, rfl⟩
 ·exact ⟨rfl, rfl⟩
 ·exact ⟨rfl, rfl⟩
 ·rfl
 ·(intro ρ h; go_simp; (try with_reducible rfl))
 ·(intro ρ h; go_simp; (try with_reducible rfl))
 ·(intro ρ h; go_simp; (try with_reducible rfl))
 ·(intro ρ h; go_simp; (try with_reducible rfl))
 ·rfl
 ·(intro ρ e W hc; exact ⟨(by intro h h'; go_simp), (by intro h; (try simp only [Bool.not_true, Bool.not_false] at h); go_simp)⟩)
 intro a17 r17_ w17_ F17 R17 K17 D17
 have S17 := St.step S16 F17 (by omega)
 clear q3 r3
 have HX1_18 := aK (dblk D17 HX1_17.out)
 have HX2_18 := aK (dblk D17 HX2_17.out)
 have HBW18 := aK (HBW17.out.trans (D17.below.mono HBW17.out.size))
 have q8 := zab HX1_18.out 8
 simp only [List.getElem?_toArray, List.getElem?_cons_zero, List.getElem?_cons_succ] at q8
 have r8 := zab HX2_18.out 8
 simp only [List.getElem?_toArray, List.getElem?_cons_zero, List.getElem?_cons_succ] at r8
 refine zga (ts := #[25, 25]) (n := 143) (d := 122) (j := 117) (p := 121) (p' := a.L 8 = b.L 8) (A1 := (.pointer (some ⟨g1, 8, none⟩))) (A2 := (.pointer (some ⟨g2, 8, none⟩))) (v1 := .slice A8 (a.L 8).length c8) (v2 := .slice B8 (b.L 8).length d8) Try.func31 rfl rfl (by omega) S17.size R17 S17.h2 S17.h3 (by omega) (by omega) ?_ ?_ ?_ ?_ ?_ ?_ ?_ ?_ ?_ ?_ ?_ ?_ ?_ (HC8.out _ HBW18.out) ?_ ?_
 ·exact ⟨rfl, rfl, rfl⟩
 ·exact ⟨rfl, rfl⟩
 ·exact ⟨rfl, rfl⟩
 ·exact ⟨rfl, rfl⟩
 ·exact ⟨rfl, rfl⟩
 ·exact ⟨rfl, rfl⟩
 ·exact ⟨rfl, rfl⟩
 ·rfl
 ·(intro ρ h; go_simp; (try with_reducible rfl))
 ·(intro ρ h; go_simp; (try with_reducible rfl))
 ·(intro ρ h; go_simp; (try with_reducible rfl))
 ·(intro ρ h; go_simp; (try with_reducible rfl))
 ·rfl
 ·(intro ρ e W hc; exact ⟨(by intro h h'; go_simp), (by intro h; (try simp only [Bool.not_true, Bool.not_false] at h); go_simp)⟩)
 intro a18 r18_ w18_ F18 R18 K18 D18
 have S18 := St.step S17 F18 (by omega)
 clear q8 r8
 have HX1_19 := aK (dblk D18 HX1_18.out)
 have HX2_19 := aK (dblk D18 HX2_18.out)
 have HBW19 := aK (HBW18.out.trans (D18.below.mono HBW18.out.size))
 have q9 := zab HX1_19.out 9
 simp only [List.getElem?_toArray, List.getElem?_cons_zero, List.getElem?_cons_succ] at q9
 have r9 := zab HX2_19.out 9
 simp only [List.getElem?_toArray, List.getElem?_cons_zero, List.getElem?_cons_succ] at r9
 refine zga (ts := #[26, 26]) (n := 143) (d := 129) (j := 124) (p := 128) (p' := a.L 9 = b.L 9) (A1 := (.pointer (some ⟨g1, 9, none⟩))) (A2 := (.pointer (some ⟨g2, 9, none⟩))) (v1 := .slice A9 (a.L 9).length c9) (v2 := .slice B9 (b.L 9).length d9) Try.func32 rfl rfl (by omega) S18.size R18 S18.h2 S18.h3 (by omega) (by omega) ?_ ?_ ?_ ?_ ?_ ?_ ?_ ?_ ?_ ?_ ?_ ?_ ?_ (HC9.out _ HBW19.out) ?_ ?_
 ·exact ⟨rfl, rfl, rfl⟩
 ·exact ⟨rfl, rfl⟩
 ·exact ⟨rfl, rfl⟩
 ·exact ⟨rfl, rfl⟩
 ·exact ⟨rfl, rfl⟩
 ·exact ⟨rfl, rfl⟩
 ·exact ⟨rfl, rfl⟩
 ·rfl
 ·(intro ρ h; go_simp; (try with_reducible rfl))
 ·(intro ρ h; go_simp; (try with_reducible rfl))
 ·(intro ρ h; go_simp; (try with_reducible rfl))
 ·(intro ρ h; go_simp; (try with_reducible rfl))
 ·rfl
 ·(intro ρ e W hc; exact ⟨(by intro h h'; go_simp), (by intro h; (try simp only [Bool.not_true, Bool.not_false] at h); go_simp)⟩)
 intro a19 r19_ w19_ F19 R19 K19 D19
 have S19 := St.step S18 F19 (by omega)
 clear q9 r9
 have HX1_20 := aK (dblk D19 HX1_19.out)
 have HX2_20 := aK (dblk D19 HX2_19.out)
 have HBW20 := aK (HBW19.out.trans (D19.below.mono HBW19.out.size))
 have q10 := zab HX1_20.out 10
 simp only [List.getElem?_toArray, List.getElem?_cons_zero, List.getElem?_cons_succ] at q10
 have r10 := zab HX2_20.out 10
 simp only [List.getElem?_toArray, List.getElem?_cons_zero, List.getElem?_cons_succ] at r10
 refine zga (ts := #[27, 27]) (n := 143) (d := 136) (j := 131) (p := 135) (p' := a.L 10 = b.L 10) (A1 := (.pointer (some ⟨g1, 10, none⟩))) (A2 := (.pointer (some ⟨g2, 10, none⟩))) (v1 := .slice A10 (a.L 10).length c10) (v2 := .slice B10 (b.L 10).length d10) Try.func33 rfl rfl (by omega) S19.size R19 S19.h2 S19.h3 (by omega) (by omega) ?_ ?_ ?_ ?_ ?_ ?_ ?_ ?_ ?_ ?_ ?_ ?_ ?_ (HC10.out _ HBW20.out) ?_ ?_
 ·exact ⟨rfl, rfl, rfl⟩
 ·exact ⟨rfl, rfl⟩
 ·exact ⟨rfl, rfl⟩
 ·exact ⟨rfl, rfl⟩
 ·exact ⟨rfl, rfl⟩
 ·exact ⟨rfl, rfl⟩
 ·exact ⟨rfl, rfl⟩
 ·rfl
 ·(intro ρ h; go_simp; (try with_reducible rfl))
 ·(intro ρ h; go_simp; (try with_reducible rfl))
 ·(intro ρ h; go_simp; (try with_reducible rfl))
 ·(intro ρ h; go_simp; (try with_reducible rfl))
 ·rfl
 ·(intro ρ e W hc; exact ⟨(by intro h h'; go_simp), (by intro h; (try simp only [Bool.not_true, Bool.not_false] at h); go_simp)⟩)
 intro a20 r20_ w20_ F20 R20 K20 D20
 have S20 := St.step S19 F20 (by omega)
 clear q10 r10
 have HBF := HBW20.out.trans (D20.below.mono HBW20.out.size)
 refine zcs rfl (v := .bool r20_) (w1 := w20_) (zqg rfl R20.eval) ?_
 have HP4 : Has (a20.put (some 4) (.bool r20_)) 4 (.bool r20_) := Has.same (by rw [S20.size]; omega)
 have HD4 : (a20.put (some 4) (.bool r20_)).defers = [] := (zfz _ _ _).trans S20.defers
 generalize a20.put (some 4) (.bool r20_) = a' at *
 go_wp2
 refine bodyPost_ret (v := .bool r20_) (znp rfl HP4) HD4 ?_
 refine ⟨r20_, rfl, ?_, HBF⟩
 rw [HEQ.out, K20, K19, K18, K17, K16, K15, K14, K13, K12, K11, K10, K9, K8, K7, K6, K5, K4, K3, K2]
 simp only [and_assoc]
end Go.Proofs.Ytcbehfbfaonanaa.Wr
end
