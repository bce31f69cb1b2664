/- Part 16 of the texts that walk the program and tell its laws, joined in the order of their building. No conditions. -/
import Derived.Test.YtcbehfbfaonanaaJw9
import Derived.Test.YtcbehfbfaonanaaJw10
import Derived.Test.YtcbehfbfaonanaaJw11
import Derived.Test.YtcbehfbfaonanaaJw12
import Derived.Test.YtcbehfbfaonanaaJw13
import Derived.Test.YtcbehfbfaonanaaJw14
import Derived.Test.YtcbehfbfaonanaaJw0
import Derived.Test.YtcbehfbfaonanaaJw8
import Derived.OrdersHeld
set_option maxRecDepth 100000
set_option maxHeartbeats 16000000
section
namespace Go.Proofs.Ytcbehfbfaonanaa.Wr
open Go.RowKit Go.Proofs.YtcbehfbfaonanaaW.PrintWords Go.Proofs.YtcbehfbfaonanaaW.PrintLast Go.Proofs.YtcbehfbfaonanaaW.PrintMore Go.Proofs.Ytcbehfbfaonanaa.Pk
set_option linter.unusedVariables false
set_option linter.unusedSimpArgs false
theorem meq_iff {a b : M} (ha : zbh a) (hb : zbh b) : MEq a b ↔ ((xi a.c 0 == xi b.c 0) = true ∧ (xi a.c 1 == xi b.c 1) = true ∧ (xi a.c 2 == xi b.c 2) = true ∧ ((xi a.c 4 == xi b.c 4) && (xi a.c 5 == xi b.c 5)) = true ∧ (xi a.c 6 == xi b.c 6) = true ∧ (xi a.c 7 == xi b.c 7) = true ∧ ((xi a.c 11 == xi b.c 11) && (xi a.c 12 == xi b.c 12)) = true ∧ (bi a.c 13 == bi b.c 13) = true ∧ (xi a.c 14 == xi b.c 14) = true ∧ (xi a.c 15 == xi b.c 15) = true ∧ ((si a.c 16).toList == (si b.c 16).toList) = true ∧ (bi a.c 17 == bi b.c 17) = true ∧ ((si a.c 18).toList == (si b.c 18).toList) = true ∧ ((xi a.c 19 == xi b.c 19) && (xi a.c 20 == xi b.c 20)) = true ∧ (xi a.c 21 == xi b.c 21) = true ∧ (((xi a.c 22 == xi b.c 22) && (xi a.c 23 == xi b.c 23)) && ((bi a.c 24 == bi b.c 24) && ((si a.c 25).toList == (si b.c 25).toList))) = true) ∧ a.L 3 = b.L 3 ∧ a.L 8 = b.L 8 ∧ a.L 9 = b.L 9 ∧ a.L 10 = b.L 10 := by
 have ki : ∀ i, scalar i = true → (∃ l u, zck i = .num l u) → (a.c i = b.c i ↔ (xi a.c i == xi b.c i) = true) := fun i h1 h2 => by
  rw [zct ha h1 (.inr h2), zct hb h1 (.inr h2)]; simp
 have ks : ∀ i, scalar i = true → (∃ l, zck i = .text l) → (a.c i = b.c i ↔ ((si a.c i).toList == (si b.c i).toList) = true) := fun i h1 h2 => by
  rw [zmm ha h1 h2, zmm hb h1 h2]; simp only [Value.string.injEq, beq_iff_eq]; exact ⟨fun h => by rw [h], fun h => zbo h⟩
 have kb : ∀ i, scalar i = true → zck i = .flag → (a.c i = b.c i ↔ (bi a.c i == bi b.c i) = true) := fun i h1 h2 => by
  rw [zhr ha h1 h2, zhr hb h1 h2]; simp
 have e0 := ki 0 rfl ⟨_, _, rfl⟩
 have e1 := ki 1 rfl ⟨_, _, rfl⟩
 have e2 := ki 2 rfl ⟨_, _, rfl⟩
 have e4 := ki 4 rfl ⟨_, _, rfl⟩
 have e5 := ki 5 rfl ⟨_, _, rfl⟩
 have e6 := ki 6 rfl ⟨_, _, rfl⟩
 have e7 := ki 7 rfl ⟨_, _, rfl⟩
 have e11 := ki 11 rfl ⟨_, _, rfl⟩
 have e12 := ki 12 rfl ⟨_, _, rfl⟩
 have e13 := kb 13 rfl rfl
 have e14 := ki 14 rfl ⟨_, _, rfl⟩
 have e15 := ki 15 rfl ⟨_, _, rfl⟩
 have e16 := ks 16 rfl ⟨_, rfl⟩
 have e17 := kb 17 rfl rfl
 have e18 := ks 18 rfl ⟨_, rfl⟩
 have e19 := ki 19 rfl ⟨_, _, rfl⟩
 have e20 := ki 20 rfl ⟨_, _, rfl⟩
 have e21 := ki 21 rfl ⟨_, _, rfl⟩
 have e22 := ki 22 rfl ⟨_, _, rfl⟩
 have e23 := ki 23 rfl ⟨_, _, rfl⟩
 have e24 := kb 24 rfl rfl
 have e25 := ks 25 rfl ⟨_, rfl⟩
 simp only [Bool.and_eq_true]
 rw [← e0, ← e1, ← e2, ← e4, ← e5, ← e6, ← e7, ← e11, ← e12, ← e13, ← e14, ← e15, ← e16, ← e17, ← e18, ← e19, ← e20, ← e21, ← e22, ← e23, ← e24, ← e25]
 constructor
 ·intro h
  exact ⟨⟨h.1 0 rfl, h.1 1 rfl, h.1 2 rfl, ⟨h.1 4 rfl, h.1 5 rfl⟩, h.1 6 rfl, h.1 7 rfl, ⟨h.1 11 rfl, h.1 12 rfl⟩, h.1 13 rfl, h.1 14 rfl, h.1 15 rfl, h.1 16 rfl, h.1 17 rfl, h.1 18 rfl, ⟨h.1 19 rfl, h.1 20 rfl⟩, h.1 21 rfl, ⟨⟨h.1 22 rfl, h.1 23 rfl⟩, h.1 24 rfl, h.1 25 rfl⟩⟩, h.2 3 zak (by simp [zah]), h.2 8 zat (by simp [zah]), h.2 9 zau (by simp [zah]), h.2 10 zaj (by simp [zah])⟩
 ·rintro ⟨⟨h0, h1, h2, ⟨h4, h5⟩, h6, h7, ⟨h11, h12⟩, h13, h14, h15, h16, h17, h18, ⟨h19, h20⟩, h21, ⟨⟨h22, h23⟩, h24, h25⟩⟩, l3, l8, l9, l10⟩
  refine ⟨fun i hi => ?_, fun j fs hj => ?_⟩
  ·have hlt : i < 26 := by unfold scalar at hi; simp only [Bool.and_eq_true, decide_eq_true_eq] at hi; exact hi.1
   match i, hlt, hi with
   | 0, _, _ => exact h0
   | 1, _, _ => exact h1
   | 2, _, _ => exact h2
   | 4, _, _ => exact h4
   | 5, _, _ => exact h5
   | 6, _, _ => exact h6
   | 7, _, _ => exact h7
   | 11, _, _ => exact h11
   | 12, _, _ => exact h12
   | 13, _, _ => exact h13
   | 14, _, _ => exact h14
   | 15, _, _ => exact h15
   | 16, _, _ => exact h16
   | 17, _, _ => exact h17
   | 18, _, _ => exact h18
   | 19, _, _ => exact h19
   | 20, _, _ => exact h20
   | 21, _, _ => exact h21
   | 22, _, _ => exact h22
   | 23, _, _ => exact h23
   | 24, _, _ => exact h24
   | 25, _, _ => exact h25
   | 3, _, hi => cases hi
   | 8, _, hi => cases hi
   | 9, _, hi => cases hi
   | 10, _, hi => cases hi
  ·simp only [zah, List.mem_cons, Prod.mk.injEq, List.not_mem_nil, or_false] at hj
   rcases hj with ⟨rfl, _⟩ | ⟨rfl, _⟩ | ⟨rfl, _⟩ | ⟨rfl, _⟩ <;> assumption
theorem zjf (w : World) (va vb : Value) (a b : M) (sa sb : Nat → Value) (ha : MsgRd w va a sa) (hb : MsgRd w vb b sb) (hsa : ∀ j, (a.L j).length ≤ 1048576) (hsb : ∀ j, (b.L j).length ≤ 1048576) :
  Calls Try.prog 15 #[va, vb] w (zgj (MEq a b) w) := by
 obtain ⟨ea, ta, fa, ra⟩ := ha
 obtain ⟨eb, tb, fb, rb⟩ := hb
 have hm := meq_iff ta tb
 rw [ea, eb]
 unfold msgV
 rw [zpa ta, zpa tb]
 obtain ⟨r3, g3⟩ := zgk (a.L 3 = b.L 3)
 have HK3 : Aside0 (∀ W : World, Below w.heap.size w W → Calls Try.prog 26 #[sa 3, sb 3] W (fun e w' => e = .returned (.bool r3) ∧ Drawn0 W w')) := aK (fun W hB => by
  have p := (ra 3 zak (by simp [zah])).below (by simp [zak]) (fitl fa (by simp [zah])) hB
  have q := (rb 3 zak (by simp [zah])).below (by simp [zak]) (fitl fb (by simp [zah])) hB
  have P := p
  have Q := q
  obtain ⟨A, c, e1, _⟩ := p
  obtain ⟨B, d, e2, _⟩ := q
  rw [e1] at P ⊢
  rw [e2] at Q ⊢
  exact isEqC r3 g3 (zks W A B c d (a.L 3) (b.L 3) P Q (fa 3 zak (by simp [zah])) (fb 3 zak (by simp [zah])) (hsa 3) (hsb 3)))
 obtain ⟨r8, g8⟩ := zgk (a.L 8 = b.L 8)
 have HK8 : Aside0 (∀ W : World, Below w.heap.size w W → Calls Try.prog 27 #[sa 8, sb 8] W (fun e w' => e = .returned (.bool r8) ∧ Drawn0 W w')) := aK (fun W hB => by
  have p := (ra 8 zat (by simp [zah])).below (by simp [zat]) (fitl fa (by simp [zah])) hB
  have q := (rb 8 zat (by simp [zah])).below (by simp [zat]) (fitl fb (by simp [zah])) hB
  have P := p
  have Q := q
  obtain ⟨A, c, e1, _⟩ := p
  obtain ⟨B, d, e2, _⟩ := q
  rw [e1] at P ⊢
  rw [e2] at Q ⊢
  exact isEqC r8 g8 (znn W A B c d (a.L 8) (b.L 8) P Q (fa 8 zat (by simp [zah])) (fb 8 zat (by simp [zah])) (hsa 8) (hsb 8)))
 obtain ⟨r9, g9⟩ := zgk (a.L 9 = b.L 9)
 have HK9 : Aside0 (∀ W : World, Below w.heap.size w W → Calls Try.prog 28 #[sa 9, sb 9] W (fun e w' => e = .returned (.bool r9) ∧ Drawn0 W w')) := aK (fun W hB => by
  have p := (ra 9 zau (by simp [zah])).below (by simp [zau]) (fitl fa (by simp [zah])) hB
  have q := (rb 9 zau (by simp [zah])).below (by simp [zau]) (fitl fb (by simp [zah])) hB
  have P := p
  have Q := q
  obtain ⟨A, c, e1, _⟩ := p
  obtain ⟨B, d, e2, _⟩ := q
  rw [e1] at P ⊢
  rw [e2] at Q ⊢
  exact isEqC r9 g9 (zqf W A B c d (a.L 9) (b.L 9) P Q (fa 9 zau (by simp [zah])) (fb 9 zau (by simp [zah])) (hsa 9) (hsb 9)))
 obtain ⟨r10, g10⟩ := zgk (a.L 10 = b.L 10)
 have HK10 : Aside0 (∀ W : World, Below w.heap.size w W → Calls Try.prog 29 #[sa 10, sb 10] W (fun e w' => e = .returned (.bool r10) ∧ Drawn0 W w')) := aK (fun W hB => by
  have p := (ra 10 zaj (by simp [zah])).below (by simp [zaj]) (fitl fa (by simp [zah])) hB
  have q := (rb 10 zaj (by simp [zah])).below (by simp [zaj]) (fitl fb (by simp [zah])) hB
  have P := p
  have Q := q
  obtain ⟨A, c, e1, _⟩ := p
  obtain ⟨B, d, e2, _⟩ := q
  rw [e1] at P ⊢
  rw [e2] at Q ⊢
  exact isEqC r10 g10 (zno W A B c d (a.L 10) (b.L 10) P Q (fa 10 zaj (by simp [zah])) (fb 10 zaj (by simp [zah])) (hsa 10) (hsb 10)))
 clear ea eb
 generalize xi a.c = x at hm ⊢
 generalize xi b.c = y at hm ⊢
 generalize si a.c = s at hm ⊢
 generalize si b.c = t at hm ⊢
 generalize bi a.c = p at hm ⊢
 generalize bi b.c = q at hm ⊢
 have n0 : ∀ b, (x 0 == y 0) = b → (x 0 != y 0) = !b := fun b e => by
  subst e
  rfl
 have n1 : ∀ b, (x 1 == y 1) = b → (x 1 != y 1) = !b := fun b e => by
  subst e
  rfl
 have n2 : ∀ b, (x 2 == y 2) = b → (x 2 != y 2) = !b := fun b e => by
  subst e
  rfl
 have n3 : ∀ b, ((x 4 == y 4) && (x 5 == y 5)) = b → ((!(x 4 == y 4)) || (!(x 5 == y 5))) = !b := fun b e => by
  subst e
  generalize (x 4 == y 4) = A0; generalize (x 5 == y 5) = A1; cases A0 <;> cases A1 <;> rfl
 have n4 : ∀ b, (x 6 == y 6) = b → (x 6 != y 6) = !b := fun b e => by
  subst e
  rfl
 have n5 : ∀ b, (x 7 == y 7) = b → (x 7 != y 7) = !b := fun b e => by
  subst e
  rfl
 have n6 : ∀ b, ((x 11 == y 11) && (x 12 == y 12)) = b → ((!(x 11 == y 11)) || (!(x 12 == y 12))) = !b := fun b e => by
  subst e
  generalize (x 11 == y 11) = A0; generalize (x 12 == y 12) = A1; cases A0 <;> cases A1 <;> rfl
 have n7 : ∀ b, (p 13 == q 13) = b → (!(p 13 == q 13)) = !b := fun b e => by
  subst e
  rfl
 have n8 : ∀ b, (x 14 == y 14) = b → (x 14 != y 14) = !b := fun b e => by
  subst e
  rfl
 have n9 : ∀ b, (x 15 == y 15) = b → (x 15 != y 15) = !b := fun b e => by
  subst e
  rfl
 have n10 : ∀ b, ((s 16).toList == (t 16).toList) = b → (!((s 16).toList == (t 16).toList)) = !b := fun b e => by
  subst e
  rfl
 have n11 : ∀ b, (p 17 == q 17) = b → (!(p 17 == q 17)) = !b := fun b e => by
  subst e
  rfl
 have n12 : ∀ b, ((s 18).toList == (t 18).toList) = b → (!((s 18).toList == (t 18).toList)) = !b := fun b e => by
  subst e
  rfl
 have n13 : ∀ b, ((x 19 == y 19) && (x 20 == y 20)) = b → ((!(x 19 == y 19)) || (!(x 20 == y 20))) = !b := fun b e => by
  subst e
  generalize (x 19 == y 19) = A0; generalize (x 20 == y 20) = A1; cases A0 <;> cases A1 <;> rfl
 have n14 : ∀ b, (x 21 == y 21) = b → (x 21 != y 21) = !b := fun b e => by
  subst e
  rfl
 have n15 : ∀ b, (((x 22 == y 22) && (x 23 == y 23)) && ((p 24 == q 24) && ((s 25).toList == (t 25).toList))) = b → (((!(x 22 == y 22)) || (!(x 23 == y 23))) || ((!(p 24 == q 24)) || (!((s 25).toList == (t 25).toList)))) = !b := fun b e => by
  subst e
  generalize (x 22 == y 22) = A0; generalize (x 23 == y 23) = A1; generalize (p 24 == q 24) = A2; generalize ((s 25).toList == (t 25).toList) = A3; cases A0 <;> cases A1 <;> cases A2 <;> cases A3 <;> rfl
 cases h0 : (x 0 == y 0)
 ·exact (rs_a w x y s t p q sa sb  (.inl (n0 _ h0))).mono (fun e w' h => ⟨false, h.1, ⟨fun h => (by cases h), fun h => (by obtain ⟨⟨q0, q1, q2, q3, q4, q5, q6, q7, q8, q9, q10, q11, q12, q13, q14, q15⟩, _⟩ := hm.1 h; rw [h0] at q0; cases q0)⟩, h.2⟩)
 cases h1 : (x 1 == y 1)
 ·exact (rs_a w x y s t p q sa sb  (.inr (.inl ⟨n0 _ h0, n1 _ h1⟩))).mono (fun e w' h => ⟨false, h.1, ⟨fun h => (by cases h), fun h => (by obtain ⟨⟨q0, q1, q2, q3, q4, q5, q6, q7, q8, q9, q10, q11, q12, q13, q14, q15⟩, _⟩ := hm.1 h; rw [h1] at q1; cases q1)⟩, h.2⟩)
 cases h2 : (x 2 == y 2)
 ·exact (rs_a w x y s t p q sa sb  (.inr (.inr (.inl ⟨n0 _ h0, n1 _ h1, n2 _ h2⟩)))).mono (fun e w' h => ⟨false, h.1, ⟨fun h => (by cases h), fun h => (by obtain ⟨⟨q0, q1, q2, q3, q4, q5, q6, q7, q8, q9, q10, q11, q12, q13, q14, q15⟩, _⟩ := hm.1 h; rw [h2] at q2; cases q2)⟩, h.2⟩)
 cases h3 : ((x 4 == y 4) && (x 5 == y 5))
 ·exact (rs_a w x y s t p q sa sb  (.inr (.inr (.inr (.inl ⟨n0 _ h0, n1 _ h1, n2 _ h2, n3 _ h3⟩))))).mono (fun e w' h => ⟨false, h.1, ⟨fun h => (by cases h), fun h => (by obtain ⟨⟨q0, q1, q2, q3, q4, q5, q6, q7, q8, q9, q10, q11, q12, q13, q14, q15⟩, _⟩ := hm.1 h; rw [h3] at q3; cases q3)⟩, h.2⟩)
 cases h4 : (x 6 == y 6)
 ·exact (rs_a w x y s t p q sa sb  (.inr (.inr (.inr (.inr (.inl ⟨n0 _ h0, n1 _ h1, n2 _ h2, n3 _ h3, n4 _ h4⟩)))))).mono (fun e w' h => ⟨false, h.1, ⟨fun h => (by cases h), fun h => (by obtain ⟨⟨q0, q1, q2, q3, q4, q5, q6, q7, q8, q9, q10, q11, q12, q13, q14, q15⟩, _⟩ := hm.1 h; rw [h4] at q4; cases q4)⟩, h.2⟩)
 cases h5 : (x 7 == y 7)
 ·exact (rs_a w x y s t p q sa sb  (.inr (.inr (.inr (.inr (.inr (.inl ⟨n0 _ h0, n1 _ h1, n2 _ h2, n3 _ h3, n4 _ h4, n5 _ h5⟩))))))).mono (fun e w' h => ⟨false, h.1, ⟨fun h => (by cases h), fun h => (by obtain ⟨⟨q0, q1, q2, q3, q4, q5, q6, q7, q8, q9, q10, q11, q12, q13, q14, q15⟩, _⟩ := hm.1 h; rw [h5] at q5; cases q5)⟩, h.2⟩)
 cases h6 : ((x 11 == y 11) && (x 12 == y 12))
 ·exact (rs_a w x y s t p q sa sb  (.inr (.inr (.inr (.inr (.inr (.inr (.inl ⟨n0 _ h0, n1 _ h1, n2 _ h2, n3 _ h3, n4 _ h4, n5 _ h5, n6 _ h6⟩)))))))).mono (fun e w' h => ⟨false, h.1, ⟨fun h => (by cases h), fun h => (by obtain ⟨⟨q0, q1, q2, q3, q4, q5, q6, q7, q8, q9, q10, q11, q12, q13, q14, q15⟩, _⟩ := hm.1 h; rw [h6] at q6; cases q6)⟩, h.2⟩)
 cases h7 : (p 13 == q 13)
 ·exact (rs_a w x y s t p q sa sb  (.inr (.inr (.inr (.inr (.inr (.inr (.inr (.inl ⟨n0 _ h0, n1 _ h1, n2 _ h2, n3 _ h3, n4 _ h4, n5 _ h5, n6 _ h6, n7 _ h7⟩))))))))).mono (fun e w' h => ⟨false, h.1, ⟨fun h => (by cases h), fun h => (by obtain ⟨⟨q0, q1, q2, q3, q4, q5, q6, q7, q8, q9, q10, q11, q12, q13, q14, q15⟩, _⟩ := hm.1 h; rw [h7] at q7; cases q7)⟩, h.2⟩)
 cases h8 : (x 14 == y 14)
 ·exact (rs_a w x y s t p q sa sb  (.inr (.inr (.inr (.inr (.inr (.inr (.inr (.inr (⟨n0 _ h0, n1 _ h1, n2 _ h2, n3 _ h3, n4 _ h4, n5 _ h5, n6 _ h6, n7 _ h7, n8 _ h8⟩)))))))))).mono (fun e w' h => ⟨false, h.1, ⟨fun h => (by cases h), fun h => (by obtain ⟨⟨q0, q1, q2, q3, q4, q5, q6, q7, q8, q9, q10, q11, q12, q13, q14, q15⟩, _⟩ := hm.1 h; rw [h8] at q8; cases q8)⟩, h.2⟩)
 cases h9 : (x 15 == y 15)
 ·exact (rs_b w x y s t p q sa sb (n0 _ h0) (n1 _ h1) (n2 _ h2) (n3 _ h3) (n4 _ h4) (n5 _ h5) (n6 _ h6) (n7 _ h7) (n8 _ h8) (.inl (n9 _ h9))).mono (fun e w' h => ⟨false, h.1, ⟨fun h => (by cases h), fun h => (by obtain ⟨⟨q0, q1, q2, q3, q4, q5, q6, q7, q8, q9, q10, q11, q12, q13, q14, q15⟩, _⟩ := hm.1 h; rw [h9] at q9; cases q9)⟩, h.2⟩)
 cases h10 : ((s 16).toList == (t 16).toList)
 ·exact (rs_b w x y s t p q sa sb (n0 _ h0) (n1 _ h1) (n2 _ h2) (n3 _ h3) (n4 _ h4) (n5 _ h5) (n6 _ h6) (n7 _ h7) (n8 _ h8) (.inr (.inl ⟨n9 _ h9, n10 _ h10⟩))).mono (fun e w' h => ⟨false, h.1, ⟨fun h => (by cases h), fun h => (by obtain ⟨⟨q0, q1, q2, q3, q4, q5, q6, q7, q8, q9, q10, q11, q12, q13, q14, q15⟩, _⟩ := hm.1 h; rw [h10] at q10; cases q10)⟩, h.2⟩)
 cases h11 : (p 17 == q 17)
 ·exact (rs_b w x y s t p q sa sb (n0 _ h0) (n1 _ h1) (n2 _ h2) (n3 _ h3) (n4 _ h4) (n5 _ h5) (n6 _ h6) (n7 _ h7) (n8 _ h8) (.inr (.inr (.inl ⟨n9 _ h9, n10 _ h10, n11 _ h11⟩)))).mono (fun e w' h => ⟨false, h.1, ⟨fun h => (by cases h), fun h => (by obtain ⟨⟨q0, q1, q2, q3, q4, q5, q6, q7, q8, q9, q10, q11, q12, q13, q14, q15⟩, _⟩ := hm.1 h; rw [h11] at q11; cases q11)⟩, h.2⟩)
 cases h12 : ((s 18).toList == (t 18).toList)
 ·exact (rs_b w x y s t p q sa sb (n0 _ h0) (n1 _ h1) (n2 _ h2) (n3 _ h3) (n4 _ h4) (n5 _ h5) (n6 _ h6) (n7 _ h7) (n8 _ h8) (.inr (.inr (.inr (⟨n9 _ h9, n10 _ h10, n11 _ h11, n12 _ h12⟩))))).mono (fun e w' h => ⟨false, h.1, ⟨fun h => (by cases h), fun h => (by obtain ⟨⟨q0, q1, q2, q3, q4, q5, q6, q7, q8, q9, q10, q11, q12, q13, q14, q15⟩, _⟩ := hm.1 h; rw [h12] at q12; cases q12)⟩, h.2⟩)
 cases h13 : ((x 19 == y 19) && (x 20 == y 20))
 ·exact (rs_c w x y s t p q sa sb (n0 _ h0) (n1 _ h1) (n2 _ h2) (n3 _ h3) (n4 _ h4) (n5 _ h5) (n6 _ h6) (n7 _ h7) (n8 _ h8) (n9 _ h9) (n10 _ h10) (n11 _ h11) (n12 _ h12) (.inl (n13 _ h13))).mono (fun e w' h => ⟨false, h.1, ⟨fun h => (by cases h), fun h => (by obtain ⟨⟨q0, q1, q2, q3, q4, q5, q6, q7, q8, q9, q10, q11, q12, q13, q14, q15⟩, _⟩ := hm.1 h; rw [h13] at q13; cases q13)⟩, h.2⟩)
 cases h14 : (x 21 == y 21)
 ·exact (rs_c w x y s t p q sa sb (n0 _ h0) (n1 _ h1) (n2 _ h2) (n3 _ h3) (n4 _ h4) (n5 _ h5) (n6 _ h6) (n7 _ h7) (n8 _ h8) (n9 _ h9) (n10 _ h10) (n11 _ h11) (n12 _ h12) (.inr (.inl ⟨n13 _ h13, n14 _ h14⟩))).mono (fun e w' h => ⟨false, h.1, ⟨fun h => (by cases h), fun h => (by obtain ⟨⟨q0, q1, q2, q3, q4, q5, q6, q7, q8, q9, q10, q11, q12, q13, q14, q15⟩, _⟩ := hm.1 h; rw [h14] at q14; cases q14)⟩, h.2⟩)
 cases h15 : (((x 22 == y 22) && (x 23 == y 23)) && ((p 24 == q 24) && ((s 25).toList == (t 25).toList)))
 ·exact (rs_c w x y s t p q sa sb (n0 _ h0) (n1 _ h1) (n2 _ h2) (n3 _ h3) (n4 _ h4) (n5 _ h5) (n6 _ h6) (n7 _ h7) (n8 _ h8) (n9 _ h9) (n10 _ h10) (n11 _ h11) (n12 _ h12) (.inr (.inr (⟨n13 _ h13, n14 _ h14, n15 _ h15⟩)))).mono (fun e w' h => ⟨false, h.1, ⟨fun h => (by cases h), fun h => (by obtain ⟨⟨q0, q1, q2, q3, q4, q5, q6, q7, q8, q9, q10, q11, q12, q13, q14, q15⟩, _⟩ := hm.1 h; rw [h15] at q15; cases q15)⟩, h.2⟩)
 cases r3
 ·exact (rs_d w x y s t p q sa sb false r8 r9 r10 (n0 _ h0) (n1 _ h1) (n2 _ h2) (n3 _ h3) (n4 _ h4) (n5 _ h5) (n6 _ h6) (n7 _ h7) (n8 _ h8) (n9 _ h9) (n10 _ h10) (n11 _ h11) (n12 _ h12) (n13 _ h13) (n14 _ h14) (n15 _ h15) HK3 HK8 HK9 HK10 (.inl rfl)).mono (fun e w' h => ⟨false, h.1, ⟨fun h => (by cases h), fun h => (by have := g3.2 (hm.1 h).2.1; cases this)⟩, h.2⟩)
 cases r8
 ·exact (rs_d w x y s t p q sa sb true false r9 r10 (n0 _ h0) (n1 _ h1) (n2 _ h2) (n3 _ h3) (n4 _ h4) (n5 _ h5) (n6 _ h6) (n7 _ h7) (n8 _ h8) (n9 _ h9) (n10 _ h10) (n11 _ h11) (n12 _ h12) (n13 _ h13) (n14 _ h14) (n15 _ h15) HK3 HK8 HK9 HK10 (.inr ⟨rfl, rfl⟩)).mono (fun e w' h => ⟨false, h.1, ⟨fun h => (by cases h), fun h => (by have := g8.2 (hm.1 h).2.2.1; cases this)⟩, h.2⟩)
 cases r9
 ·exact (rs_e w x y s t p q sa sb true true false r10 (n0 _ h0) (n1 _ h1) (n2 _ h2) (n3 _ h3) (n4 _ h4) (n5 _ h5) (n6 _ h6) (n7 _ h7) (n8 _ h8) (n9 _ h9) (n10 _ h10) (n11 _ h11) (n12 _ h12) (n13 _ h13) (n14 _ h14) (n15 _ h15) HK3 HK8 HK9 HK10 (.inl ⟨rfl, rfl, rfl⟩)).mono (fun e w' h => ⟨false, h.1, ⟨fun h => (by cases h), fun h => (by have := g9.2 (hm.1 h).2.2.2.1; cases this)⟩, h.2⟩)
 cases r10
 ·exact (rs_e w x y s t p q sa sb true true true false (n0 _ h0) (n1 _ h1) (n2 _ h2) (n3 _ h3) (n4 _ h4) (n5 _ h5) (n6 _ h6) (n7 _ h7) (n8 _ h8) (n9 _ h9) (n10 _ h10) (n11 _ h11) (n12 _ h12) (n13 _ h13) (n14 _ h14) (n15 _ h15) HK3 HK8 HK9 HK10 (.inr ⟨rfl, rfl, rfl, rfl⟩)).mono (fun e w' h => ⟨false, h.1, ⟨fun h => (by cases h), fun h => (by have := g10.2 (hm.1 h).2.2.2.2; cases this)⟩, h.2⟩)
 exact (rs_f w x y s t p q sa sb true true true true (n0 _ h0) (n1 _ h1) (n2 _ h2) (n3 _ h3) (n4 _ h4) (n5 _ h5) (n6 _ h6) (n7 _ h7) (n8 _ h8) (n9 _ h9) (n10 _ h10) (n11 _ h11) (n12 _ h12) (n13 _ h13) (n14 _ h14) (n15 _ h15) HK3 HK8 HK9 HK10 ⟨rfl, rfl, rfl, rfl⟩).mono (fun e w' h => ⟨true, h.1, ⟨fun _ => hm.2 ⟨⟨h0, h1, h2, h3, h4, h5, h6, h7, h8, h9, h10, h11, h12, h13, h14, h15⟩, g3.1 rfl, g8.1 rfl, g9.1 rfl, g10.1 rfl⟩, fun _ => rfl⟩, h.2⟩)
end Go.Proofs.Ytcbehfbfaonanaa.Wr
end
section

namespace Go.Proofs.Ytcbehfbfaonanaa.Wr
open Go.RowKit Go.Proofs.YtcbehfbfaonanaaW.PrintWords Go.Proofs.YtcbehfbfaonanaaW.PrintLast Go.Proofs.YtcbehfbfaonanaaW.PrintMore Go.Proofs.Ytcbehfbfaonanaa.Pk
set_option linter.unusedVariables false
set_option linter.unusedSimpArgs false
def RFr (n g : Nat) (a : Act) : Prop := a.tmps.size = n ∧ a.tmps[1]? = some (.pointer (some ⟨g, 0, none⟩)) ∧ a.defers = []
theorem RFr.lit {n g : Nat} {a : Act} (h : RFr n g a) (l : List Value) (hl : (List.range n).map (fun i => a.tmps.getD i undef) = l) : a = ⟨l.toArray, []⟩ := by
 obtain ⟨h1, h2, h3⟩ := h
 cases a with
 | mk t d =>
  simp only at h1 h2 h3 hl
  subst h3 hl
  congr 1
  refine Array.ext_getElem? (fun i => ?_)
  simp only [List.getElem?_toArray, List.getElem?_map]
  by_cases hi : i < n
  ·rw [List.getElem?_range hi]
   simp [Array.getD, h1, hi]
  ·rw [Array.getElem?_eq_none (by omega)]
   rw [List.getElem?_eq_none (by rw [List.length_range]; omega)]
   rfl
def cl : Code → Code | .seq a _ => a | .block _ a => a | .loop a => a | c => c
def cr : Code → Code | .seq _ b => b | c => c
def InB (n l u : Int) : Bool := decide (l ≤ n ∧ n ≤ u)
theorem in_c (n l u : Int) (r : Bool) (h : InB n l u = r) (w : World) : Calls Try.prog 47 #[.int .i64 n, .int .i64 l, .int .i64 u] w (fun e w' => e = .returned (.bool r) ∧ Drawn0 w w') := by
 refine PRf.meridianref17_In.calls n l u r w ?_
 unfold PRf.meridianref17_In.f
 subst h
 unfold InB
 by_cases h1 : n ≥ l
 ·rw [if_pos h1]
  by_cases h2 : n ≤ u
  ·rw [decide_eq_true h2, decide_eq_true ⟨h1, h2⟩]
  ·rw [decide_eq_false h2, decide_eq_false (fun k => h2 k.2)]
 ·rw [if_neg h1, decide_eq_false (fun k => h1 k.1)]
open PRf in
theorem ztv (W : World) (xs : List S24) (inner : List Value) (hr : Reps (k24.M W W.heap.size (fun _ => True)) 2 xs inner) (hm : xs.length ≤ 1000) :
  Kd.C k24 (W.alloc (.cells inner.toArray 24)) (some ⟨W.heap.size, 0, none⟩) xs.length xs := by
 have h : Kd.R k24 24 (W.alloc (.cells inner.toArray 24)) W.heap.size (fun _ => True) (.slice (some ⟨W.heap.size, 0, none⟩) xs.length xs.length) xs := by
  refine ⟨fun k hk => trivial, inner, ?_, ?_⟩
  ·have h2 := World.ownsRow_lit (base := W.heap.size) (e := 24) (size := PRf.k24.sz) W inner.toArray xs.length (Nat.le_refl _) (by simp only [maxLen]; omega) (by rw [List.size_toArray]; exact hr.1)
   simpa using h2
  ·refine hr.imp_ (fun p c hp => k24.M_mono (fun k hk => ⟨trivial, fun he => ?_⟩) (Kd.M_below (k24.M_bound hp) (zaa (Below.refl _ _) _)))
   have h3 : k = W.heap.size := by simpa [Value.ownBlock] using he
   have := hk.2.2.1
   omega
 exact (Kd.R_reads' h).2.2
def PosB (l : List (Int × Int)) : Bool := l.all (fun q => InB q.1 0 64 && InB q.2 0 512)
theorem in_f (n l u : Int) : PRf.meridianref17_In.f n l u = some (InB n l u) := by
 unfold PRf.meridianref17_In.f InB
 by_cases h1 : n ≥ l
 ·rw [if_pos h1]
  by_cases h2 : n ≤ u
  ·rw [decide_eq_true h2, decide_eq_true ⟨h1, h2⟩]
  ·rw [decide_eq_false h2, decide_eq_false (fun k => h2 k.2)]
 ·rw [if_neg h1, decide_eq_false (fun k => h1 k.1)]
theorem pos_l (l : List (Int × Int)) (hl : l.length ≤ 1000) : ∀ (t : List (Int × Int)) (j : Nat), l.drop j = t → ∀ k, t.length < k → PRf.meridianref17_Pos.l0 k (l.map fun q => ⟨q.1, q.2⟩) (j : Int) = some (PosB t)
 | [], j, ht, k + 1, hk => by
  have : l.length ≤ j := by simpa using ht
  unfold PRf.meridianref17_Pos.l0
  rw [if_neg (by rw [List.length_map]; omega)]
  rfl
 | q :: t, j, ht, k + 1, hk => by
  have hj : l[j]? = some q := by have := congrArg (·[0]?) ht; simpa using this
  have hlt : j < l.length := (List.getElem?_eq_some_iff.1 hj).1
  have hd : l.drop (j + 1) = t := by have := congrArg (List.drop 1) ht; simpa [Nat.add_comm] using this
  have hr : PRf.rd_T24 (l.map fun q => ⟨q.1, q.2⟩) (j : Int) = ⟨q.1, q.2⟩ := by
   unfold PRf.rd_T24
   rw [List.getD_eq_getElem?_getD, Int.toNat_natCast, List.getElem?_map, hj]
   rfl
  unfold PRf.meridianref17_Pos.l0
  rw [if_pos (by rw [List.length_map]; omega), if_pos (by omega), hr, in_f, in_f]
  have hw : wrap64 ((j : Int) + 1) = ((j + 1 : Nat) : Int) := by unfold wrap64; omega
  rw [hw, pos_l l hl t (j + 1) hd k (by simp only [List.length_cons] at hk; omega)]
  simp only [Option.bind_some]
  show _ = some ((InB q.1 0 64 && InB q.2 0 512) && PosB t)
  cases InB q.1 0 64 <;> cases InB q.2 0 512 <;> rfl
theorem pos_f (l : List (Int × Int)) (hl : l.length ≤ 1000) : PRf.meridianref17_Pos.f (l.length + 1) (l.map fun q => ⟨q.1, q.2⟩) = some (PosB l) := pos_l l hl l 0 rfl _ (by omega)
theorem ztw (a b : Int) (r : Bool) (h : PosB [(a, b)] = r) (W : World) : Calls Try.prog 49 #[.slice (some ⟨W.heap.size, 0, none⟩) 1 1] (W.alloc (.cells #[.int .i64 a, .int .i64 b] 24)) (fun e w' => e = .returned (.bool r) ∧ Drawn0 (W.alloc (.cells #[.int .i64 a, .int .i64 b] 24)) w') := by
 subst h
 refine PRf.meridianref17_Pos.calls 2 _ 1 [⟨a, b⟩] _ _ (ztv W [⟨a, b⟩] [.int .i64 a, .int .i64 b] (Reps.c2 (PRf.k24_mkM _ _ _ ⟨a, b⟩) (Reps.none _ _)) (by simp)) (by simp) (pos_f [(a, b)] (by simp))
theorem pos4_c (a b a1 b1 a2 b2 a3 b3 : Int) (r : Bool) (h : PosB [(a, b), (a1, b1), (a2, b2), (a3, b3)] = r) (W : World) :
  Calls Try.prog 49 #[.slice (some ⟨W.heap.size, 0, none⟩) 4 4] (W.alloc (.cells #[.int .i64 a, .int .i64 b, .int .i64 a1, .int .i64 b1, .int .i64 a2, .int .i64 b2, .int .i64 a3, .int .i64 b3] 24)) (fun e w' => e = .returned (.bool r) ∧ Drawn0 (W.alloc (.cells #[.int .i64 a, .int .i64 b, .int .i64 a1, .int .i64 b1, .int .i64 a2, .int .i64 b2, .int .i64 a3, .int .i64 b3] 24)) w') := by
 subst h
 refine PRf.meridianref17_Pos.calls 5 _ 4 [⟨a, b⟩, ⟨a1, b1⟩, ⟨a2, b2⟩, ⟨a3, b3⟩] _ _ (ztv W [⟨a, b⟩, ⟨a1, b1⟩, ⟨a2, b2⟩, ⟨a3, b3⟩] [.int .i64 a, .int .i64 b, .int .i64 a1, .int .i64 b1, .int .i64 a2, .int .i64 b2, .int .i64 a3, .int .i64 b3] (Reps.c2 (PRf.k24_mkM _ _ _ ⟨a, b⟩) (Reps.c2 (PRf.k24_mkM _ _ _ ⟨a1, b1⟩) (Reps.c2 (PRf.k24_mkM _ _ _ ⟨a2, b2⟩) (Reps.c2 (PRf.k24_mkM _ _ _ ⟨a3, b3⟩) (Reps.none _ _))))) (by simp)) (by simp) (pos_f [(a, b), (a1, b1), (a2, b2), (a3, b3)] (by simp))
def rfr (g : Nat) (f : Nat → Value) : Act := ⟨#[f 0, .pointer (some ⟨g, 0, none⟩), f 2, f 3, f 4, f 5, f 6, f 7, f 8, f 9, f 10, f 11, f 12, f 13, f 14, f 15, f 16, f 17, f 18, f 19, f 20, f 21, f 22, f 23, f 24, f 25, f 26, f 27, f 28, f 29, f 30, f 31, f 32, f 33, f 34, f 35, f 36, f 37, f 38, f 39, f 40, f 41, f 42, f 43, f 44, f 45, f 46, f 47, f 48, f 49, f 50, f 51, f 52, f 53, f 54, f 55, f 56, f 57, f 58, f 59, f 60, f 61, f 62, f 63, f 64, f 65, f 66, f 67, f 68, f 69, f 70, f 71, f 72, f 73, f 74, f 75, f 76, f 77, f 78, f 79, f 80, f 81, f 82, f 83, f 84, f 85, f 86, f 87, f 88, f 89, f 90, f 91, f 92, f 93, f 94, f 95, f 96, f 97, f 98, f 99, f 100, f 101, f 102, f 103, f 104, f 105, f 106, f 107, f 108, f 109, f 110, f 111, f 112, f 113, f 114, f 115, f 116, f 117, f 118, f 119, f 120, f 121, f 122, f 123, f 124, f 125, f 126, f 127, f 128, f 129, f 130, f 131, f 132, f 133, f 134, f 135, f 136, f 137, f 138, f 139, f 140, f 141, f 142, f 143, f 144, f 145, f 146, f 147, f 148, f 149, f 150, f 151, f 152, f 153, f 154, f 155, f 156, f 157, f 158, f 159, f 160, f 161, f 162, f 163, f 164, f 165, f 166, f 167, f 168, f 169, f 170, f 171, f 172, f 173, f 174, f 175, f 176, f 177, f 178, f 179, f 180, f 181, f 182, f 183, f 184, f 185, f 186, f 187, f 188, f 189, f 190, f 191, f 192, f 193, f 194, f 195, f 196, f 197, f 198, f 199, f 200, f 201, f 202, f 203, f 204, f 205, f 206, f 207, f 208, f 209, f 210, f 211, f 212, f 213, f 214, f 215, f 216, f 217, f 218, f 219, f 220, f 221, f 222, f 223, f 224, f 225, f 226, f 227, f 228, f 229, f 230, f 231, f 232, f 233, f 234, f 235, f 236, f 237, f 238, f 239, f 240, f 241, f 242, f 243, f 244, f 245, f 246], []⟩
theorem RFr.open {g : Nat} {a : Act} (h : RFr 247 g a) : a = rfr g (fun i => a.tmps.getD i undef) :=
 h.lit _ (by
  have e : a.tmps.getD 1 undef = .pointer (some ⟨g, 0, none⟩) := by rw [Array.getD_eq_getD_getElem?, h.2.1]; rfl
  rw [← e]
  rfl)
noncomputable def rb0 : Code := Try.f21.body.getD .skip
noncomputable def rb1 : Code := cr rb0
noncomputable def rb3 : Code := cr rb1
noncomputable def rb5 : Code := cr rb3
noncomputable def rb7 : Code := cr rb5
noncomputable def rb9 : Code := cr rb7
noncomputable def rb15 : Code := cr rb9
noncomputable def rb21 : Code := cr rb15
noncomputable def rb27 : Code := cr rb21
noncomputable def rb32 : Code := cr rb27
end Go.Proofs.Ytcbehfbfaonanaa.Wr

end
section
namespace Go.Proofs.Ytcbehfbfaonanaa.Wr
open Go.RowKit Go.Proofs.YtcbehfbfaonanaaW.PrintWords Go.Proofs.YtcbehfbfaonanaaW.PrintLast Go.Proofs.YtcbehfbfaonanaaW.PrintMore Go.Proofs.Ytcbehfbfaonanaa.Pk
open Go.Proofs.Ytcbehfbfaonanaa.PFr (zcc zdf ansE Ok)
set_option linter.unusedVariables false
set_option linter.unusedSimpArgs false
theorem wp_calls {P : Program} {o : Oper} {a : Act} {w : World} {K : Act → World → Prop} {Q : Exit → Act → World → Prop} {f : FuncId} {fn : Func} {os : Array Operand} {ts : Array TypeId} (hf : P.funcs[f]? = some fn) (hname : (fn.name == "runtime.NumGoroutine") = false) (hb : fn.body.isSome = true) (args : Array Value)
  (hop : o.op = .call { callee := .value (.func f), args := os, argTypes := ts }) (hargs : os.map a.eval = args)
  (h : Calls P f args w fun e w' => ∃ v, e = .returned v ∧ K (a.put o.dst v) w') : Oper.wp P o a w K Q := by
 have he := zmy hf hname hb args w
 have hrun : (execOp a.eval o).run P w = .ok (.enter f args) w := by
  unfold execOp
  simp [hop, resolve, Deferred.ofValue, invoke, Act.eval, hargs, he]
 unfold Oper.wp
 rw [hrun, Oper.upon_enter]
 refine h.mono fun e w'' hh => ?_
 obtain ⟨v, rfl, hk⟩ := hh
 exact hk
end Go.Proofs.Ytcbehfbfaonanaa.Wr
end
