/- Part 4 of the texts that walk the program and tell its laws, joined in the order of their building. No conditions. -/
import Derived.Test.YtcbehfbfaonanaaJw2
import Derived.Deep.RegionHeld3
import Derived.Deep.WholeRow
set_option maxRecDepth 100000
set_option maxHeartbeats 16000000
section
namespace Go.Proofs.Ytcbehfbfaonanaa.Wr
open Go.RowKit Go.Proofs.YtcbehfbfaonanaaW.PrintWords Go.Proofs.YtcbehfbfaonanaaW.PrintLast Go.Proofs.YtcbehfbfaonanaaW.PrintMore Go.Proofs.Ytcbehfbfaonanaa.Pk
set_option linter.unusedVariables false
set_option linter.unusedSimpArgs false
theorem zmi (w : World) (v : Value) (m : M) (sv : Nat → Value) (h : MsgRd w v m sv) (hs : Small m) :
  Calls Try.prog 19 #[v] w (IsPay m w) := by
 obtain ⟨ev, ht, hf, hr⟩ := h
 have HH := aK (And.intro ht (And.intro hf hs))
 obtain ⟨x0, e0⟩ := ht 0 rfl
 have E0 := aK e0
 obtain ⟨x1, e1⟩ := ht 1 rfl
 have E1 := aK e1
 obtain ⟨x2, e2⟩ := ht 2 rfl
 have E2 := aK e2
 obtain ⟨x4, e4⟩ := ht 4 rfl
 have E4 := aK e4
 obtain ⟨x5, e5⟩ := ht 5 rfl
 have E5 := aK e5
 obtain ⟨x6, e6⟩ := ht 6 rfl
 have E6 := aK e6
 obtain ⟨x7, e7⟩ := ht 7 rfl
 have E7 := aK e7
 obtain ⟨x11, e11⟩ := ht 11 rfl
 have E11 := aK e11
 obtain ⟨x12, e12⟩ := ht 12 rfl
 have E12 := aK e12
 obtain ⟨x13, e13⟩ := ht 13 rfl
 have E13 := aK e13
 obtain ⟨x14, e14⟩ := ht 14 rfl
 have E14 := aK e14
 obtain ⟨x15, e15⟩ := ht 15 rfl
 have E15 := aK e15
 obtain ⟨x16, e16⟩ := ht 16 rfl
 have E16 := aK e16
 obtain ⟨x17, e17⟩ := ht 17 rfl
 have E17 := aK e17
 obtain ⟨x18, e18⟩ := ht 18 rfl
 have E18 := aK e18
 obtain ⟨x19, e19⟩ := ht 19 rfl
 have E19 := aK e19
 obtain ⟨x20, e20⟩ := ht 20 rfl
 have E20 := aK e20
 obtain ⟨x21, e21⟩ := ht 21 rfl
 have E21 := aK e21
 obtain ⟨x22, e22⟩ := ht 22 rfl
 have E22 := aK e22
 obtain ⟨x23, e23⟩ := ht 23 rfl
 have E23 := aK e23
 obtain ⟨x24, e24⟩ := ht 24 rfl
 have E24 := aK e24
 obtain ⟨x25, e25⟩ := ht 25 rfl
 have E25 := aK e25
 have HC := aK (fun (W : World) (hB : Below w.heap.size w W) => And.intro (zlz W (sv 3) (m.L 3) ((hr 3 zak (by simp [zah])).below (by simp [zak]) (fitl hf (by simp [zah])) hB) (hf 3 zak (by simp [zah])) (hs.few 3)) (And.intro (zne W (sv 8) (m.L 8) ((hr 8 zat (by simp [zah])).below (by simp [zat]) (fitl hf (by simp [zah])) hB) (hf 8 zat (by simp [zah])) (hs.few 8)) (And.intro (znf W (sv 9) (m.L 9) ((hr 9 zau (by simp [zah])).below (by simp [zau]) (fitl hf (by simp [zah])) hB) (hf 9 zau (by simp [zah])) (hs.few 9)) (zmb W (sv 10) (m.L 10) ((hr 10 zaj (by simp [zah])).below (by simp [zaj]) (fitl hf (by simp [zah])) hB) (hf 10 zaj (by simp [zah])) (hs.few 10)))))
 obtain ⟨A3, c3, s3, R3⟩ := hr 3 zak (by simp [zah])
 obtain ⟨A8, c8, s8, R8⟩ := hr 8 zat (by simp [zah])
 obtain ⟨A9, c9, s9, R9⟩ := hr 9 zau (by simp [zah])
 obtain ⟨A10, c10, s10, R10⟩ := hr 10 zaj (by simp [zah])
 have ev' : v = .agg #[.int .i64 x0, .int .i64 x1, .int .i64 x2, .slice A3 (m.L 3).length c3, .int .i64 x4, .int .i64 x5, .int .i64 x6, .int .i64 x7, .slice A8 (m.L 8).length c8, .slice A9 (m.L 9).length c9, .slice A10 (m.L 10).length c10, .int .i64 x11, .int .i64 x12, .bool x13, .int .i64 x14, .int .i64 x15, .string x16, .bool x17, .string x18, .int .i64 x19, .int .i64 x20, .int .i64 x21, .int .i64 x22, .int .i64 x23, .bool x24, .string x25] := by rw [ev]; simp only [msgV, msgC, e0, e1, e2, e4, e5, e6, e7, e11, e12, e13, e14, e15, e16, e17, e18, e19, e20, e21, e22, e23, e24, e25, s3, s8, s9, s10]
 rw [s3] at HC
 rw [s8] at HC
 rw [s9] at HC
 rw [s10] at HC
 rw [ev']
 clear ev ev' ht hf hr hs e0 e1 e2 e4 e5 e6 e7 e11 e12 e13 e14 e15 e16 e17 e18 e19 e20 e21 e22 e23 e24 e25 s3 R3 s8 R8 s9 R9 s10 R10
 by_cases h1 : x0 < 1
 ·have HP := aK (show zgu m = false from by unfold zgu zbs; rw [E0.out]; simp only [decide_eq_false (show ¬ 1 ≤ x0 from by omega), Bool.false_and])
  clear HH HC E0 E1 E2 E4 E5 E6 E7 E11 E12 E13 E14 E15 E16 E17 E18 E19 E20 E21 E22 E23 E24 E25
  go_enter Try.func19, Try.ntmps19
  go_wp2_with (first | ((with_reducible refine zag (N := 1) rfl ?_); refine zbf rfl 35 (.tmp 0) rfl #[.int .i64 x0, .int .i64 x1, .int .i64 x2, .slice A3 (m.L 3).length c3, .int .i64 x4, .int .i64 x5, .int .i64 x6, .int .i64 x7, .slice A8 (m.L 8).length c8, .slice A9 (m.L 9).length c9, .slice A10 (m.L 10).length c10, .int .i64 x11, .int .i64 x12, .bool x13, .int .i64 x14, .int .i64 x15, .string x16, .bool x17, .string x18, .int .i64 x19, .int .i64 x20, .int .i64 x21, .int .i64 x22, .int .i64 x23, .bool x24, .string x25] rfl ?_; intro gb w1 hg hbox hb; have HB1 := aK hb; clear hb hg; have q0 := zab hbox 0; simp only [List.getElem?_toArray, List.getElem?_cons_zero, List.getElem?_cons_succ] at q0; clear hbox))
  go_ret2
  exact ⟨HB1.out, _, _, rfl, HP.out.symm, fun h => by cases h⟩
 by_cases h2 : 10 < x0
 ·have HP := aK (show zgu m = false from by unfold zgu zbs; rw [E0.out]; simp only [decide_eq_false (show ¬ x0 ≤ 10 from by omega), Bool.and_false, Bool.false_and])
  clear HH HC E0 E1 E2 E4 E5 E6 E7 E11 E12 E13 E14 E15 E16 E17 E18 E19 E20 E21 E22 E23 E24 E25
  go_enter Try.func19, Try.ntmps19
  go_wp2_with (first | ((with_reducible refine zag (N := 1) rfl ?_); refine zbf rfl 35 (.tmp 0) rfl #[.int .i64 x0, .int .i64 x1, .int .i64 x2, .slice A3 (m.L 3).length c3, .int .i64 x4, .int .i64 x5, .int .i64 x6, .int .i64 x7, .slice A8 (m.L 8).length c8, .slice A9 (m.L 9).length c9, .slice A10 (m.L 10).length c10, .int .i64 x11, .int .i64 x12, .bool x13, .int .i64 x14, .int .i64 x15, .string x16, .bool x17, .string x18, .int .i64 x19, .int .i64 x20, .int .i64 x21, .int .i64 x22, .int .i64 x23, .bool x24, .string x25] rfl ?_; intro gb w1 hg hbox hb; have HB1 := aK hb; clear hb hg; have q0 := zab hbox 0; simp only [List.getElem?_toArray, List.getElem?_cons_zero, List.getElem?_cons_succ] at q0; clear hbox))
  go_ret2
  exact ⟨HB1.out, _, _, rfl, HP.out.symm, fun h => by cases h⟩
 have HK := aK (show zbs m = x0 from by unfold zbs; rw [E0.out])
 go_enter Try.func19, Try.ntmps19
 go_wp2_with (first | ((with_reducible refine zag (N := 1) rfl ?_); refine zbf rfl 35 (.tmp 0) rfl #[.int .i64 x0, .int .i64 x1, .int .i64 x2, .slice A3 (m.L 3).length c3, .int .i64 x4, .int .i64 x5, .int .i64 x6, .int .i64 x7, .slice A8 (m.L 8).length c8, .slice A9 (m.L 9).length c9, .slice A10 (m.L 10).length c10, .int .i64 x11, .int .i64 x12, .bool x13, .int .i64 x14, .int .i64 x15, .string x16, .bool x17, .string x18, .int .i64 x19, .int .i64 x20, .int .i64 x21, .int .i64 x22, .int .i64 x23, .bool x24, .string x25] rfl ?_; intro gb w1 hg hbox hb; have HB1 := aK hb; have HX1 := aK hbox; have HG1 := aK hg; clear hb hg; have q0 := zab hbox 0; simp only [List.getElem?_toArray, List.getElem?_cons_zero, List.getElem?_cons_succ] at q0; have q1 := zab hbox 1; simp only [List.getElem?_toArray, List.getElem?_cons_zero, List.getElem?_cons_succ] at q1; have q2 := zab hbox 2; simp only [List.getElem?_toArray, List.getElem?_cons_zero, List.getElem?_cons_succ] at q2; have q3 := zab hbox 3; simp only [List.getElem?_toArray, List.getElem?_cons_zero, List.getElem?_cons_succ] at q3; have q4 := zab hbox 4; simp only [List.getElem?_toArray, List.getElem?_cons_zero, List.getElem?_cons_succ] at q4; have q5 := zab hbox 5; simp only [List.getElem?_toArray, List.getElem?_cons_zero, List.getElem?_cons_succ] at q5; have q6 := zab hbox 6; simp only [List.getElem?_toArray, List.getElem?_cons_zero, List.getElem?_cons_succ] at q6; have q7 := zab hbox 7; simp only [List.getElem?_toArray, List.getElem?_cons_zero, List.getElem?_cons_succ] at q7; have q8 := zab hbox 8; simp only [List.getElem?_toArray, List.getElem?_cons_zero, List.getElem?_cons_succ] at q8; have q9 := zab hbox 9; simp only [List.getElem?_toArray, List.getElem?_cons_zero, List.getElem?_cons_succ] at q9; have q10 := zab hbox 10; simp only [List.getElem?_toArray, List.getElem?_cons_zero, List.getElem?_cons_succ] at q10; have q11 := zab hbox 11; simp only [List.getElem?_toArray, List.getElem?_cons_zero, List.getElem?_cons_succ] at q11; have q12 := zab hbox 12; simp only [List.getElem?_toArray, List.getElem?_cons_zero, List.getElem?_cons_succ] at q12; have q13 := zab hbox 13; simp only [List.getElem?_toArray, List.getElem?_cons_zero, List.getElem?_cons_succ] at q13; have q14 := zab hbox 14; simp only [List.getElem?_toArray, List.getElem?_cons_zero, List.getElem?_cons_succ] at q14; have q15 := zab hbox 15; simp only [List.getElem?_toArray, List.getElem?_cons_zero, List.getElem?_cons_succ] at q15; have q16 := zab hbox 16; simp only [List.getElem?_toArray, List.getElem?_cons_zero, List.getElem?_cons_succ] at q16; have q17 := zab hbox 17; simp only [List.getElem?_toArray, List.getElem?_cons_zero, List.getElem?_cons_succ] at q17; have q18 := zab hbox 18; simp only [List.getElem?_toArray, List.getElem?_cons_zero, List.getElem?_cons_succ] at q18; have q19 := zab hbox 19; simp only [List.getElem?_toArray, List.getElem?_cons_zero, List.getElem?_cons_succ] at q19; have q20 := zab hbox 20; simp only [List.getElem?_toArray, List.getElem?_cons_zero, List.getElem?_cons_succ] at q20; have q21 := zab hbox 21; simp only [List.getElem?_toArray, List.getElem?_cons_zero, List.getElem?_cons_succ] at q21; have q22 := zab hbox 22; simp only [List.getElem?_toArray, List.getElem?_cons_zero, List.getElem?_cons_succ] at q22; have q23 := zab hbox 23; simp only [List.getElem?_toArray, List.getElem?_cons_zero, List.getElem?_cons_succ] at q23; have q24 := zab hbox 24; simp only [List.getElem?_toArray, List.getElem?_cons_zero, List.getElem?_cons_succ] at q24; have q25 := zab hbox 25; simp only [List.getElem?_toArray, List.getElem?_cons_zero, List.getElem?_cons_succ] at q25; clear hbox) | ((with_reducible refine zag (N := 4) rfl ?_); refine zbe rfl 35 rfl _ (zci _) ?_; intro g4 w2 hg hbox hb; have HB2 := aK hb; have HX2 := aK hbox; have HG2 := aK hg; clear hb hg hbox) | ((with_reducible refine zan (t := 35) (p := 4) (v := .tmp 48) rfl ?_); refine zbk rfl 35 (.tmp 4) (.tmp 48) rfl g4 rfl #[.int .i64 x0, .int .i64 x1, .int .i64 x2, .slice none 0 0, .int .i64 x4, .int .i64 x5, .int .i64 x6, .int .i64 x7, .slice none 0 0, .slice none 0 0, .slice none 0 0, .int .i64 x11, .int .i64 x12, .bool x13, .int .i64 x14, .int .i64 x15, .string x16, .bool x17, .string x18, .int .i64 x19, .int .i64 x20, .int .i64 x21, .int .i64 x22, .int .i64 x23, .bool x24, .string x25] _ rfl _ HX2.out rfl zay rfl ?_; intro w3 hX hO; have HX3 := aK hX; have HO3 := aK hO; clear hX hO))
 have hgb := zad HX1.out
 have hg4 := HG2.out
 have hne : gb ≠ g4 := by omega
 have hne' : g4 ≠ gb := by omega
 have HGE := aK (show w.heap.size ≤ g4 from by have := HB1.out.size; omega)
 have HXb := aK (show w3.heap[gb]? = some (.cells #[.int .i64 x0, .int .i64 x1, .int .i64 x2, .slice A3 (m.L 3).length c3, .int .i64 x4, .int .i64 x5, .int .i64 x6, .int .i64 x7, .slice A8 (m.L 8).length c8, .slice A9 (m.L 9).length c9, .slice A10 (m.L 10).length c10, .int .i64 x11, .int .i64 x12, .bool x13, .int .i64 x14, .int .i64 x15, .string x16, .bool x17, .string x18, .int .i64 x19, .int .i64 x20, .int .i64 x21, .int .i64 x22, .int .i64 x23, .bool x24, .string x25] 35 (0, 0)) from (HO3.out.block gb (by have := HB2.out.size; omega) hne).trans ((HB2.out.block gb hgb).trans HX1.out))
 have HBw := aK (zaz (HB1.out.trans (HB2.out.mono HB1.out.size)) HO3.out (by have := HB1.out.size; have := HB2.out.size; omega) (fun k hk => by have := HB1.out.size; have hk' : k = g4 := hk; omega))
 clear q0 q1 q2 q3 q4 q5 q6 q7 q8 q9 q10 q11 q12 q13 q14 q15 q16 q17 q18 q19 q20 q21 q22 q23 q24 q25 HB1 HX1 HG1 HB2 HX2 HG2 HO3 hgb hg4
 have t3 := zab HXb.out 3
 simp only [List.getElem?_toArray, List.getElem?_cons_zero, List.getElem?_cons_succ] at t3
 have t8 := zab HXb.out 8
 simp only [List.getElem?_toArray, List.getElem?_cons_zero, List.getElem?_cons_succ] at t8
 have t9 := zab HXb.out 9
 simp only [List.getElem?_toArray, List.getElem?_cons_zero, List.getElem?_cons_succ] at t9
 have t10 := zab HXb.out 10
 simp only [List.getElem?_toArray, List.getElem?_cons_zero, List.getElem?_cons_succ] at t10
 go_region_held3 (fun W => W.cell? ⟨gb, 3, none⟩ = some (.slice A3 (m.L 3).length c3) ∧ W.cell? ⟨gb, 8, none⟩ = some (.slice A8 (m.L 8).length c8) ∧ W.cell? ⟨gb, 9, none⟩ = some (.slice A9 (m.L 9).length c9) ∧ W.cell? ⟨gb, 10, none⟩ = some (.slice A10 (m.L 10).length c10)) (go_keep) ((first | (go_at_call 35; (with_reducible refine ((HC.out _ HBw.out.drew).1).mono ?_); rintro e w4 ⟨s, rfl, hB, hA, hR, hN⟩; obtain ⟨a3, k3, es, _⟩ := id hA; subst es; have HBw4 := aK ((HBw.out.drew).trans (hB.mono (HBw.out.drew).size)); have HXb4 := aK ((hB.block gb (zad HXb.out)).trans HXb.out); have HX44 := aK ((hB.block g4 (zad HX3.out)).trans HX3.out); have HA3 := aK hA; have HN3 := aK hN; have HS3 := aK hB; clear hA hN hR hB; have t3_4 := zab HXb4.out 3; simp only [List.getElem?_toArray, List.getElem?_cons_zero, List.getElem?_cons_succ] at t3_4; have t8_4 := zab HXb4.out 8; simp only [List.getElem?_toArray, List.getElem?_cons_zero, List.getElem?_cons_succ] at t8_4; have t9_4 := zab HXb4.out 9; simp only [List.getElem?_toArray, List.getElem?_cons_zero, List.getElem?_cons_succ] at t9_4; have t10_4 := zab HXb4.out 10; simp only [List.getElem?_toArray, List.getElem?_cons_zero, List.getElem?_cons_succ] at t10_4) | (go_at_call 36; (with_reducible refine ((HC.out _ HBw4.out).2.1).mono ?_); rintro e w5 ⟨s, rfl, hB, hA, hR, hN⟩; obtain ⟨a8, k8, es, _⟩ := id hA; subst es; have HBw5 := aK ((HBw4.out).trans (hB.mono (HBw4.out).size)); have HXb5 := aK ((hB.block gb (zad HXb4.out)).trans HXb4.out); have HX45 := aK ((hB.block g4 (zad HX44.out)).trans HX44.out); have HA8 := aK hA; have HN8 := aK hN; have HS8 := aK hB; clear hA hN hR hB; have t3_5 := zab HXb5.out 3; simp only [List.getElem?_toArray, List.getElem?_cons_zero, List.getElem?_cons_succ] at t3_5; have t8_5 := zab HXb5.out 8; simp only [List.getElem?_toArray, List.getElem?_cons_zero, List.getElem?_cons_succ] at t8_5; have t9_5 := zab HXb5.out 9; simp only [List.getElem?_toArray, List.getElem?_cons_zero, List.getElem?_cons_succ] at t9_5; have t10_5 := zab HXb5.out 10; simp only [List.getElem?_toArray, List.getElem?_cons_zero, List.getElem?_cons_succ] at t10_5) | (go_at_call 37; (with_reducible refine ((HC.out _ HBw5.out).2.2.1).mono ?_); rintro e w6 ⟨s, rfl, hB, hA, hR, hN⟩; obtain ⟨a9, k9, es, _⟩ := id hA; subst es; have HBw6 := aK ((HBw5.out).trans (hB.mono (HBw5.out).size)); have HXb6 := aK ((hB.block gb (zad HXb5.out)).trans HXb5.out); have HX46 := aK ((hB.block g4 (zad HX45.out)).trans HX45.out); have HA9 := aK hA; have HN9 := aK hN; have HS9 := aK hB; clear hA hN hR hB; have t3_6 := zab HXb6.out 3; simp only [List.getElem?_toArray, List.getElem?_cons_zero, List.getElem?_cons_succ] at t3_6; have t8_6 := zab HXb6.out 8; simp only [List.getElem?_toArray, List.getElem?_cons_zero, List.getElem?_cons_succ] at t8_6; have t9_6 := zab HXb6.out 9; simp only [List.getElem?_toArray, List.getElem?_cons_zero, List.getElem?_cons_succ] at t9_6; have t10_6 := zab HXb6.out 10; simp only [List.getElem?_toArray, List.getElem?_cons_zero, List.getElem?_cons_succ] at t10_6) | (go_at_call 38; (with_reducible refine ((HC.out _ HBw6.out).2.2.2).mono ?_); rintro e w7 ⟨s, rfl, hB, hA, hR, hN⟩; obtain ⟨a10, k10, es, _⟩ := id hA; subst es; have HBw7 := aK ((HBw6.out).trans (hB.mono (HBw6.out).size)); have HXb7 := aK ((hB.block gb (zad HXb6.out)).trans HXb6.out); have HX47 := aK ((hB.block g4 (zad HX46.out)).trans HX46.out); have HA10 := aK hA; have HN10 := aK hN; have HS10 := aK hB; clear hA hN hR hB; have t3_7 := zab HXb7.out 3; simp only [List.getElem?_toArray, List.getElem?_cons_zero, List.getElem?_cons_succ] at t3_7; have t8_7 := zab HXb7.out 8; simp only [List.getElem?_toArray, List.getElem?_cons_zero, List.getElem?_cons_succ] at t8_7; have t9_7 := zab HXb7.out 9; simp only [List.getElem?_toArray, List.getElem?_cons_zero, List.getElem?_cons_succ] at t9_7; have t10_7 := zab HXb7.out 10; simp only [List.getElem?_toArray, List.getElem?_cons_zero, List.getElem?_cons_succ] at t10_7; have p3 := zab HX47.out 3; simp only [List.getElem?_toArray, List.getElem?_cons_zero, List.getElem?_cons_succ] at p3; have f3 := zbg HX47.out 3; have p8 := zab HX47.out 8; simp only [List.getElem?_toArray, List.getElem?_cons_zero, List.getElem?_cons_succ] at p8; have f8 := zbg HX47.out 8; have p9 := zab HX47.out 9; simp only [List.getElem?_toArray, List.getElem?_cons_zero, List.getElem?_cons_succ] at p9; have f9 := zbg HX47.out 9; have p10 := zab HX47.out 10; simp only [List.getElem?_toArray, List.getElem?_cons_zero, List.getElem?_cons_succ] at p10; have f10 := zbg HX47.out 10)))
 have hg4 := zad HX3.out
 have z4 := HS3.out.size
 have z5 := HS8.out.size
 have z6 := HS9.out.size
 have z7 := HS10.out.size
 have zb := HBw.out.size
 have HX8 := aK (show ((((w7.setCell ⟨g4, 3, none⟩ (.slice a3 (m.L 3).length k3)).setCell ⟨g4, 8, none⟩ (.slice a8 (m.L 8).length k8)).setCell ⟨g4, 9, none⟩ (.slice a9 (m.L 9).length k9)).setCell ⟨g4, 10, none⟩ (.slice a10 (m.L 10).length k10)).heap[g4]? = some (.cells (msgC m.c (fourS (.slice a3 (m.L 3).length k3) (.slice a8 (m.L 8).length k8) (.slice a9 (m.L 9).length k9) (.slice a10 (m.L 10).length k10))) 35 (0, 0)) from by rw [zcm (zcm (zcm (zcm HX47.out 3 _) 8 _) 9 _) 10 _]; simp only [msgC, E0.out, E1.out, E2.out, E4.out, E5.out, E6.out, E7.out, E11.out, E12.out, E13.out, E14.out, E15.out, E16.out, E17.out, E18.out, E19.out, E20.out, E21.out, E22.out, E23.out, E24.out, E25.out]; rfl)
 have HB8 := aK (show Below w.heap.size w ((((w7.setCell ⟨g4, 3, none⟩ (.slice a3 (m.L 3).length k3)).setCell ⟨g4, 8, none⟩ (.slice a8 (m.L 8).length k8)).setCell ⟨g4, 9, none⟩ (.slice a9 (m.L 9).length k9)).setCell ⟨g4, 10, none⟩ (.slice a10 (m.L 10).length k10)) from (((HBw7.out.setCell (by have := HGE.out; simp only; omega) _).setCell (by have := HGE.out; simp only; omega) _).setCell (by have := HGE.out; simp only; omega) _).setCell (by have := HGE.out; simp only; omega) _)
 have hsz8 : ((((w7.setCell ⟨g4, 3, none⟩ (.slice a3 (m.L 3).length k3)).setCell ⟨g4, 8, none⟩ (.slice a8 (m.L 8).length k8)).setCell ⟨g4, 9, none⟩ (.slice a9 (m.L 9).length k9)).setCell ⟨g4, 10, none⟩ (.slice a10 (m.L 10).length k10)).heap.size = w7.heap.size := by simp only [World.size_setCell]
 have hmv8 : ∀ k, k ≠ g4 → ((((w7.setCell ⟨g4, 3, none⟩ (.slice a3 (m.L 3).length k3)).setCell ⟨g4, 8, none⟩ (.slice a8 (m.L 8).length k8)).setCell ⟨g4, 9, none⟩ (.slice a9 (m.L 9).length k9)).setCell ⟨g4, 10, none⟩ (.slice a10 (m.L 10).length k10)).heap[k]? = w7.heap[k]? := fun k hk => (Below.heap_setCell _ _ _ _ hk).trans ((Below.heap_setCell _ _ _ _ hk).trans ((Below.heap_setCell _ _ _ _ hk).trans (Below.heap_setCell _ _ _ _ hk)))
 have r3 : ∀ k, arr (.slice a3 (m.L 3).length k3) = some k → m.L 3 ≠ [] → w3.heap.size ≤ k ∧ k < w4.heap.size := fun k hk h0 => ⟨HN3.out k hk, HA3.out.lt hk h0⟩
 have r8 : ∀ k, arr (.slice a8 (m.L 8).length k8) = some k → m.L 8 ≠ [] → w4.heap.size ≤ k ∧ k < w5.heap.size := fun k hk h0 => ⟨HN8.out k hk, HA8.out.lt hk h0⟩
 have r9 : ∀ k, arr (.slice a9 (m.L 9).length k9) = some k → m.L 9 ≠ [] → w5.heap.size ≤ k ∧ k < w6.heap.size := fun k hk h0 => ⟨HN9.out k hk, HA9.out.lt hk h0⟩
 have r10 : ∀ k, arr (.slice a10 (m.L 10).length k10) = some k → m.L 10 ≠ [] → w6.heap.size ≤ k ∧ k < w7.heap.size := fun k hk h0 => ⟨HN10.out k hk, HA10.out.lt hk h0⟩
 have l3 := (((HA3.out.below HS8.out).below HS9.out).below HS10.out).move (fun k hk h0 => hmv8 k (by have h := (r3 k hk h0).1; have h' : g4 < w3.heap.size := hg4; omega))
 have l8 := ((HA8.out.below HS9.out).below HS10.out).move (fun k hk h0 => hmv8 k (by have h := (r8 k hk h0).1; have h' : g4 < w3.heap.size := hg4; have h'' : w3.heap.size ≤ w4.heap.size := z4; omega))
 have l9 := (HA9.out.below HS10.out).move (fun k hk h0 => hmv8 k (by have h := (r9 k hk h0).1; have h' : g4 < w3.heap.size := hg4; have h'' : w3.heap.size ≤ w4.heap.size := z4; omega))
 have l10 := HA10.out.move (fun k hk h0 => hmv8 k (by have h := (r10 k hk h0).1; have h' : g4 < w3.heap.size := hg4; have h'' : w3.heap.size ≤ w4.heap.size := z4; omega))
 obtain ⟨ht, hf, hs⟩ := HH.out
 have hz4 : w3.heap.size ≤ w4.heap.size := z4
 have HM := aK (pay_made HX8.out ht hf hs.few l3 l8 l9 l10 r3 r8 r9 r10 hg4 hz4 z5 z6 z7 (by rw [hsz8]; exact Nat.le_refl _))
 have HZ := aK (And.intro hg4 (show w.heap.size ≤ w3.heap.size from zb))
 clear hg4 z4 z5 z6 z7 zb hsz8 hmv8 r3 r8 r9 r10 l3 l8 l9 l10 hz4 ht hf hs HA3 HA8 HA9 HA10 HN3 HN8 HN9 HN10 HS3 HS8 HS9 HS10 HXb HXb4 HXb5 HXb6 HXb7 HX44 HX45 HX46 HX47 HX3 HX8 HBw HBw4 HBw5 HBw6 HBw7 HC t3_4 t3_5 t3_6 t3_7 t8_4 t8_5 t8_6 t8_7 t9_4 t9_5 t9_6 t9_7 t10_4 t10_5 t10_6 t10_7 t3 p3 f3 t8 p8 f8 t9 p9 f9 t10 p10 f10 E0 E1 E2 E4 E5 E6 E7 E11 E12 E13 E14 E15 E16 E17 E18 E19 E20 E21 E22 E23 E24 E25
 generalize ((((w7.setCell ⟨g4, 3, none⟩ (.slice a3 (m.L 3).length k3)).setCell ⟨g4, 8, none⟩ (.slice a8 (m.L 8).length k8)).setCell ⟨g4, 9, none⟩ (.slice a9 (m.L 9).length k9)).setCell ⟨g4, 10, none⟩ (.slice a10 (m.L 10).length k10)) = w8 at *
 obtain ⟨n, C, hC1⟩ := pay_kind HM.out HH.out.2.2
 have C1 := aK hC1
 clear hC1
 obtain ⟨xs, bad, o, hps⟩ : ∃ xs bad o, payS m = (xs, bad, o) := ⟨_, _, _, rfl⟩
 have HPS := aK hps
 have HP := aK (show zgu m = (!bad && !o) from by unfold zgu; rw [hps, HK.out, decide_eq_true (by omega), decide_eq_true (by omega)]; rfl)
 clear hps
 cases bad
 ·go_wp2_with (first | (go_at_call 39; (with_reducible refine C1.out.mono ?_); rintro e w10 ⟨rfl, H⟩; have C2 := aK (zok H); clear H) | (go_at_call 40; (with_reducible refine C2.out.mono ?_); rintro e w11 ⟨rfl, H⟩; have C3 := aK (zjz H); clear H) | (go_at_call 41; (with_reducible refine C3.out.mono ?_); rintro e w12 ⟨rfl, H⟩; obtain ⟨hB12, v12, hW12, hL12⟩ := zsi HB8.out H HZ.out.1 HGE.out; rw [HPS.out] at hW12 hL12; have C4 := aK (wBytes_c _ _ _ _ _ _ hW12 (by simp only at hL12 ⊢; omega)); have HC2 := aK (WrAt.cell2 hW12); have HB12 := aK hB12; have HL12 := aK hL12; clear H hB12 hW12 hL12) | (go_at_call 42; (with_reducible refine C4.out.mono ?_); rintro e w13 ⟨q, c, rfl, hO, h3, h4, h5, hB13⟩; have c2 := hB13.cell (p := ⟨w8.heap.size, 2, none⟩) (World.block_lt_of_cell? w12 _ HC2.out); rw [HC2.out] at c2; have HO := aK hO; have HB13 := aK hB13; have H3 := aK h3; have H4 := aK h4; have H5 := aK h5; clear hO hB13 h3 h4 h5) | fail)
  go_quiet (fail)
  go_wp2
  go_ret2
  refine ⟨zac (HB12.out.trans (HB13.out.mono HB12.out.size)) _, _, _, rfl, ?_, fun _ => ?_⟩
  ·rw [HP.out]; rfl
  ·have e : payB m = xs := by unfold payB; rw [HPS.out]
   rw [e]
   exact ⟨q, c, rfl, znj HO.out HB12.out.size, H3.out, H4.out, Nat.le_trans HB12.out.size H5.out, HL12.out⟩
 ·go_wp2_with (first | (go_at_call 39; (with_reducible refine C1.out.mono ?_); rintro e w10 ⟨rfl, H⟩; have C2 := aK (zok H); clear H) | (go_at_call 40; (with_reducible refine C2.out.mono ?_); rintro e w11 ⟨rfl, H⟩; have C3 := aK (zjz H); clear H) | (go_at_call 41; (with_reducible refine C3.out.mono ?_); rintro e w12 ⟨rfl, H⟩; obtain ⟨hB12, v12, hW12, hL12⟩ := zsi HB8.out H HZ.out.1 HGE.out; rw [HPS.out] at hW12 hL12; have C4 := aK (zpu _ _ _ _ _ _ hW12); have HB12 := aK hB12; clear H hB12 hW12 hL12) | (go_at_call 42; (with_reducible refine C4.out.mono ?_); rintro e w13 ⟨rfl, hw⟩; subst hw) | fail)
  go_quiet (fail)
  go_wp2
  go_ret2
  refine ⟨zac HB12.out _, _, _, rfl, ?_, fun h => ?_⟩
  ·rw [HP.out]; rfl
  ·cases h
end Go.Proofs.Ytcbehfbfaonanaa.Wr
end
