/- Part 19 of the texts that walk the program and tell its laws, joined in the order of their building. No conditions. -/
import Derived.Test.YtcbehfbfaonanaaJw17
set_option maxRecDepth 100000
set_option maxHeartbeats 16000000
section

namespace Go.Proofs.Ytcbehfbfaonanaa.Wr
open Go.RowKit Go.Proofs.YtcbehfbfaonanaaW.PrintWords Go.Proofs.YtcbehfbfaonanaaW.PrintLast Go.Proofs.YtcbehfbfaonanaaW.PrintMore Go.Proofs.Ytcbehfbfaonanaa.Pk
set_option linter.unusedVariables false
set_option linter.unusedSimpArgs false
section
variable {P : Program} {ops : Array Oper} {o : Oper} {rest : List Oper} {a : Act} {Q : Exit → Act → World → Prop} {W : World}
theorem ldA {T : TypeId} {x : Operand} (ho : o.op = .load T x) {q : Addr} (hx : a.eval x = .pointer (some q)) {vs : List Value} (hc : ∀ j v, vs[j]? = some v → W.cell? (q.add j) = some v)
  (hw : Region.wanted o (yielded ops a.tmps) = true) {d : TypeDesc} (hu : P.underlying T = some d) (hd : d.isRow = true) (hi : (P.info? T).map (·.size) = some vs.length)
  (h : wpList P ops Q rest (a.put o.dst (.agg vs.toArray)) W) : wpList P ops Q (o :: rest) a W := by
 refine zbi hw (Kd.event_run rfl (v := .agg vs.toArray) (w1 := W) ?_ h)
 have hl : (loadCells q vs.length).run P W = .ok vs.toArray W := run_loadCells_list (P := P) W q vs hc
 unfold execOp
 simp only [ho, hx, Instr.loadAt, Instr.sureAddr, Sem.run_bind, Sem.run_pure, Result.andThen_ok]
 unfold loadVar
 cases hq : P.info? T with
 | none => simp [hq] at hi
 | some i =>
  have hs : i.size = vs.length := by simpa [hq] using hi
  have hagg : (isAgg T).run P W = .ok true W := by
   unfold isAgg
   rw [Sem.run_bind, run_underlying hu W]
   cases d <;> simp_all
  simp [Sem.run_bind, hagg, sizeOf, typeInfo, hq, hs, hl]
end
theorem zmn (w : World) (g : Nat) (f : Nat → Value) (x : Nat → Int) (s : Nat → ByteArray) (p : Nat → Bool) (A : Nat → Option Addr) (n c : Nat → Nat) (K : Exit → Act → World → Prop) (i : Nat) (HX : Aside0 (w.heap[g]? = some (.cells (cX x s p (fun j => .slice (A j) (n j) (c j))) 32 (0, 0)))) (h3 : f 3 = .int .i64 (i : Int)) (hd : decide ((i : Int) < ((n 3 : Nat) : Int)) = false)
  (hK : ∀ a, RFr 247 g a → K (.exit 0) a w) : Code.wp Try.prog (cl (cl (cr (cl rb9)))) K (rfr g f) w := by
 unfold rfr
 rw [h3]
 have hq := eq_false (of_decide_eq_false hd)
 have hn := eq_false (show ¬ i < n 3 by have := of_decide_eq_false hd; omega)
 conv => arg 2; whnf
 go_wp2_with (first | ((with_reducible refine zae [123] (by decide) ?_); refine ld (T := 22) (g := g) (v := .slice (A 3) (n 3) (c 3)) rfl rfl HX.out (by rfl) rfl TuE rfl ?_))
 first | exact ⟨rfl, rfl, rfl⟩ | exact hK _ ⟨rfl, rfl, rfl⟩
theorem rl_entry (w : World) (g : Nat) (f : Nat → Value) (x : Nat → Int) (s : Nat → ByteArray) (p : Nat → Bool) (A : Nat → Option Addr) (n c : Nat → Nat) (K : Exit → Act → World → Prop) (i : Nat) (e0 : Int) (e1 : Int) (e2 : Int) (e3 : Int) (e4 : ByteArray) (e5 : Bool) (e6 : ByteArray) (h3 : f 3 = .int .i64 (i : Int)) (hi : i < n 3) (hn : n 3 ≤ 1048576) (ad : Addr) (HA : Aside0 (A 3 = some ad)) (HX : Aside0 (w.heap[g]? = some (.cells (cX x s p (fun j => .slice (A j) (n j) (c j))) 32 (0, 0)))) (HR : Aside0 (∀ j v, ([.int .i64 e0, .int .i64 e1, .int .i64 e2, .int .i64 e3, .string e4, .bool e5, .string e6] : List Value)[j]? = some v → w.cell? ((ad.add (i * 7)).add j) = some v)) (b0 b1 b2 b3 b4 : Bool) (HP : Aside0 (∀ W : World, Calls Try.prog 49 #[.slice (some ⟨W.heap.size, 0, none⟩) 1 1] (W.alloc (.cells #[.int .i64 e0, .int .i64 e1] 24)) (fun e w' => e = .returned (.bool b0) ∧ Drawn0 (W.alloc (.cells #[.int .i64 e0, .int .i64 e1] 24)) w'))) (HI1 : Aside0 (∀ W : World, Calls Try.prog 47 #[.int .i64 (e2), .int .i64 0, .int .i64 9007199254740992] W (fun e w' => e = .returned (.bool b1) ∧ Drawn0 W w'))) (HI2 : Aside0 (∀ W : World, Calls Try.prog 47 #[.int .i64 (e3), .int .i64 0, .int .i64 9007199254740992] W (fun e w' => e = .returned (.bool b2) ∧ Drawn0 W w'))) (hC3 : decide ((64 : Int) < ((e4.size : Nat) : Int)) = b3) (hC4 : decide ((1024 : Int) < ((e6.size : Nat) : Int)) = b4)
  (hno : ¬ (b0 = true ∧ b1 = true ∧ b2 = true ∧ b3 = false ∧ b4 = false) → ∀ a w', RFr 247 g a → a.tmps[2]? = some (.bool false) → Below w.heap.size w w' → K .ret a w') (hyes : b0 = true ∧ b1 = true ∧ b2 = true ∧ b3 = false ∧ b4 = false → ∀ a w', RFr 247 g a → a.tmps[3]? = some (.int .i64 ((i + 1 : Nat) : Int)) → Below w.heap.size w w' → K .normal a w') : Code.wp Try.prog (cl (cl (cr (cl rb9)))) K (rfr g f) w := by
 have HB := aK (Below.refl w.heap.size w)
 unfold rfr
 rw [h3]
 have hd : decide ((i : Int) < ((n 3 : Nat) : Int)) = true := by simp; omega
 have hp := eq_true (show (0 : Int) ≤ (i : Int) by omega)
 have hq := eq_true (show (i : Int) < ((n 3 : Nat) : Int) by omega)
 have hw : IntKind.i64.wrap ((i : Int) + 1) = ((i + 1 : Nat) : Int) := by rw [IntKind.wrap_i64]; omega
 clear hi hn
 cases b0; rotate_left
 cases b1; rotate_left
 cases b2; rotate_left
 obtain rfl | rfl : b3 = true ∨ b3 = false := (by cases b3 <;> simp)
 rotate_left
 obtain rfl | rfl : b4 = true ∨ b4 = false := (by cases b4 <;> simp)
 rotate_left
 all_goals
  conv => arg 2; whnf
  go_wp2_with (first | ((with_reducible refine zae [123] (by decide) ?_); refine ld (T := 22) (g := g) (v := .slice (A 3) (n 3) (c 3)) rfl rfl HX.out (by rfl) rfl TuE rfl ?_) | ((with_reducible refine zae [129] (by decide) ?_); refine ld (T := 22) (g := g) (v := .slice (some ad) (n 3) (c 3)) rfl rfl HX.out (by rw [← HA.out]; rfl) rfl TuE rfl ?_) | ((with_reducible refine zae [132] (by decide) ?_); refine ldA (T := 66) (q := ad.add (i * 7)) (vs := [.int .i64 e0, .int .i64 e1, .int .i64 e2, .int .i64 e3, .string e4, .bool e5, .string e6]) rfl rfl HR.out rfl Try.underlying66 rfl (by kernel_rfl) ?_) | ((with_reducible refine zae [4] (by decide) ?_); refine zbe rfl 66 rfl #[.int .i64 0, .int .i64 0, .int .i64 0, .int .i64 0, .string (⟨#[]⟩ : ByteArray), .bool false, .string (⟨#[]⟩ : ByteArray)] (by first | (go_simp; done) | (go_simp; rfl)) ?_; intro ge we hg hbox hb; have HE0 := aK hbox; have HGE := aK (show w.heap.size ≤ ge from by rw [hg]; exact HB.out.size); have HB := aK (HB.out.trans (hb.mono HB.out.size)); clear hg hbox hb) | ((with_reducible refine zan (t := 66) (p := 4) rfl ?_); refine zbk rfl 66 (.tmp 4) (.tmp 132) rfl ge rfl #[.int .i64 e0, .int .i64 e1, .int .i64 e2, .int .i64 e3, .string e4, .bool e5, .string e6] _ rfl 66 HE0.out rfl (by kernel_rfl) rfl ?_; intro w2 hX hO; have HE := aK hX; have HB := aK (zaz HB.out hO HB.out.size (fun k hk => by rw [hk]; exact HGE.out)); clear hX hO HE0) | ((with_reducible refine zae [140, 146] (by decide) ?_); refine ld (T := 3) (g := ge) (v := .int .i64 _) rfl rfl HE.out rfl rfl TuI rfl ?_) | ((with_reducible refine zae [152, 158] (by decide) ?_); refine ld (T := 9) (g := ge) (v := .string _) rfl rfl HE.out rfl rfl TuX rfl ?_) | ((with_reducible refine zae [134] (by decide) ?_); refine ldr (T := 24) (g := ge) (vs := [.int .i64 _, .int .i64 _]) rfl rfl HE.out 2 rfl rfl Try.underlying24 rfl (by kernel_rfl) ?_) | ((with_reducible refine zae [135] (by decide) ?_); refine Kd.event_run rfl (v := .slice (some ⟨w2.heap.size, 0, none⟩) 1 1) (w1 := w2.alloc (.cells #[.int .i64 e0, .int .i64 e1] 24)) (by first | (go_simp; done) | (go_simp; rfl)) ?_; have HE := aK (((zaa (Below.refl _ _) (.cells #[.int .i64 e0, .int .i64 e1] 24)).block ge (zad HE.out)).trans HE.out); have HB := aK (zaa HB.out (.cells #[.int .i64 e0, .int .i64 e1] 24))) | (go_at_call 49; (with_reducible refine (HP.out w2).mono ?_); rintro e wn ⟨rfl, hD⟩; have HE := aK (dblk hD HE.out); have HB := aK (HB.out.trans (hD.below.mono HB.out.size)); clear hD) | (go_at_call 47; (with_reducible refine (HI1.out _).mono ?_); rintro e wn ⟨rfl, hD⟩; have HE := aK (dblk hD HE.out); have HB := aK (HB.out.trans (hD.below.mono HB.out.size)); clear hD) | (go_at_call 47; (with_reducible refine (HI2.out _).mono ?_); rintro e wn ⟨rfl, hD⟩; have HE := aK (dblk hD HE.out); have HB := aK (HB.out.trans (hD.below.mono HB.out.size)); clear hD))
  first | exact hyes (by simp) _ _ ⟨rfl, rfl, rfl⟩ (by first | rfl | (rw [← hw]; rfl) | (simp; done)) HB.out | exact hno (by simp) _ _ ⟨rfl, rfl, rfl⟩ rfl HB.out
end Go.Proofs.Ytcbehfbfaonanaa.Wr

end
