/- Part 3 of the texts that walk the program and tell its laws, joined in the order of their building. No conditions. -/
import Derived.Test.YtcbehfbfaonanaaJk1
import Derived.Test.YtcbehfbfaonanaaJk0
import Derived.Outline
import Derived.Deep.MidRow
import Derived.Deep.WholeRow
import Derived.Deep.LoopGhost
import Derived.Deep.QuietTactic
import Derived.BigQuiet
import Derived.Test.YtcbehfbfaonanaaProg
import Derived.Below
import Derived.Deep.Draws
import Derived.Deep.AppendLies
import Derived.Maps.AppendAt
import Derived.OwnWalk
import Derived.Laws.BytesArg
import Derived.Laws.MakeOwn
import Derived.Laws.OwnMore
import Derived.Deep.OwnRows
import Derived.Tactics
import Derived.Lib.ConvBytes
import Derived.Laws.Slices
import Derived.WalkKit
import Derived.KernelRfl
import Derived.RowKit3
import Derived.WideLaws
import Derived.Deep.DeepCutAuto
import Derived.Deep.CutBlock
import Derived.Deep.RegionHeld3
import Derived.Laws.Rows
import Derived.Lib.AppendStr
import Derived.ArgAppend
import Derived.Laws.IdiomCopy
import Derived.OrdersHeld
import Derived.Laws.BitsLemmas
import Derived.RowKit
import Derived.Lib.SlBytesConst
set_option maxRecDepth 100000
set_option maxHeartbeats 16000000
section
namespace Go.Proofs.Ytcbehfbfaonanaa.Wr
open Go.RowKit Go.Proofs.YtcbehfbfaonanaaW.PrintWords Go.Proofs.YtcbehfbfaonanaaW.PrintLast Go.Proofs.YtcbehfbfaonanaaW.PrintMore Go.Proofs.Ytcbehfbfaonanaa.Pk
set_option linter.unusedVariables false
set_option linter.unusedSimpArgs false
def Step.pos : Step → Bool
 | .row i _ => decide (0 < i)
 | _ => true
theorem run_c0 (F : Form) : ∀ (ts : List Step) (s : F.σ) (m : M), ts.all Step.pos = true → (F.run s m ts).2.c 0 = m.c 0
 | [], s, m, _ => rfl
 | t :: ts, s, m, h => by
  simp only [List.all_cons, Bool.and_eq_true] at h
  refine (run_c0 F ts _ _ h.2).trans ?_
  cases t with
  | row i fs => exact rowM_c0 (by simpa [Step.pos] using h.1)
  | most => exact rowM_c0 (by omega)
  | lst j fs n => rfl
variable {F : Form} {s0 s sF : F.σ} {w0 w : World} {b : Nat} {A : Nat → Prop} {K : Value} {c C : Nat} {m mF : M} {ts us : List Step}
theorem Stand.whole' {KP : Value → Prop} {k : FuncId} (hk : WholeC k ts KP) (h : Stand F s0 w0 b A K C sF mF (ts ++ us) w) (hF : F.Good) (hr : F.room s0 + C ≤ cap) (hKP : KP K) (hp : ts.all Step.pos = true) :
  Calls Try.prog k #[.iface F.ty F.v, .pointer (some ⟨b, 0, none⟩)] w (StandOn F s0 w0 b A K C sF mF us) := by
 obtain ⟨s, c, m, h1, h2, h3, h4⟩ := h
 rw [runCost_append] at h3
 rw [run_append] at h4
 obtain ⟨cs, q1, q2, q3, q4⟩ := h1.blk
 have hA : MAt F s w b (fun k => (A k ∨ w0.heap.size ≤ k) ∧ k < w.heap.size) s 0 m w := by
  refine ⟨h1.inv, fun _ _ h => h, by omega, h1.no, Only.refl _ _, h1.typed, cs, q1, q2, q3, fun j fs hj => ?_⟩
  obtain ⟨hf, sv, g1, g2, g3⟩ := q4 j fs hj
  exact ⟨hf, sv, g1, g2, fun k hk h0 => ⟨(g3 k hk h0).1, (g3 k hk h0).2.1, .inl ⟨(g3 k hk h0).2.2.1, g2.lt hk h0⟩, (g3 k hk h0).2.2.2⟩⟩
 refine (hk F hF s w b _ m (fun k h => h.2) hA (h2 ▸ hKP) (by have := h1.room; omega)).mono ?_
 rintro e w' ⟨rfl, hS⟩
 refine ⟨rfl, _, c + F.runCost s m ts, _, ?_, (run_c0 F ts s m hp).trans h2, by omega, h4⟩
 obtain ⟨cs', r1, r2, r3, r4⟩ := hS.blk
 refine ⟨hS.inv, fun q hq ho => h1.own q hq (hS.own q (Nat.lt_of_lt_of_le hq h1.only.size) ho), by have := h1.room; have := hS.room; omega, hS.no, h1.only.trans hS.only ?_, hS.typed, cs', r1, r2, r3, fun j fs hj => ?_⟩
 ·intro i hi hs
  rcases hs with hs | hs | hs
  ·exact .inl (h1.own i hi hs)
  ·exact .inr (.inl hs)
  ·rcases hs.1 with ha | ha
   ·exact .inr (.inr ha)
   ·omega
 ·obtain ⟨hf, sv, g1, g2, g3⟩ := r4 j fs hj
  refine ⟨hf, sv, g1, g2, fun k hk h0 => ⟨(g3 k hk h0).1, (g3 k hk h0).2.1, ?_, (g3 k hk h0).2.2.2⟩⟩
  rcases (g3 k hk h0).2.2.1 with hA | hA
  ·exact hA.1
  ·exact .inr (Nat.le_trans h1.only.size hA)
theorem Stand.most (h : Stand F s0 w0 b A K C sF mF (.most :: ts) w) : ∃ x : Int, w.cell? ⟨b, 6, none⟩ = some (.int .i64 x) ∧ (F.Good → F.room s0 + C ≤ cap →
  Calls Try.prog (F.k 0) #[F.v, .pointer (some ⟨b, 7, none⟩), .int .i64 (if 1 < x then x else 1), .int .i64 128] w.drew (fun e w' => e = .returned (.tuple #[]) ∧ Stand F s0 w0 b A K C sF mF ts w' ∧ w'.cell? ⟨b, 6, none⟩ = some (.int .i64 x))) := by
 obtain ⟨s, c, m, h1, h2, h3, h4⟩ := h
 obtain ⟨x, hx⟩ := h1.typed 6 rfl
 refine ⟨x, by rw [← hx]; exact (h1.kind rfl).1, fun hF hr => ?_⟩
 obtain ⟨y, hy⟩ := h1.typed 7 rfl
 have h1' := h1.drew hF
 obtain ⟨cs, k1, k2, k3, _⟩ := h1'.blk
 have := hF.num_c s w.drew b 7 cs _ y (if 1 < x then x else 1) 128 h1'.inv h1'.no (by have := h1'.room; simp only [Form.runCost, Form.stepCost] at h3; omega) k2 (by rw [← hy]; exact k3 7 rfl)
 refine this.mono ?_
 rintro e w' ⟨rfl, hS⟩
 have hR := h1'.rowDid (i := 7) (fs := [.num (if 1 < x then x else 1) 128]) rfl (d := 8) (w1 := w') (by simpa [valsAt, hy, Form.row, Form.fld, cellsAt] using hS)
 refine ⟨rfl, ⟨_, _, _, hR, (rowM_c0 (by omega)).trans h2, ?_, ?_⟩, ?_⟩
 ·rw [← h3]; simp only [Form.runCost, Form.stepCost, Form.step, hx, maxOf]; omega
 ·rw [← h4]; simp only [Form.run, Form.step, hx, maxOf]
 ·rw [(hR.kind (i := 6) rfl).1]
  simp only [Form.rowM, putAt]
  rw [if_neg (by omega), hx]
def partS : List Step := [.row 4 posF, .row 6 [.num 1 128], .most, .lst 8 pairF 8, .lst 9 seenF 8]
theorem part_c : WholeC 67 partS (fun _ => True) := by
 intro F hF s w b A m hAl h _ hr
 have hmf : ∀ (fn : Fn) (first cap : Array Value) (w : World), (Instr.makeFunc fn first cap).run Try.prog w = .ok (.func fn first cap) w := fun _ _ _ _ => rfl
 have HA := hF.ahead 0 "meridian/wire.num" (by decide) rfl
 have HM := hF.method 0 "meridian/wire.num" (by decide) rfl
 have HE := hF.enter 0 (by decide)
 obtain ⟨cs0, hb0⟩ : ∃ cs0, w.heap[b]? = some (.cells cs0 35 (0, 0)) := let ⟨cs, _, h2, _⟩ := h.blk; ⟨cs, h2⟩
 have HGb := aK (show w.heap.size ≠ b from fun e => by have := blk_lt hb0; omega)
 have HGA := aK (show ¬ A w.heap.size from fun e => by have := hAl _ e; omega)
 have HGo := aK (show ¬ F.own (w.alloc (.cells #[.iface F.ty F.v] 114)).heap w.heap.size from fun e => by have := hF.lt h.inv (alloc_own hF h.inv _ _ e); omega)
 have cg0 : (w.alloc (.cells #[.iface F.ty F.v] 114)).cell? ⟨w.heap.size, 0, none⟩ = some (.iface F.ty F.v) := by rw [World.cell?_alloc_at _ _ _ _ rfl]; rfl
 have S0 := aK (Stand.start (h.alloc hF (.cells #[.iface F.ty F.v] 114)) partS)
 have HCg := aK cg0
 have HR := aK hr
 have HG := aK hF
 suffices hsuf : Calls Try.prog 67 #[.iface F.ty F.v, .pointer (some ⟨b, 0, none⟩)] w (MOn F s (w.alloc (.cells #[.iface F.ty F.v] 114)) b A (F.run s m partS).1 (F.runCost s m partS) (F.run s m partS).2) from hsuf.mono (fun e w' H => H.unalloc hF h.inv)
 generalize (F.run s m partS).1 = sF at *
 generalize (F.run s m partS).2 = mF at *
 generalize F.runCost s m partS = C at *
 generalize m.c 0 = K at *
 clear h hr hF hAl hb0 cs0
 have C1 := aK (S0.out.rowC HG.out HR.out pos_c rfl (by omega))
 go_enter Try.func67, Try.ntmps67
 go_wp2
 go_region_held3 (fun W => W.cell? ⟨w.heap.size, 0, none⟩ = some (.iface F.ty F.v)) (go_keep) (((with_reducible refine C1.out.mono ?_); rintro e w1 ⟨rfl, H⟩; have cg1 := H.cell HGo.out HGb.out HGA.out HCg.out; have S1 := aK H; clear H))
 have C2 := aK (S1.out.num HG.out HR.out rfl (by omega))
 go_wp2
 go_region_held3 (fun W => W.cell? ⟨w.heap.size, 0, none⟩ = some (.iface F.ty F.v)) (go_keep) (((with_reducible refine C2.out.mono ?_); rintro e w2 ⟨rfl, H⟩; have cg2 := H.cell HGo.out HGb.out HGA.out HCg.out; have S2 := aK H; clear H))
 obtain ⟨x, cx, CM⟩ := S2.out.most
 have C3t := CM HG.out HR.out
 obtain ⟨y, hy⟩ : ∃ y : Int, (if 1 < x then x else 1) = y := ⟨_, rfl⟩
 rw [hy] at C3t
 have C3 := aK C3t
 clear C3t
 have cx' : w2.drew.cell? ⟨b, 6, none⟩ = some (.int .i64 x) := cx
 clear CM
 go_wp2
 go_region_held3 (fun W => W.cell? ⟨w.heap.size, 0, none⟩ = some (.iface F.ty F.v) ∧ W.cell? ⟨b, 6, none⟩ = some (.int .i64 x)) (go_keep) (((with_reducible refine C3.out.mono ?_); rintro e w3 ⟨rfl, H, cx3⟩; have cg3 := H.cell HGo.out HGb.out HGA.out HCg.out; have S3 := aK H; clear H))
 all_goals
  have C4 := aK (S3.out.lst HG.out HR.out listP_c (by omega) (by simp [lists]) HGo.out HGb.out HGA.out HCg.out)
  go_wp2
  go_region_held3 (fun W => W.cell? ⟨w.heap.size, 0, none⟩ = some (.iface F.ty F.v)) (go_keep) (((with_reducible refine C4.out.mono ?_); rintro e w4 ⟨rfl, H⟩; have cg4 := H.cell HGo.out HGb.out HGA.out HCg.out; have S4 := aK H; clear H))
  have C5 := aK (S4.out.lst HG.out HR.out listS_c (by omega) (by simp [lists]) HGo.out HGb.out HGA.out HCg.out)
  go_wp2
  go_region_held3 (fun W => W.cell? ⟨w.heap.size, 0, none⟩ = some (.iface F.ty F.v)) (go_keep) (((with_reducible refine C5.out.mono ?_); rintro e w5 ⟨rfl, H⟩; have cg5 := H.cell HGo.out HGb.out HGA.out HCg.out; have S5 := aK H; clear H))
  go_wp2
  go_end0
  exact S5.out.done
def fieldsS (n : Int) : List Step :=
 if n = 1 then [.lst 3 entryF 8] else if n = 2 then [.row 11 posF] else if n = 3 then partS ++ [] else if n = 4 then [.lst 10 epochF 64] else if n = 5 then [.row 11 posF, .row 13 [.flag]]
 else if n = 7 then whoS ++ [.row 16 [.text 64], .row 19 posF] else if n = 8 then whoS ++ [.row 16 [.text 64], .row 17 [.flag], .row 18 [.text 1024], .row 19 posF]
 else if n = 9 then whoS ++ (faultS ++ [.row 22 valueF, .row 11 posF, .row 19 posF]) else if n = 10 then whoS ++ (faultS ++ [.row 4 posF, .row 19 posF]) else []
theorem fields1_c : WholeC 41 (fieldsS 1) (fun v => v = .int .i64 1) := by
 intro F hF s w b A m hAl h hK hr
 have hmf : ∀ (fn : Fn) (first cap : Array Value) (w : World), (Instr.makeFunc fn first cap).run Try.prog w = .ok (.func fn first cap) w := fun _ _ _ _ => rfl
 obtain ⟨cs0, hb0⟩ : ∃ cs0, w.heap[b]? = some (.cells cs0 35 (0, 0)) := let ⟨cs, _, h2, _⟩ := h.blk; ⟨cs, h2⟩
 have HGb := aK (show w.heap.size ≠ b from fun e => by have := blk_lt hb0; omega)
 have HGA := aK (show ¬ A w.heap.size from fun e => by have := hAl _ e; omega)
 have HGo := aK (show ¬ F.own (w.alloc (.cells #[.iface F.ty F.v] 114)).heap w.heap.size from fun e => by have := hF.lt h.inv (alloc_own hF h.inv _ _ e); omega)
 have cg0 : (w.alloc (.cells #[.iface F.ty F.v] 114)).cell? ⟨w.heap.size, 0, none⟩ = some (.iface F.ty F.v) := by rw [World.cell?_alloc_at _ _ _ _ rfl]; rfl
 have S0 := aK (Stand.start (h.alloc hF (.cells #[.iface F.ty F.v] 114)) (fieldsS 1))
 rw [hK] at S0
 have HCg := aK cg0
 have HR := aK hr
 have HG := aK hF
 have ck0 := S0.out.kind
 have HBl := aK (blk_lt hb0)
 have ck00 : w.cell? ⟨b, 0, none⟩ = some (.int .i64 1) := ((World.cell?_alloc_past _ _ _ HBl.out).symm.trans ck0)
 suffices hsuf : Calls Try.prog 41 #[.iface F.ty F.v, .pointer (some ⟨b, 0, none⟩)] w (MOn F s (w.alloc (.cells #[.iface F.ty F.v] 114)) b A (F.run s m (fieldsS 1)).1 (F.runCost s m (fieldsS 1)) (F.run s m (fieldsS 1)).2) from hsuf.mono (fun e w' H => H.unalloc hF h.inv)
 generalize (F.run s m (fieldsS 1)).1 = sF at *
 generalize (F.run s m (fieldsS 1)).2 = mF at *
 generalize F.runCost s m (fieldsS 1) = C at *
 clear h hr hF hAl hb0 cs0 hK
 have S0 := aK (show Stand F s (w.alloc (.cells #[.iface F.ty F.v] 114)) b A (.int .i64 1) C sF mF [.lst 3 entryF 8] (w.alloc (.cells #[.iface F.ty F.v] 114)) from S0.out)
 go_enter Try.func41, Try.ntmps41
 have C0 := aK (S0.out.lst HG.out HR.out listE_c (by omega) (by simp [lists]) HGo.out HGb.out HGA.out HCg.out)
 go_wp2
 go_region_held3 (fun W => W.cell? ⟨w.heap.size, 0, none⟩ = some (.iface F.ty F.v)) (go_keep) (((with_reducible refine C0.out.mono ?_); rintro e w1 ⟨rfl, H⟩; have cg1 := H.cell HGo.out HGb.out HGA.out HCg.out; have ck1 := H.kind; have S1 := aK H; clear H))
 go_wp2
 go_end0
 exact S1.out.done
theorem fields2_c : WholeC 41 (fieldsS 2) (fun v => v = .int .i64 2) := by
 intro F hF s w b A m hAl h hK hr
 have hmf : ∀ (fn : Fn) (first cap : Array Value) (w : World), (Instr.makeFunc fn first cap).run Try.prog w = .ok (.func fn first cap) w := fun _ _ _ _ => rfl
 obtain ⟨cs0, hb0⟩ : ∃ cs0, w.heap[b]? = some (.cells cs0 35 (0, 0)) := let ⟨cs, _, h2, _⟩ := h.blk; ⟨cs, h2⟩
 have HGb := aK (show w.heap.size ≠ b from fun e => by have := blk_lt hb0; omega)
 have HGA := aK (show ¬ A w.heap.size from fun e => by have := hAl _ e; omega)
 have HGo := aK (show ¬ F.own (w.alloc (.cells #[.iface F.ty F.v] 114)).heap w.heap.size from fun e => by have := hF.lt h.inv (alloc_own hF h.inv _ _ e); omega)
 have cg0 : (w.alloc (.cells #[.iface F.ty F.v] 114)).cell? ⟨w.heap.size, 0, none⟩ = some (.iface F.ty F.v) := by rw [World.cell?_alloc_at _ _ _ _ rfl]; rfl
 have S0 := aK (Stand.start (h.alloc hF (.cells #[.iface F.ty F.v] 114)) (fieldsS 2))
 rw [hK] at S0
 have HCg := aK cg0
 have HR := aK hr
 have HG := aK hF
 have ck0 := S0.out.kind
 have HBl := aK (blk_lt hb0)
 have ck00 : w.cell? ⟨b, 0, none⟩ = some (.int .i64 2) := ((World.cell?_alloc_past _ _ _ HBl.out).symm.trans ck0)
 suffices hsuf : Calls Try.prog 41 #[.iface F.ty F.v, .pointer (some ⟨b, 0, none⟩)] w (MOn F s (w.alloc (.cells #[.iface F.ty F.v] 114)) b A (F.run s m (fieldsS 2)).1 (F.runCost s m (fieldsS 2)) (F.run s m (fieldsS 2)).2) from hsuf.mono (fun e w' H => H.unalloc hF h.inv)
 generalize (F.run s m (fieldsS 2)).1 = sF at *
 generalize (F.run s m (fieldsS 2)).2 = mF at *
 generalize F.runCost s m (fieldsS 2) = C at *
 clear h hr hF hAl hb0 cs0 hK
 have S0 := aK (show Stand F s (w.alloc (.cells #[.iface F.ty F.v] 114)) b A (.int .i64 2) C sF mF [.row 11 posF] (w.alloc (.cells #[.iface F.ty F.v] 114)) from S0.out)
 go_enter Try.func41, Try.ntmps41
 have C0 := aK (S0.out.rowC HG.out HR.out pos_c rfl (by omega))
 go_wp2
 go_region_held3 (fun W => W.cell? ⟨w.heap.size, 0, none⟩ = some (.iface F.ty F.v)) (go_keep) (((with_reducible refine C0.out.mono ?_); rintro e w1 ⟨rfl, H⟩; have cg1 := H.cell HGo.out HGb.out HGA.out HCg.out; have ck1 := H.kind; have S1 := aK H; clear H))
 go_wp2
 go_end0
 exact S1.out.done
theorem fieldsO_c (n : Int) (hn : n < 1 ∨ n = 6 ∨ 10 < n) : WholeC 41 (fieldsS n) (fun v => v = .int .i64 n) := by
 have eS : fieldsS n = [] := by unfold fieldsS; repeat (first | rw [if_neg (by omega)])
 have t1 : (n == 1) = false := by simp; omega
 have t2 : (n == 2) = false := by simp; omega
 have t3 : (n == 3) = false := by simp; omega
 have t4 : (n == 4) = false := by simp; omega
 have t5 : (n == 5) = false := by simp; omega
 have t7 : (n == 7) = false := by simp; omega
 have t8 : (n == 8) = false := by simp; omega
 have t9 : (n == 9) = false := by simp; omega
 have t10 : (n == 10) = false := by simp; omega
 intro F hF s w b A m hAl h hK hr
 have hmf : ∀ (fn : Fn) (first cap : Array Value) (w : World), (Instr.makeFunc fn first cap).run Try.prog w = .ok (.func fn first cap) w := fun _ _ _ _ => rfl
 obtain ⟨cs0, hb0⟩ : ∃ cs0, w.heap[b]? = some (.cells cs0 35 (0, 0)) := let ⟨cs, _, h2, _⟩ := h.blk; ⟨cs, h2⟩
 have HGb := aK (show w.heap.size ≠ b from fun e => by have := blk_lt hb0; omega)
 have HGA := aK (show ¬ A w.heap.size from fun e => by have := hAl _ e; omega)
 have HGo := aK (show ¬ F.own (w.alloc (.cells #[.iface F.ty F.v] 114)).heap w.heap.size from fun e => by have := hF.lt h.inv (alloc_own hF h.inv _ _ e); omega)
 have cg0 : (w.alloc (.cells #[.iface F.ty F.v] 114)).cell? ⟨w.heap.size, 0, none⟩ = some (.iface F.ty F.v) := by rw [World.cell?_alloc_at _ _ _ _ rfl]; rfl
 have S0 := aK (Stand.start (h.alloc hF (.cells #[.iface F.ty F.v] 114)) (fieldsS n))
 rw [hK] at S0
 have HCg := aK cg0
 have HR := aK hr
 have HG := aK hF
 have ck0 := S0.out.kind
 have HBl := aK (blk_lt hb0)
 have ck00 : w.cell? ⟨b, 0, none⟩ = some (.int .i64 n) := ((World.cell?_alloc_past _ _ _ HBl.out).symm.trans ck0)
 suffices hsuf : Calls Try.prog 41 #[.iface F.ty F.v, .pointer (some ⟨b, 0, none⟩)] w (MOn F s (w.alloc (.cells #[.iface F.ty F.v] 114)) b A (F.run s m (fieldsS n)).1 (F.runCost s m (fieldsS n)) (F.run s m (fieldsS n)).2) from hsuf.mono (fun e w' H => H.unalloc hF h.inv)
 generalize (F.run s m (fieldsS n)).1 = sF at *
 generalize (F.run s m (fieldsS n)).2 = mF at *
 generalize F.runCost s m (fieldsS n) = C at *
 clear h hr hF hAl hb0 cs0 hK
 rw [eS] at S0
 clear eS
 go_enter Try.func41, Try.ntmps41
 go_wp2
 go_end0
 exact S0.out.done
theorem fields9_c : WholeC 41 (fieldsS 9) (fun v => v = .int .i64 9) := by
 intro F hF s w b A m hAl h hK hr
 have hmf : ∀ (fn : Fn) (first cap : Array Value) (w : World), (Instr.makeFunc fn first cap).run Try.prog w = .ok (.func fn first cap) w := fun _ _ _ _ => rfl
 obtain ⟨cs0, hb0⟩ : ∃ cs0, w.heap[b]? = some (.cells cs0 35 (0, 0)) := let ⟨cs, _, h2, _⟩ := h.blk; ⟨cs, h2⟩
 have HGb := aK (show w.heap.size ≠ b from fun e => by have := blk_lt hb0; omega)
 have HGA := aK (show ¬ A w.heap.size from fun e => by have := hAl _ e; omega)
 have HGo := aK (show ¬ F.own (w.alloc (.cells #[.iface F.ty F.v] 114)).heap w.heap.size from fun e => by have := hF.lt h.inv (alloc_own hF h.inv _ _ e); omega)
 have cg0 : (w.alloc (.cells #[.iface F.ty F.v] 114)).cell? ⟨w.heap.size, 0, none⟩ = some (.iface F.ty F.v) := by rw [World.cell?_alloc_at _ _ _ _ rfl]; rfl
 have S0 := aK (Stand.start (h.alloc hF (.cells #[.iface F.ty F.v] 114)) (fieldsS 9))
 rw [hK] at S0
 have HCg := aK cg0
 have HR := aK hr
 have HG := aK hF
 have ck0 := S0.out.kind
 have HBl := aK (blk_lt hb0)
 have ck00 : w.cell? ⟨b, 0, none⟩ = some (.int .i64 9) := ((World.cell?_alloc_past _ _ _ HBl.out).symm.trans ck0)
 suffices hsuf : Calls Try.prog 41 #[.iface F.ty F.v, .pointer (some ⟨b, 0, none⟩)] w (MOn F s (w.alloc (.cells #[.iface F.ty F.v] 114)) b A (F.run s m (fieldsS 9)).1 (F.runCost s m (fieldsS 9)) (F.run s m (fieldsS 9)).2) from hsuf.mono (fun e w' H => H.unalloc hF h.inv)
 generalize (F.run s m (fieldsS 9)).1 = sF at *
 generalize (F.run s m (fieldsS 9)).2 = mF at *
 generalize F.runCost s m (fieldsS 9) = C at *
 clear h hr hF hAl hb0 cs0 hK
 have S0 := aK (show Stand F s (w.alloc (.cells #[.iface F.ty F.v] 114)) b A (.int .i64 9) C sF mF (whoS ++ (faultS ++ [.row 22 valueF, .row 11 posF, .row 19 posF])) (w.alloc (.cells #[.iface F.ty F.v] 114)) from S0.out)
 go_enter Try.func41, Try.ntmps41
 have C0 := aK (Stand.whole' who_c S0.out HG.out HR.out trivial rfl)
 go_wp2_with (go_at_call 70; (with_reducible refine C0.out.mono ?_); rintro e w1 ⟨rfl, H⟩; have cg1 := H.cell HGo.out HGb.out HGA.out HCg.out; have ck1 := H.kind; have S1 := aK H; clear H)
 have C1 := aK (Stand.whole' fault_c S1.out HG.out HR.out trivial rfl)
 go_wp2_with (go_at_call 71; (with_reducible refine C1.out.mono ?_); rintro e w2 ⟨rfl, H⟩; have cg2 := H.cell HGo.out HGb.out HGA.out HCg.out; have ck2 := H.kind; have S2 := aK H; clear H)
 have C2 := aK (S2.out.rowC HG.out HR.out value_c rfl (by omega))
 go_region_held3 (fun W => W.cell? ⟨w.heap.size, 0, none⟩ = some (.iface F.ty F.v)) (go_keep) (((with_reducible refine C2.out.mono ?_); rintro e w3 ⟨rfl, H⟩; have cg3 := H.cell HGo.out HGb.out HGA.out HCg.out; have ck3 := H.kind; have S3 := aK H; clear H))
 have C3 := aK (S3.out.rowC HG.out HR.out pos_c rfl (by omega))
 go_wp2
 go_region_held3 (fun W => W.cell? ⟨w.heap.size, 0, none⟩ = some (.iface F.ty F.v)) (go_keep) (((with_reducible refine C3.out.mono ?_); rintro e w4 ⟨rfl, H⟩; have cg4 := H.cell HGo.out HGb.out HGA.out HCg.out; have ck4 := H.kind; have S4 := aK H; clear H))
 have C4 := aK (S4.out.rowC HG.out HR.out pos_c rfl (by omega))
 go_wp2
 go_region_held3 (fun W => W.cell? ⟨w.heap.size, 0, none⟩ = some (.iface F.ty F.v)) (go_keep) (((with_reducible refine C4.out.mono ?_); rintro e w5 ⟨rfl, H⟩; have cg5 := H.cell HGo.out HGb.out HGA.out HCg.out; have ck5 := H.kind; have S5 := aK H; clear H))
 go_wp2
 go_end0
 exact S5.out.done
theorem fields10_c : WholeC 41 (fieldsS 10) (fun v => v = .int .i64 10) := by
 intro F hF s w b A m hAl h hK hr
 have hmf : ∀ (fn : Fn) (first cap : Array Value) (w : World), (Instr.makeFunc fn first cap).run Try.prog w = .ok (.func fn first cap) w := fun _ _ _ _ => rfl
 obtain ⟨cs0, hb0⟩ : ∃ cs0, w.heap[b]? = some (.cells cs0 35 (0, 0)) := let ⟨cs, _, h2, _⟩ := h.blk; ⟨cs, h2⟩
 have HGb := aK (show w.heap.size ≠ b from fun e => by have := blk_lt hb0; omega)
 have HGA := aK (show ¬ A w.heap.size from fun e => by have := hAl _ e; omega)
 have HGo := aK (show ¬ F.own (w.alloc (.cells #[.iface F.ty F.v] 114)).heap w.heap.size from fun e => by have := hF.lt h.inv (alloc_own hF h.inv _ _ e); omega)
 have cg0 : (w.alloc (.cells #[.iface F.ty F.v] 114)).cell? ⟨w.heap.size, 0, none⟩ = some (.iface F.ty F.v) := by rw [World.cell?_alloc_at _ _ _ _ rfl]; rfl
 have S0 := aK (Stand.start (h.alloc hF (.cells #[.iface F.ty F.v] 114)) (fieldsS 10))
 rw [hK] at S0
 have HCg := aK cg0
 have HR := aK hr
 have HG := aK hF
 have ck0 := S0.out.kind
 have HBl := aK (blk_lt hb0)
 have ck00 : w.cell? ⟨b, 0, none⟩ = some (.int .i64 10) := ((World.cell?_alloc_past _ _ _ HBl.out).symm.trans ck0)
 suffices hsuf : Calls Try.prog 41 #[.iface F.ty F.v, .pointer (some ⟨b, 0, none⟩)] w (MOn F s (w.alloc (.cells #[.iface F.ty F.v] 114)) b A (F.run s m (fieldsS 10)).1 (F.runCost s m (fieldsS 10)) (F.run s m (fieldsS 10)).2) from hsuf.mono (fun e w' H => H.unalloc hF h.inv)
 generalize (F.run s m (fieldsS 10)).1 = sF at *
 generalize (F.run s m (fieldsS 10)).2 = mF at *
 generalize F.runCost s m (fieldsS 10) = C at *
 clear h hr hF hAl hb0 cs0 hK
 have S0 := aK (show Stand F s (w.alloc (.cells #[.iface F.ty F.v] 114)) b A (.int .i64 10) C sF mF (whoS ++ (faultS ++ [.row 4 posF, .row 19 posF])) (w.alloc (.cells #[.iface F.ty F.v] 114)) from S0.out)
 go_enter Try.func41, Try.ntmps41
 have C0 := aK (Stand.whole' who_c S0.out HG.out HR.out trivial rfl)
 go_wp2_with (go_at_call 70; (with_reducible refine C0.out.mono ?_); rintro e w1 ⟨rfl, H⟩; have cg1 := H.cell HGo.out HGb.out HGA.out HCg.out; have ck1 := H.kind; have S1 := aK H; clear H)
 have C1 := aK (Stand.whole' fault_c S1.out HG.out HR.out trivial rfl)
 go_wp2_with (go_at_call 71; (with_reducible refine C1.out.mono ?_); rintro e w2 ⟨rfl, H⟩; have cg2 := H.cell HGo.out HGb.out HGA.out HCg.out; have ck2 := H.kind; have S2 := aK H; clear H)
 have C2 := aK (S2.out.rowC HG.out HR.out pos_c rfl (by omega))
 go_region_held3 (fun W => W.cell? ⟨w.heap.size, 0, none⟩ = some (.iface F.ty F.v)) (go_keep) (((with_reducible refine C2.out.mono ?_); rintro e w3 ⟨rfl, H⟩; have cg3 := H.cell HGo.out HGb.out HGA.out HCg.out; have ck3 := H.kind; have S3 := aK H; clear H))
 have C3 := aK (S3.out.rowC HG.out HR.out pos_c rfl (by omega))
 go_wp2
 go_region_held3 (fun W => W.cell? ⟨w.heap.size, 0, none⟩ = some (.iface F.ty F.v)) (go_keep) (((with_reducible refine C3.out.mono ?_); rintro e w4 ⟨rfl, H⟩; have cg4 := H.cell HGo.out HGb.out HGA.out HCg.out; have ck4 := H.kind; have S4 := aK H; clear H))
 go_wp2
 go_end0
 exact S4.out.done
abbrev OSt := List Int × Bool × Bool
def OInv (g : Nat) (s : OSt) (w : World) : Prop := ∃ v, WrAt w g 83 [.bool s.2.2] v s.1 s.2.1
def OOwn (g : Nat) (h : Array Obj) (k : Nat) : Prop := k = g ∨ ∃ cs T, h[g]? = some (.cells cs T (0, 0)) ∧ ∃ v, cs[0]? = some v ∧ v.ownBlock = some k
theorem OOwn.of {g : Nat} {w : World} {T : TypeId} {r : List Value} {v : Value} {xs : List Int} {bad : Bool} (h : WrAt w g T r v xs bad) (k : Nat) : OOwn g w.heap k ↔ WS g v k := by
 have e : ([v, .bool bad] ++ r).toArray[0]? = some v := by simp
 constructor
 ·rintro (e' | ⟨cs, T', hb, v', hv, hk⟩)
  ·exact .inl e'
  ·rw [h.1] at hb
   injection hb with hb
   injection hb with hb
   subst hb
   rw [e] at hv
   injection hv with hv
   subst hv
   exact .inr hk
 ·rintro (e' | hk)
  ·exact .inl e'
  ·exact .inr ⟨_, _, h.1, v, e, hk⟩
theorem WrAt.third {w : World} {g T : Nat} {o : Bool} {v : Value} {xs : List Int} {bad : Bool} (h : WrAt w g T [.bool o] v xs bad) (o' : Bool) : WrAt (w.setCell ⟨g, 2, none⟩ (.bool o')) g T [.bool o'] v xs bad :=
 ⟨by rw [blk_set h.1]; simp, own_setCell h.2.1 (p := ⟨g, 2, none⟩) (Ne.symm h.2.2) _, h.2.2⟩
theorem WrAt.cell2 {w : World} {g T : Nat} {o : Bool} {v : Value} {xs : List Int} {bad : Bool} (h : WrAt w g T [.bool o] v xs bad) : w.cell? ⟨g, 2, none⟩ = some (.bool o) := by rw [blk_cell h.1]; rfl
def onum (s : OSt) (n lo hi : Int) : OSt := ((wnum n s.1 s.2.1).1, (wnum n s.1 s.2.1).2, s.2.2 || decide (n < lo) || decide (hi < n))
def oflag (s : OSt) (x : Bool) : OSt := ((wflag x s.1 s.2.1).1, (wflag x s.1 s.2.1).2, s.2.2)
def otext (s : OSt) (x : ByteArray) (most : Int) : OSt := ((wtext x s.1 s.2.1).1, (wtext x s.1 s.2.1).2, s.2.2 || decide (most < (x.size : Int)))
def ocount (s : OSt) (n most : Int) : OSt := ((wnum n s.1 s.2.1).1, (wnum n s.1 s.2.1).2, s.2.2 || decide (most < n))
def oForm (g : Nat) : Form where
 ty := 77
 v := .pointer (some ⟨g, 0, none⟩)
 k := fun n => if n = 0 then 39 else if n = 1 then 103 else if n = 2 then 104 else 102
 σ := OSt
 Inv := OInv g
 own := OOwn g
 room := fun s => s.1.length
 num := fun s n lo hi => (onum s n lo hi, n)
 flag := fun s x => (oflag s x, x)
 text := fun s x most => (otext s x most, x)
 count := fun s n most => (ocount s n most, n)
theorem OStep {g b i : Nat} {s s' : OSt} {cs : Array Value} {T : TypeId} {u : Value} {w w' : World} {d : Nat} {v v' : Value} (h : WrAt w g 83 [.bool s.2.2] v s.1 s.2.1) (hb : w.heap[b]? = some (.cells cs T (0, 0))) (hc : cs[i]? = some u) (ho : ¬ OOwn g w.heap b)
  (h' : WrAt w' g 83 [.bool s'.2.2] v' s'.1 s'.2.1) (hN : NewRow w v v') (hO : Only (WS g v) w w') (hr : s'.1.length ≤ s.1.length + d) : Stepped (oForm g) s s' [(⟨b, i, none⟩, u)] d w w' := by
 refine ⟨⟨v', h'⟩, fun k hk ho' => (OOwn.of h k).2 (WS.step hN hk ((OOwn.of h' k).1 ho')), ?_, hr⟩
 refine ⟨hO.os, hO.tape, hO.output, hO.size, fun k hk hn => ?_⟩
 rw [hO.block k hk (fun hs => hn ((OOwn.of h k).2 hs))]
 exact (setCell_self hb hc k).symm
theorem OStep0 {g : Nat} {s s' : OSt} {w w' : World} {d : Nat} {v v' : Value} (h : WrAt w g 83 [.bool s.2.2] v s.1 s.2.1)
  (h' : WrAt w' g 83 [.bool s'.2.2] v' s'.1 s'.2.1) (hN : NewRow w v v') (hO : Only (WS g v) w w') (hr : s'.1.length ≤ s.1.length + d) : Stepped (oForm g) s s' [] d w w' :=
 ⟨⟨v', h'⟩, fun k hk ho' => (OOwn.of h k).2 (WS.step hN hk ((OOwn.of h' k).1 ho')), ⟨hO.os, hO.tape, hO.output, hO.size, fun k hk hn => hO.block k hk (fun hs => hn ((OOwn.of h k).2 hs))⟩, hr⟩
theorem OStep.of {g b i : Nat} {s s' : OSt} {cs : Array Value} {T : TypeId} {u : Value} {w w' : World} {d : Nat} {v : Value} {e : Ending} (h : WrAt w g 83 [.bool s.2.2] v s.1 s.2.1) (hb : w.heap[b]? = some (.cells cs T (0, 0))) (hc : cs[i]? = some u) (ho : ¬ OOwn g w.heap b)
  (h' : IsWr g 83 [.bool s'.2.2] v s'.1 s'.2.1 w e w') (hr : s'.1.length ≤ s.1.length + d) : Did (oForm g) s s' [(⟨b, i, none⟩, u)] d w e w' := by
 obtain ⟨v', rfl, h1, h2, h3⟩ := h'
 exact ⟨rfl, OStep h hb hc ho h1 h2 h3 hr⟩
theorem IsWr.undrew {g T : Nat} {r : List Value} {v : Value} {xs : List Int} {bad : Bool} {w w' : World} {e : Ending} (h : IsWr g T r v xs bad w.drew e w') : IsWr g T r v xs bad w e w' := by
 obtain ⟨v', rfl, h1, h2, h3⟩ := h
 exact ⟨v', rfl, h1, h2, h3.os, h3.tape, h3.output, h3.size, h3.block⟩
theorem keepCell {g b i T0 : Nat} {r : List Value} {bad : Bool} {xs : List Int} {cs : Array Value} {T : TypeId} {u : Value} {w : World} {v : Value} (h : WrAt w g T0 r v xs bad) (hb : w.heap[b]? = some (.cells cs T (0, 0))) (hc : cs[i]? = some u) (ho : ¬ OOwn g w.heap b) :
  ∀ w' : World, Only (WS g v) w w' → w'.cell? ⟨b, i, none⟩ = some u := fun w' hO => hO.cell ((blk_cell hb i).trans hc) (fun hs => ho ((OOwn.of h b).2 hs))
theorem wtext_le (x : ByteArray) (xs : List Int) (bad : Bool) : (wtext x xs bad).1.length ≤ xs.length + (8 + x.size) := by
 have h := wnum_le (x.size : Int) xs bad
 unfold wtext
 split
 ·dsimp only; omega
 ·rw [List.length_append, show (bytesOf x).length = x.size by simp [bytesOf]]; omega
theorem oflag_c (g b i : Nat) (s : OSt) (w : World) (cs : Array Value) (T : TypeId) (x : Bool) (hI : OInv g s w) (ho : ¬ OOwn g w.heap b) (hr : s.1.length + 8 ≤ cap) (hb : w.heap[b]? = some (.cells cs T (0, 0))) (hc : cs[i]? = some (.bool x)) :
  Calls Try.prog 103 #[.pointer (some ⟨g, 0, none⟩), .pointer (some ⟨b, i, none⟩)] w (Did (oForm g) s (oflag s x) [(⟨b, i, none⟩, .bool x)] 8 w) := by
 obtain ⟨v, hW⟩ := hI
 suffices hs : Calls Try.prog 103 #[.pointer (some ⟨g, 0, none⟩), .pointer (some ⟨b, i, none⟩)] w (IsWr g 83 [.bool s.2.2] v (wflag x s.1 s.2.1).1 (wflag x s.1 s.2.1).2 w) from hs.mono fun e w' h' => OStep.of (s' := oflag s x) hW hb hc ho h' (wnum_le _ _ _)
 have C := aK (wFlag_c x g 83 [.bool s.2.2] v s.1 s.2.1 w.drew hW (by unfold cap at hr; omega))
 have HK := aK (keepCell hW hb hc ho)
 have c0 : w.cell? ⟨b, i, none⟩ = some (.bool x) := (blk_cell hb i).trans hc
 generalize wflag x s.1 s.2.1 = R at *
 clear hW hb hc ho hr
 go_enter Try.func103, Try.ntmps103
 go_region_held3 (fun W => W.cell? ⟨b, i, none⟩ = some (.bool x)) (go_keep) ((go_at_call 101; (with_reducible refine C.out.mono ?_); rintro e w' ⟨v2, rfl, hW2, hN2, hO2⟩; have H := aK (show IsWr g 83 [.bool s.2.2] v R.1 R.2 w.drew (.returned (.tuple #[])) w' from ⟨v2, rfl, hW2, hN2, hO2⟩); have cc := HK.out w' ⟨hO2.os, hO2.tape, hO2.output, hO2.size, hO2.block⟩; clear hW2 hN2 hO2))
 go_wp2
 go_end0
 exact IsWr.undrew H.out
theorem IsWr.unset {g : Nat} {o o' : Bool} {v : Value} {xs ys : List Int} {bad bad' : Bool} {w w' : World} {e : Ending} (h0 : WrAt w g 83 [.bool o] v ys bad') (h : IsWr g 83 [.bool o'] v xs bad (w.setCell ⟨g, 2, none⟩ (.bool o')).drew e w') : IsWr g 83 [.bool o'] v xs bad w e w' := by
 obtain ⟨v', rfl, h1, h2, h3⟩ := IsWr.undrew h
 refine ⟨v', rfl, h1, ?_, ((Only.refl (WS g v) w).set (.inr (.inl rfl)) _).then_ h3⟩
 rcases h2 with h2 | ⟨b, h2, h4⟩
 ·exact .inl h2
 ·exact .inr ⟨b, h2, by rwa [World.size_setCell] at h4⟩
theorem OOwn.set {g b : Nat} {w : World} {T : TypeId} {o : Bool} {v : Value} {xs : List Int} {bad : Bool} (h : WrAt w g T [.bool o] v xs bad) (ho : ¬ OOwn g w.heap b) (o' : Bool) : ¬ OOwn g (w.setCell ⟨g, 2, none⟩ (.bool o')).heap b :=
 fun h' => ho ((OOwn.of h b).2 ((OOwn.of (WrAt.third h o') b).1 h'))
theorem onum_c (g b i : Nat) (s : OSt) (w : World) (cs : Array Value) (T : TypeId) (n lo hi : Int) (hI : OInv g s w) (ho : ¬ OOwn g w.heap b) (hr : s.1.length + 8 ≤ cap) (hb : w.heap[b]? = some (.cells cs T (0, 0))) (hc : cs[i]? = some (.int .i64 n)) :
  Calls Try.prog 39 #[.pointer (some ⟨g, 0, none⟩), .pointer (some ⟨b, i, none⟩), .int .i64 lo, .int .i64 hi] w (Did (oForm g) s (onum s n lo hi) [(⟨b, i, none⟩, .int .i64 n)] 8 w) := by
 obtain ⟨v, hW⟩ := hI
 obtain ⟨xs, bad, o⟩ := s
 dsimp only at hW hr
 obtain ⟨o', ho'⟩ : ∃ o', o' = (o || decide (n < lo) || decide (hi < n)) := ⟨_, rfl⟩
 suffices hs : Calls Try.prog 39 #[.pointer (some ⟨g, 0, none⟩), .pointer (some ⟨b, i, none⟩), .int .i64 lo, .int .i64 hi] w (IsWr g 83 [.bool o'] v (wnum n xs bad).1 (wnum n xs bad).2 w) from hs.mono fun e w' h' => OStep.of (s := (xs, bad, o)) (s' := onum (xs, bad, o) n lo hi) hW hb hc ho (by rw [ho'] at h'; exact h') (wnum_le _ _ _)
 have C := aK (fun o' => wNum_c n g 83 [.bool o'] v xs bad (w.setCell ⟨g, 2, none⟩ (.bool o')).drew (WrAt.third hW o') (by unfold cap at hr; omega))
 have hgb : b ≠ g := fun e => ho (.inl e)
 have hb' : ∀ o', (w.setCell ⟨g, 2, none⟩ (.bool o')).heap[b]? = some (.cells cs T (0, 0)) := fun o' => (Below.heap_setCell _ _ _ _ hgb).trans hb
 have HK := aK (fun o' => keepCell (WrAt.third hW o') (hb' o') hc (OOwn.set hW ho o'))
 have c0 : w.cell? ⟨b, i, none⟩ = some (.int .i64 n) := (blk_cell hb i).trans hc
 have HC1 := aK (fun o' => (blk_cell (hb' o') i).trans hc)
 have cg2 := WrAt.cell2 hW
 have fg2 := hW.frozen 2
 have HW := aK hW
 generalize wnum n xs bad = R at *
 clear hW hb hb' hc ho hr
 cases o
 ·by_cases h1 : n < lo
  ·skip
   obtain rfl : o' = true := by rw [ho']; simp [h1]
   clear ho'
   have C' := aK (C.out true)
   have HK' := aK (HK.out true)
   have c1 := HC1.out true
   go_enter Try.func39, Try.ntmps39
   go_wp2
   go_region_held3 (fun W => W.cell? ⟨b, i, none⟩ = some (.int .i64 n)) (go_keep) ((go_at_call 62; (with_reducible refine C'.out.mono ?_); rintro e w' ⟨v2, rfl, hW2, hN2, hO2⟩; have H := aK (show IsWr g 83 [.bool true] v R.1 R.2 (w.setCell ⟨g, 2, none⟩ (.bool true)).drew (.returned (.tuple #[])) w' from ⟨v2, rfl, hW2, hN2, hO2⟩); have cc := HK'.out w' ⟨hO2.os, hO2.tape, hO2.output, hO2.size, hO2.block⟩; clear hW2 hN2 hO2))
   go_wp2
   go_end0
   exact IsWr.unset HW.out H.out
  ·by_cases h2 : hi < n
   ·skip
    obtain rfl : o' = true := by rw [ho']; simp [h2]
    clear ho'
    have C' := aK (C.out true)
    have HK' := aK (HK.out true)
    have c1 := HC1.out true
    go_enter Try.func39, Try.ntmps39
    go_wp2
    go_region_held3 (fun W => W.cell? ⟨b, i, none⟩ = some (.int .i64 n)) (go_keep) ((go_at_call 62; (with_reducible refine C'.out.mono ?_); rintro e w' ⟨v2, rfl, hW2, hN2, hO2⟩; have H := aK (show IsWr g 83 [.bool true] v R.1 R.2 (w.setCell ⟨g, 2, none⟩ (.bool true)).drew (.returned (.tuple #[])) w' from ⟨v2, rfl, hW2, hN2, hO2⟩); have cc := HK'.out w' ⟨hO2.os, hO2.tape, hO2.output, hO2.size, hO2.block⟩; clear hW2 hN2 hO2))
    go_wp2
    go_end0
    exact IsWr.unset HW.out H.out
   ·skip
    obtain rfl : o' = false := by rw [ho']; simp [Int.not_lt.1 h1, Int.not_lt.1 h2]
    clear ho'
    have C' := aK (C.out false)
    have HK' := aK (HK.out false)
    have c1 := HC1.out false
    go_enter Try.func39, Try.ntmps39
    go_wp2
    go_region_held3 (fun W => W.cell? ⟨b, i, none⟩ = some (.int .i64 n)) (go_keep) ((go_at_call 62; (with_reducible refine C'.out.mono ?_); rintro e w' ⟨v2, rfl, hW2, hN2, hO2⟩; have H := aK (show IsWr g 83 [.bool false] v R.1 R.2 (w.setCell ⟨g, 2, none⟩ (.bool false)).drew (.returned (.tuple #[])) w' from ⟨v2, rfl, hW2, hN2, hO2⟩); have cc := HK'.out w' ⟨hO2.os, hO2.tape, hO2.output, hO2.size, hO2.block⟩; clear hW2 hN2 hO2))
    go_wp2
    go_end0
    exact IsWr.unset HW.out H.out
 ·skip
  obtain rfl : o' = true := by rw [ho']; simp []
  clear ho'
  have C' := aK (C.out true)
  have HK' := aK (HK.out true)
  have c1 := HC1.out true
  go_enter Try.func39, Try.ntmps39
  go_wp2
  go_region_held3 (fun W => W.cell? ⟨b, i, none⟩ = some (.int .i64 n)) (go_keep) ((go_at_call 62; (with_reducible refine C'.out.mono ?_); rintro e w' ⟨v2, rfl, hW2, hN2, hO2⟩; have H := aK (show IsWr g 83 [.bool true] v R.1 R.2 (w.setCell ⟨g, 2, none⟩ (.bool true)).drew (.returned (.tuple #[])) w' from ⟨v2, rfl, hW2, hN2, hO2⟩); have cc := HK'.out w' ⟨hO2.os, hO2.tape, hO2.output, hO2.size, hO2.block⟩; clear hW2 hN2 hO2))
  go_wp2
  go_end0
  exact IsWr.unset HW.out H.out
theorem ocount_c (g : Nat) (s : OSt) (w : World) (n hi : Int) (hI : OInv g s w) (hr : s.1.length + 8 ≤ cap) :
  Calls Try.prog 102 #[.pointer (some ⟨g, 0, none⟩), .int .i64 n, .int .i64 hi] w (fun e w' => e = .returned (.int .i64 n) ∧ Stepped (oForm g) s (ocount s n hi) [] 8 w w') := by
 obtain ⟨v, hW⟩ := hI
 obtain ⟨xs, bad, o⟩ := s
 dsimp only at hW hr
 obtain ⟨o', ho'⟩ : ∃ o', o' = (o || decide (hi < n)) := ⟨_, rfl⟩
 suffices hs : Calls Try.prog 102 #[.pointer (some ⟨g, 0, none⟩), .int .i64 n, .int .i64 hi] w (fun e w' => e = .returned (.int .i64 n) ∧ IsWr g 83 [.bool o'] v (wnum n xs bad).1 (wnum n xs bad).2 w (.returned (.tuple #[])) w') from hs.mono fun e w' h' => by
  obtain ⟨he, v', _, h1, h2, h3⟩ := h'
  refine ⟨he, OStep0 (s' := ocount (xs, bad, o) n hi) hW (by rw [ho'] at h1; exact h1) h2 h3 (wnum_le _ _ _)⟩
 have C := aK (fun o' => wNum_c n g 83 [.bool o'] v xs bad (w.setCell ⟨g, 2, none⟩ (.bool o')) (WrAt.third hW o') (by unfold cap at hr; omega))
 have cg2 := WrAt.cell2 hW
 have fg2 := hW.frozen 2
 have HW := aK hW
 generalize wnum n xs bad = R at *
 clear hW hr
 cases o
 ·by_cases h2 : hi < n
  ·skip
   obtain rfl : o' = true := by rw [ho']; simp [h2]
   clear ho'
   have C' := aK (C.out true)
   go_enter Try.func102, Try.ntmps102
   go_wp2_with (go_at_call 62; (with_reducible refine C'.out.mono ?_); rintro e w' ⟨v2, rfl, hW2, hN2, hO2⟩; have H := aK (show IsWr g 83 [.bool true] v R.1 R.2 (w.setCell ⟨g, 2, none⟩ (.bool true)).drew (.returned (.tuple #[])) w' from ⟨v2, rfl, hW2, hN2.imp id id, hO2.os, hO2.tape, hO2.output, hO2.size, hO2.block⟩); clear hW2 hN2 hO2)
   go_ret
   exact ⟨rfl, IsWr.unset HW.out H.out⟩
  ·skip
   obtain rfl : o' = false := by rw [ho']; simp [Int.not_lt.1 h2]
   clear ho'
   have C' := aK (C.out false)
   go_enter Try.func102, Try.ntmps102
   go_wp2_with (go_at_call 62; (with_reducible refine C'.out.mono ?_); rintro e w' ⟨v2, rfl, hW2, hN2, hO2⟩; have H := aK (show IsWr g 83 [.bool false] v R.1 R.2 (w.setCell ⟨g, 2, none⟩ (.bool false)).drew (.returned (.tuple #[])) w' from ⟨v2, rfl, hW2, hN2.imp id id, hO2.os, hO2.tape, hO2.output, hO2.size, hO2.block⟩); clear hW2 hN2 hO2)
   go_ret
   exact ⟨rfl, IsWr.unset HW.out H.out⟩
 ·skip
  obtain rfl : o' = true := by rw [ho']; simp []
  clear ho'
  have C' := aK (C.out true)
  go_enter Try.func102, Try.ntmps102
  go_wp2_with (go_at_call 62; (with_reducible refine C'.out.mono ?_); rintro e w' ⟨v2, rfl, hW2, hN2, hO2⟩; have H := aK (show IsWr g 83 [.bool true] v R.1 R.2 (w.setCell ⟨g, 2, none⟩ (.bool true)).drew (.returned (.tuple #[])) w' from ⟨v2, rfl, hW2, hN2.imp id id, hO2.os, hO2.tape, hO2.output, hO2.size, hO2.block⟩); clear hW2 hN2 hO2)
  go_ret
  exact ⟨rfl, IsWr.unset HW.out H.out⟩
theorem otext_c (g b i : Nat) (s : OSt) (w : World) (cs : Array Value) (T : TypeId) (x : ByteArray) (hi : Int) (hI : OInv g s w) (ho : ¬ OOwn g w.heap b) (hr : s.1.length + 8 + x.size ≤ cap) (hb : w.heap[b]? = some (.cells cs T (0, 0))) (hc : cs[i]? = some (.string x)) :
  Calls Try.prog 104 #[.pointer (some ⟨g, 0, none⟩), .pointer (some ⟨b, i, none⟩), .int .i64 hi] w (Did (oForm g) s (otext s x hi) [(⟨b, i, none⟩, .string x)] (8 + x.size) w) := by
 obtain ⟨v, hW⟩ := hI
 obtain ⟨xs, bad, o⟩ := s
 dsimp only at hW hr
 obtain ⟨o', ho'⟩ : ∃ o', o' = (o || decide (hi < (x.size : Int))) := ⟨_, rfl⟩
 suffices hs : Calls Try.prog 104 #[.pointer (some ⟨g, 0, none⟩), .pointer (some ⟨b, i, none⟩), .int .i64 hi] w (IsWr g 83 [.bool o'] v (wtext x xs bad).1 (wtext x xs bad).2 w) from hs.mono fun e w' h' => OStep.of (s := (xs, bad, o)) (s' := otext (xs, bad, o) x hi) hW hb hc ho (by rw [ho'] at h'; exact h') (wtext_le _ _ _)
 have C := aK (fun o' => wText_c x g 83 [.bool o'] v xs bad (w.setCell ⟨g, 2, none⟩ (.bool o')).drew (WrAt.third hW o') (by unfold cap at hr; omega))
 have hgb : b ≠ g := fun e => ho (.inl e)
 have hb' : ∀ o', (w.setCell ⟨g, 2, none⟩ (.bool o')).heap[b]? = some (.cells cs T (0, 0)) := fun o' => (Below.heap_setCell _ _ _ _ hgb).trans hb
 have HK := aK (fun o' => keepCell (WrAt.third hW o') (hb' o') hc (OOwn.set hW ho o'))
 have c0 : w.cell? ⟨b, i, none⟩ = some (.string x) := (blk_cell hb i).trans hc
 have HC1 := aK (fun o' => (blk_cell (hb' o') i).trans hc)
 have cg2 := WrAt.cell2 hW
 have fg2 := hW.frozen 2
 have HW := aK hW
 have hx : (x.size : Int) ≤ 9223372036854775807 := by unfold cap at hr; omega
 generalize wtext x xs bad = R at *
 clear hW hb hb' hc ho hr
 cases o
 ·by_cases h2 : hi < (x.size : Int)
  ·skip
   obtain rfl : o' = true := by rw [ho']; simp [h2]
   clear ho'
   have C' := aK (C.out true)
   have HK' := aK (HK.out true)
   have c1 := HC1.out true
   go_enter Try.func104, Try.ntmps104
   go_wp2
   go_region_held3 (fun W => W.cell? ⟨b, i, none⟩ = some (.string x)) (go_keep) ((go_at_call 105; (with_reducible refine C'.out.mono ?_); rintro e w' ⟨v2, rfl, hW2, hN2, hO2⟩; have H := aK (show IsWr g 83 [.bool true] v R.1 R.2 (w.setCell ⟨g, 2, none⟩ (.bool true)).drew (.returned (.tuple #[])) w' from ⟨v2, rfl, hW2, hN2, hO2⟩); have cc := HK'.out w' ⟨hO2.os, hO2.tape, hO2.output, hO2.size, hO2.block⟩; clear hW2 hN2 hO2))
   go_wp2
   go_end0
   exact IsWr.unset HW.out H.out
  ·skip
   obtain rfl : o' = false := by rw [ho']; simp [Int.not_lt.1 h2]
   clear ho'
   have C' := aK (C.out false)
   have HK' := aK (HK.out false)
   have c1 := HC1.out false
   go_enter Try.func104, Try.ntmps104
   go_wp2
   go_region_held3 (fun W => W.cell? ⟨b, i, none⟩ = some (.string x)) (go_keep) ((go_at_call 105; (with_reducible refine C'.out.mono ?_); rintro e w' ⟨v2, rfl, hW2, hN2, hO2⟩; have H := aK (show IsWr g 83 [.bool false] v R.1 R.2 (w.setCell ⟨g, 2, none⟩ (.bool false)).drew (.returned (.tuple #[])) w' from ⟨v2, rfl, hW2, hN2, hO2⟩); have cc := HK'.out w' ⟨hO2.os, hO2.tape, hO2.output, hO2.size, hO2.block⟩; clear hW2 hN2 hO2))
   go_wp2
   go_end0
   exact IsWr.unset HW.out H.out
 ·skip
  obtain rfl : o' = true := by rw [ho']; simp []
  clear ho'
  have C' := aK (C.out true)
  have HK' := aK (HK.out true)
  have c1 := HC1.out true
  go_enter Try.func104, Try.ntmps104
  go_wp2
  go_region_held3 (fun W => W.cell? ⟨b, i, none⟩ = some (.string x)) (go_keep) ((go_at_call 105; (with_reducible refine C'.out.mono ?_); rintro e w' ⟨v2, rfl, hW2, hN2, hO2⟩; have H := aK (show IsWr g 83 [.bool true] v R.1 R.2 (w.setCell ⟨g, 2, none⟩ (.bool true)).drew (.returned (.tuple #[])) w' from ⟨v2, rfl, hW2, hN2, hO2⟩); have cc := HK'.out w' ⟨hO2.os, hO2.tape, hO2.output, hO2.size, hO2.block⟩; clear hW2 hN2 hO2))
  go_wp2
  go_end0
  exact IsWr.unset HW.out H.out
theorem oGood (g : Nat) : (oForm g).Good where
 lt := fun {s w k} hI ho => by
  obtain ⟨v, hW⟩ := hI
  rcases (OOwn.of hW k).1 ho with rfl | hk
  ·exact blk_lt hW.1
  ·exact own_lt hW.2.1 k hk
 move := fun {s w w'} hI hm _ => by
  obtain ⟨v, hW⟩ := hI
  exact ⟨v, hW.move fun k hk => hm k ((OOwn.of hW k).2 hk)⟩
 own_move := fun {s w w'} hI hm k hk => by
  obtain ⟨v, hW⟩ := hI
  exact (OOwn.of hW k).2 ((OOwn.of (hW.move fun k hk => hm k ((OOwn.of hW k).2 hk)) k).1 hk)
 ahead := fun n m hn hm w => by
  obtain rfl | rfl | rfl | rfl : n = 0 ∨ n = 1 ∨ n = 2 ∨ n = 3 := by omega
  all_goals subst hm; rfl
 method := fun n m hn hm w => by
  obtain rfl | rfl | rfl | rfl : n = 0 ∨ n = 1 ∨ n = 2 ∨ n = 3 := by omega
  all_goals subst hm; rfl
 enter := fun n hn args w => by
  obtain rfl | rfl | rfl | rfl : n = 0 ∨ n = 1 ∨ n = 2 ∨ n = 3 := by omega
  all_goals rfl
 num_c := fun s w b i cs T n lo hi hI ho hr hb hc => onum_c g b i s w cs T n lo hi hI ho hr hb hc
 flag_c := fun s w b i cs T x hI ho hr hb hc => oflag_c g b i s w cs T x hI ho hr hb hc
 text_c := fun s w b i cs T x most hI ho hr hb hc => otext_c g b i s w cs T x most hI ho hr hb hc
 count_c := fun s w n most hI hr _ _ => ocount_c g s w n most hI hr
 count_lim := fun s n most hn _ => ⟨hn, .inl rfl⟩
abbrev ISt := List Int × Bool × Bool
structure IInv (g r q : Nat) (s : ISt) (w : World) : Prop where
 blk : w.heap[g]? = some (.cells #[.pointer (some ⟨r, 0, none⟩), .bool s.2.2] 110 (0, 0))
 rd : RdAt w r q s.1 s.2.1
 bytes : ∀ x ∈ s.1, IsB x
 ner : g ≠ r
 neq : g ≠ q
def IOwn (g r q : Nat) (_ : Array Obj) (k : Nat) : Prop := k = g ∨ k = r ∨ k = q
variable {g r q b i : Nat} {s : ISt} {w w' : World} {cs : Array Value} {T : TypeId} {u v : Value} {bs : List Int} {bad o : Bool}
theorem IInv.lt (h : IInv g r q s w) {k : Nat} (hk : IOwn g r q w.heap k) : k < w.heap.size := by
 rcases hk with rfl | rfl | rfl
 ·exact blk_lt h.blk
 ·obtain ⟨off, c, hb, _⟩ := h.rd; exact blk_lt hb
 ·obtain ⟨off, c, hb, _, _, _, hq, _⟩ := h.rd; exact hq
theorem IInv.move (h : IInv g r q s w) (hm : ∀ k, IOwn g r q w.heap k → w'.heap[k]? = w.heap[k]?) : IInv g r q s w' :=
 ⟨(hm g (.inl rfl)).trans h.blk, h.rd.move fun k hk => hm k (.inr hk), h.bytes, h.ner, h.neq⟩
def inum (s : ISt) (lo hi : Int) : ISt := ((rnum s.1 s.2.1).2.1, (rnum s.1 s.2.1).2.2, s.2.2 || decide ((rnum s.1 s.2.1).1 < lo) || decide (hi < (rnum s.1 s.2.1).1))
def iflag (s : ISt) : ISt := ((rflag s.1 s.2.1).2.1, (rflag s.1 s.2.1).2.2, s.2.2)
def itext (s : ISt) (most : Int) : ISt := ((rtext most s.1 s.2.1).2.1, (rtext most s.1 s.2.1).2.2, s.2.2)
def icount (s : ISt) (most : Int) : ISt := ((rcount most s.1 s.2.1).2.1, (rcount most s.1 s.2.1).2.2, s.2.2)
def iForm (g r q : Nat) : Form where
 ty := 106
 v := .pointer (some ⟨g, 0, none⟩)
 k := fun n => if n = 0 then 59 else if n = 1 then 108 else if n = 2 then 109 else 107
 σ := ISt
 Inv := IInv g r q
 own := IOwn g r q
 room := fun _ => 0
 num := fun s _ lo hi => (inum s lo hi, (rnum s.1 s.2.1).1)
 flag := fun s _ => (iflag s, (rflag s.1 s.2.1).1)
 text := fun s _ most => (itext s most, strOfNums (rtext most s.1 s.2.1).1)
 count := fun s _ most => (icount s most, (rcount most s.1 s.2.1).1)
theorem drop_mem {bs : List Int} {p : Int → Prop} (h : ∀ x ∈ bs, p x) (m : Nat) : ∀ x ∈ bs.drop m, p x := fun x hx => h x (List.mem_of_mem_drop hx)
theorem rflag_mem {bs : List Int} {bad : Bool} {p : Int → Prop} (h : ∀ x ∈ bs, p x) : ∀ x ∈ (rflag bs bad).2.1, p x := by
 unfold rflag
 split
 ·exact h
 ·split
  ·intro x hx; nomatch hx
  ·rename_i c t
   split
   ·exact fun x hx => h x (.tail _ hx)
   ·exact fun x hx => h x (.tail _ hx)
theorem rtext_mem {most : Int} {bs : List Int} {bad : Bool} {p : Int → Prop} (h : ∀ x ∈ bs, p x) : ∀ x ∈ (rtext most bs bad).2.1, p x := by
 unfold rtext
 split
 ·exact rnum_mem h
 ·exact drop_mem (rnum_mem h) _
theorem rcount_mem {most : Int} {bs : List Int} {bad : Bool} {p : Int → Prop} (h : ∀ x ∈ bs, p x) : ∀ x ∈ (rcount most bs bad).2.1, p x := by
 unfold rcount
 split
 ·exact rnum_mem h
 ·exact rnum_mem h
theorem IStep (h : IInv g r q s w) (hb : w.heap[b]? = some (.cells cs T (0, 0))) (ho : ¬ IOwn g r q w.heap b) (hR : RdAt w' r q bs bad) (hB : ∀ x ∈ bs, IsB x) (hO : Only (· = r) w w') (u : Value) :
  Stepped (iForm g r q) s (bs, bad, s.2.2) [(⟨b, i, none⟩, u)] 8 w (w'.setCell ⟨b, i, none⟩ u) := by
 have hg : w'.heap[g]? = w.heap[g]? := hO.block g (blk_lt h.blk) h.ner
 have hbg : g ≠ b := fun e => ho (.inl e.symm)
 refine ⟨⟨(Below.heap_setCell _ _ _ _ hbg).trans (hg.trans h.blk), hR.move fun k hk => Below.heap_setCell _ _ _ _ (fun e => ho (.inr (by have e' : k = b := e; rw [← e']; exact hk))), hB, h.ner, h.neq⟩, fun k _ hk => hk, ⟨hO.os, hO.tape, hO.output, by rw [World.size_setCell]; exact hO.size, fun k hk hn => setCell_congr (hO.block k hk (fun e => hn (.inr (.inl e)))) _ _⟩, Nat.zero_le _⟩
theorem IStep2 (h : IInv g r q s w) (hb : w.heap[b]? = some (.cells cs T (0, 0))) (ho : ¬ IOwn g r q w.heap b) (hR : RdAt w' r q bs bad) (hB : ∀ x ∈ bs, IsB x) (hO : Only (· = r) w w') (u : Value) (o : Bool) :
  Stepped (iForm g r q) s (bs, bad, o) [(⟨b, i, none⟩, u)] 8 w ((w'.setCell ⟨b, i, none⟩ u).setCell ⟨g, 1, none⟩ (.bool o)) := by
 have K := IStep (i := i) h hb ho hR hB hO u
 refine ⟨⟨by rw [blk_set K.inv.blk]; rfl, K.inv.rd.move fun k hk => Below.heap_setCell _ _ _ _ (fun e => ?_), hB, h.ner, h.neq⟩, fun k _ hk => hk, ⟨K.wrote.os, K.wrote.tape, K.wrote.output, by rw [World.size_setCell]; exact K.wrote.size, fun k hk hn => (Below.heap_setCell _ _ _ _ (fun e => hn (.inl e))).trans (K.wrote.block k hk hn)⟩, Nat.zero_le _⟩
 have e' : k = g := e
 rcases hk with hk | hk
 ·exact h.ner (e'.symm.trans hk)
 ·exact h.neq (e'.symm.trans hk)
theorem IStep0 (h : IInv g r q s w) (hR : RdAt w' r q bs bad) (hB : ∀ x ∈ bs, IsB x) (hO : Only (· = r) w w') : Stepped (iForm g r q) s (bs, bad, s.2.2) [] 8 w w' :=
 ⟨⟨(hO.block g (blk_lt h.blk) h.ner).trans h.blk, hR, hB, h.ner, h.neq⟩, fun k _ hk => hk, ⟨hO.os, hO.tape, hO.output, hO.size, fun k hk hn => hO.block k hk (fun e => hn (.inr (.inl e)))⟩, Nat.zero_le _⟩
theorem IKeep (h : IInv g r q s w) (hb : w.heap[b]? = some (.cells cs T (0, 0))) (hc : cs[i]? = some v) (ho : ¬ IOwn g r q w.heap b) :
  ∀ w' : World, Only (· = r) w w' → w'.cell? ⟨b, i, none⟩ = some v ∧ w'.frozen? ⟨b, i, none⟩ = false ∧ w'.cell? ⟨g, 1, none⟩ = some (.bool s.2.2) ∧ w'.frozen? ⟨g, 1, none⟩ = false := fun w' hO => by
 have h1 := hO.blk hb (fun e => ho (.inr (.inl e)))
 have h2 := hO.blk h.blk h.ner
 exact ⟨(blk_cell h1 i).trans hc, blk_frozen h1 i, (blk_cell h2 1).trans rfl, blk_frozen h2 1⟩
theorem iflag_c (g r q b i : Nat) (s : ISt) (w : World) (cs : Array Value) (T : TypeId) (x : Bool) (hI : IInv g r q s w) (ho : ¬ IOwn g r q w.heap b) (hb : w.heap[b]? = some (.cells cs T (0, 0))) (hc : cs[i]? = some (.bool x)) :
  Calls Try.prog 108 #[.pointer (some ⟨g, 0, none⟩), .pointer (some ⟨b, i, none⟩)] w (Did (iForm g r q) s (iflag s) [(⟨b, i, none⟩, .bool (rflag s.1 s.2.1).1)] 8 w) := by
 have C := aK (rFlag_c r q s.1 s.2.1 w hI.rd hI.bytes)
 have HK := aK (IKeep hI hb hc ho)
 have HS := aK (fun (w' : World) (bs : List Int) (bad : Bool) (hR : RdAt w' r q bs bad) (hB : ∀ x ∈ bs, IsB x) (hO : Only (· = r) w w') (u : Value) => IStep (i := i) hI hb ho hR hB hO u)
 have HM := aK (rflag_mem (bad := s.2.1) hI.bytes)
 have cg : w.cell? ⟨g, 0, none⟩ = some (.pointer (some ⟨r, 0, none⟩)) := (blk_cell hI.blk 0).trans rfl
 have e : iflag s = ((rflag s.1 s.2.1).2.1, (rflag s.1 s.2.1).2.2, s.2.2) := rfl
 rw [e]
 clear e
 generalize rflag s.1 s.2.1 = R at *
 clear hI hb hc ho
 go_enter Try.func108, Try.ntmps108
 go_wp2_with (go_at_call 106; (with_reducible refine C.out.mono ?_); rintro e w' ⟨rfl, hR, hO⟩; obtain ⟨k1, k2, k3, k4⟩ := HK.out w' hO; have HR := aK hR; have HO := aK hO; clear hR hO)
 go_end0
 exact ⟨rfl, HS.out _ _ _ HR.out HM.out HO.out _⟩
theorem itext_c (g r q b i : Nat) (s : ISt) (w : World) (cs : Array Value) (T : TypeId) (x : ByteArray) (most : Int) (hI : IInv g r q s w) (ho : ¬ IOwn g r q w.heap b) (hb : w.heap[b]? = some (.cells cs T (0, 0))) (hc : cs[i]? = some (.string x)) :
  Calls Try.prog 109 #[.pointer (some ⟨g, 0, none⟩), .pointer (some ⟨b, i, none⟩), .int .i64 most] w (Did (iForm g r q) s (itext s most) [(⟨b, i, none⟩, .string (strOfNums (rtext most s.1 s.2.1).1))] 8 w) := by
 have C := aK (rText_c most r q s.1 s.2.1 w hI.rd hI.bytes)
 have HK := aK (IKeep hI hb hc ho)
 have HS := aK (fun (w' : World) (bs : List Int) (bad : Bool) (hR : RdAt w' r q bs bad) (hB : ∀ x ∈ bs, IsB x) (hO : Only (· = r) w w') (u : Value) => IStep (i := i) hI hb ho hR hB hO u)
 have HM := aK (rtext_mem (most := most) (bad := s.2.1) hI.bytes)
 have cg : w.cell? ⟨g, 0, none⟩ = some (.pointer (some ⟨r, 0, none⟩)) := (blk_cell hI.blk 0).trans rfl
 have e : itext s most = ((rtext most s.1 s.2.1).2.1, (rtext most s.1 s.2.1).2.2, s.2.2) := rfl
 rw [e]
 clear e
 generalize rtext most s.1 s.2.1 = R at *
 clear hI hb hc ho
 go_enter Try.func109, Try.ntmps109
 go_wp2_with (go_at_call 111; (with_reducible refine C.out.mono ?_); rintro e w' ⟨rfl, hR, hO⟩; obtain ⟨k1, k2, k3, k4⟩ := HK.out w' hO; have HR := aK hR; have HO := aK hO; clear hR hO)
 go_end0
 exact ⟨rfl, HS.out _ _ _ HR.out HM.out HO.out _⟩
theorem icount_c (g r q : Nat) (s : ISt) (w : World) (n most : Int) (hI : IInv g r q s w) :
  Calls Try.prog 107 #[.pointer (some ⟨g, 0, none⟩), .int .i64 n, .int .i64 most] w (fun e w' => e = .returned (.int .i64 (rcount most s.1 s.2.1).1) ∧ Stepped (iForm g r q) s (icount s most) [] 8 w w') := by
 have C := aK (rCount_c most r q s.1 s.2.1 w hI.rd hI.bytes)
 have HS := aK (fun (w' : World) (bs : List Int) (bad : Bool) (hR : RdAt w' r q bs bad) (hB : ∀ x ∈ bs, IsB x) (hO : Only (· = r) w w') => IStep0 hI hR hB hO)
 have HM := aK (rcount_mem (most := most) (bad := s.2.1) hI.bytes)
 have cg : w.cell? ⟨g, 0, none⟩ = some (.pointer (some ⟨r, 0, none⟩)) := (blk_cell hI.blk 0).trans rfl
 have e : icount s most = ((rcount most s.1 s.2.1).2.1, (rcount most s.1 s.2.1).2.2, s.2.2) := rfl
 rw [e]
 clear e
 generalize rcount most s.1 s.2.1 = R at *
 clear hI
 go_enter Try.func107, Try.ntmps107
 go_wp2_with (go_at_call 110; (with_reducible refine C.out.mono ?_); rintro e w' ⟨rfl, hR, hO⟩; have HR := aK hR; have HO := aK hO; clear hR hO)
 go_ret
 exact ⟨rfl, HS.out _ _ _ HR.out HM.out HO.out⟩
theorem inum_c (g r q b i : Nat) (s : ISt) (w : World) (cs : Array Value) (T : TypeId) (n lo hi : Int) (hI : IInv g r q s w) (ho : ¬ IOwn g r q w.heap b) (hb : w.heap[b]? = some (.cells cs T (0, 0))) (hc : cs[i]? = some (.int .i64 n)) :
  Calls Try.prog 59 #[.pointer (some ⟨g, 0, none⟩), .pointer (some ⟨b, i, none⟩), .int .i64 lo, .int .i64 hi] w (Did (iForm g r q) s (inum s lo hi) [(⟨b, i, none⟩, .int .i64 (rnum s.1 s.2.1).1)] 8 w) := by
 have C := aK (rNum_c r q s.1 s.2.1 w hI.rd hI.bytes)
 have HK := aK (IKeep hI hb hc ho)
 have HS := aK (fun (w' : World) (bs : List Int) (bad : Bool) (hR : RdAt w' r q bs bad) (hB : ∀ x ∈ bs, IsB x) (hO : Only (· = r) w w') (u : Value) (o : Bool) => IStep2 (i := i) hI hb ho hR hB hO u o)
 have HM := aK (rnum_mem (bad := s.2.1) hI.bytes)
 have cg : w.cell? ⟨g, 0, none⟩ = some (.pointer (some ⟨r, 0, none⟩)) := (blk_cell hI.blk 0).trans rfl
 have hbg : b ≠ g := fun e => ho (.inl e)
 have e : inum s lo hi = ((rnum s.1 s.2.1).2.1, (rnum s.1 s.2.1).2.2, s.2.2 || decide ((rnum s.1 s.2.1).1 < lo) || decide (hi < (rnum s.1 s.2.1).1)) := rfl
 rw [e]
 clear e
 generalize rnum s.1 s.2.1 = R at *
 clear hI hb hc ho
 obtain ⟨bs, bad, o⟩ := s
 dsimp only at *
 obtain ⟨n', R2⟩ := R
 dsimp only at *
 obtain ⟨o', ho'⟩ : ∃ o', (o || decide (n' < lo) || decide (hi < n')) = o' := ⟨_, rfl⟩
 rw [ho']
 cases o
 ·by_cases h1 : n' < lo
  ·skip
   obtain rfl : o' = true := by rw [← ho']; simp [h1]
   clear ho'
   go_enter Try.func59, Try.ntmps59
   go_wp2_with (go_at_call 75; (with_reducible refine C.out.mono ?_); rintro e w' ⟨rfl, hR, hO⟩; obtain ⟨k1, k2, k3, k4⟩ := HK.out w' hO; have k5 := k3; have HR := aK hR; have HO := aK hO; clear hR hO)
   go_end0
   exact ⟨rfl, HS.out _ _ _ HR.out HM.out HO.out _ _⟩
  ·by_cases h2 : hi < n'
   ·skip
    obtain rfl : o' = true := by rw [← ho']; simp [h2]
    clear ho'
    go_enter Try.func59, Try.ntmps59
    go_wp2_with (go_at_call 75; (with_reducible refine C.out.mono ?_); rintro e w' ⟨rfl, hR, hO⟩; obtain ⟨k1, k2, k3, k4⟩ := HK.out w' hO; have k5 := k3; have HR := aK hR; have HO := aK hO; clear hR hO)
    go_end0
    exact ⟨rfl, HS.out _ _ _ HR.out HM.out HO.out _ _⟩
   ·skip
    obtain rfl : o' = false := by rw [← ho']; simp [Int.not_lt.1 h1, Int.not_lt.1 h2]
    clear ho'
    have d1 : decide (n' < lo) = false := decide_eq_false h1
    have d2 : decide (hi < n') = false := decide_eq_false h2
    go_enter Try.func59, Try.ntmps59
    go_wp2_with (go_at_call 75; (with_reducible refine C.out.mono ?_); rintro e w' ⟨rfl, hR, hO⟩; obtain ⟨k1, k2, k3, k4⟩ := HK.out w' hO; have k5 := k3; have HR := aK hR; have HO := aK hO; clear hR hO)
    go_end0
    exact ⟨rfl, HS.out _ _ _ HR.out HM.out HO.out _ _⟩
 ·skip
  obtain rfl : o' = true := by rw [← ho']; simp []
  clear ho'
  go_enter Try.func59, Try.ntmps59
  go_wp2_with (go_at_call 75; (with_reducible refine C.out.mono ?_); rintro e w' ⟨rfl, hR, hO⟩; obtain ⟨k1, k2, k3, k4⟩ := HK.out w' hO; have k5 := k3; have HR := aK hR; have HO := aK hO; clear hR hO)
  go_end0
  exact ⟨rfl, HS.out _ _ _ HR.out HM.out HO.out _ _⟩
theorem rcount_lim (bs : List Int) (bad : Bool) (most : Int) (hm : 0 ≤ most) : 0 ≤ (rcount most bs bad).1 ∧ (rcount most bs bad).1 ≤ most := by
 have h0 := rnum_nonneg bs bad
 unfold rcount
 split
 ·exact ⟨Int.le_refl _, hm⟩
 ·exact ⟨h0, by omega⟩
theorem iGood (g r q : Nat) : (iForm g r q).Good where
 lt := fun {s w k} hI ho => IInv.lt hI ho
 move := fun {s w w'} hI hm _ => IInv.move hI hm
 own_move := fun {s w w'} hI hm k hk => hk
 ahead := fun n m hn hm w => by
  obtain rfl | rfl | rfl | rfl : n = 0 ∨ n = 1 ∨ n = 2 ∨ n = 3 := by omega
  all_goals subst hm; rfl
 method := fun n m hn hm w => by
  obtain rfl | rfl | rfl | rfl : n = 0 ∨ n = 1 ∨ n = 2 ∨ n = 3 := by omega
  all_goals subst hm; rfl
 enter := fun n hn args w => by
  obtain rfl | rfl | rfl | rfl : n = 0 ∨ n = 1 ∨ n = 2 ∨ n = 3 := by omega
  all_goals rfl
 num_c := fun s w b i cs T n lo hi hI ho _ hb hc => inum_c g r q b i s w cs T n lo hi hI ho hb hc
 flag_c := fun s w b i cs T x hI ho _ hb hc => iflag_c g r q b i s w cs T x hI ho hb hc
 text_c := fun s w b i cs T x most hI ho _ hb hc => (itext_c g r q b i s w cs T x most hI ho hb hc).mono fun e w' h => ⟨h.1, h.2.inv, h.2.own, h.2.wrote, Nat.zero_le _⟩
 count_c := fun s w n most hI _ _ _ => icount_c g r q s w n most hI
 count_lim := fun s n most hn hm => ⟨(rcount_lim s.1 s.2.1 most hm).1, .inr (rcount_lim s.1 s.2.1 most hm).2⟩
structure Form.Tame (F : Form) (J : F.σ → Prop) (N : Nat) : Prop where
 num : ∀ {s n lo hi}, J s → J (F.num s n lo hi).1
 flag : ∀ {s x}, J s → J (F.flag s x).1
 text : ∀ {s x most}, J s → x.size ≤ N → J (F.text s x most).1 ∧ (F.text s x most).2.size ≤ N
 count : ∀ {s n most}, J s → J (F.count s n most).1
def Lite (N : Nat) (v : Value) : Prop := ∀ x, v = .string x → x.size ≤ N
def Lites (N : Nat) (vs : List Value) : Prop := ∀ v, v ∈ vs → Lite N v
def LiteM (N : Nat) (m : M) : Prop := (∀ i, Lite N (m.c i)) ∧ ∀ j r, r ∈ m.L j → Lites N r
theorem Lite.cost {N : Nat} {v : Value} (h : Lite N v) : costV v ≤ 8 + N := by
 unfold costV
 split
 ·have := h _ rfl; omega
 ·omega
theorem Lites.cost {N : Nat} : ∀ {vs : List Value}, Lites N vs → cost vs ≤ vs.length * (8 + N)
 | [], _ => by simp [Wr.cost]
 | v :: vs, h => by
  have h1 := (h v (.head _)).cost
  have h2 := Lites.cost (vs := vs) (fun u hu => h u (.tail _ hu))
  simp only [Wr.cost, List.length_cons, Nat.add_mul]
  omega
variable {F : Form} {J : F.σ → Prop} {N : Nat}
theorem Form.Tame.fld (hT : F.Tame J N) {s : F.σ} {f : Fld} {v : Value} (hs : J s) (hv : Lite N v) : J (F.fld s f v).1 ∧ Lite N (F.fld s f v).2 := by
 unfold Form.fld
 split
 ·exact ⟨hT.num hs, fun x hx => by simp at hx⟩
 ·exact ⟨hT.flag hs, fun x hx => by simp at hx⟩
 ·refine ⟨(hT.text hs (hv _ rfl)).1, fun x hx => ?_⟩
  injection hx with hx
  exact hx ▸ (hT.text hs (hv _ rfl)).2
 ·exact ⟨hs, hv⟩
theorem Form.Tame.row (hT : F.Tame J N) : ∀ {fs : List Fld} {vs : List Value} {s : F.σ}, J s → Lites N vs → J (F.row s fs vs).1 ∧ Lites N (F.row s fs vs).2
 | [], vs, s, hs, hv => by cases vs <;> exact ⟨hs, hv⟩
 | f :: fs, [], s, hs, hv => ⟨hs, hv⟩
 | f :: fs, v :: vs, s, hs, hv => by
  have h1 := hT.fld (f := f) hs (hv v (.head _))
  have h2 := hT.row (fs := fs) (vs := vs) h1.1 (fun u hu => hv u (.tail _ hu))
  refine ⟨h2.1, fun u hu => ?_⟩
  simp only [Form.row] at hu
  rcases List.mem_cons.1 hu with rfl | hu
  ·exact h1.2
  ·exact h2.2 u hu
theorem Form.Tame.rows (hT : F.Tame J N) {fs : List Fld} : ∀ {rs : List (List Value)} {s : F.σ}, J s → (∀ r, r ∈ rs → Lites N r) → J (F.rows fs s rs).1 ∧ ∀ r, r ∈ (F.rows fs s rs).2 → Lites N r
 | [], s, hs, hv => ⟨hs, fun r hr => nomatch hr⟩
 | r :: rs, s, hs, hv => by
  have h1 := hT.row (fs := fs) hs (hv r (.head _))
  have h2 := hT.rows (fs := fs) (rs := rs) h1.1 (fun u hu => hv u (.tail _ hu))
  refine ⟨h2.1, fun u hu => ?_⟩
  simp only [Form.rows] at hu
  rcases List.mem_cons.1 hu with rfl | hu
  ·exact h1.2
  ·exact h2.2 u hu
theorem lites_zero (fs : List Fld) : Lites N (zeroRow fs) := fun v hv x hx => by
 obtain ⟨f, _, rfl⟩ := List.mem_map.1 hv
 cases f <;> simp [Fld.zero] at hx
 subst hx
 exact Nat.zero_le _
theorem lite_listR {fs : List Fld} {s : F.σ} {most : Nat} {rows : List (List Value)} (h : ∀ r, r ∈ rows → Lites N r) : ∀ r, r ∈ F.listR fs s most rows → Lites N r := fun r hr => by
 unfold Form.listR at hr
 split at hr
 ·rw [(List.mem_replicate.1 hr).2]; exact lites_zero fs
 ·exact h r hr
theorem Form.Tame.list (hT : F.Tame J N) {fs : List Fld} {most : Nat} {rows : List (List Value)} {s : F.σ} (hs : J s) (h : ∀ r, r ∈ rows → Lites N r) : J (F.list fs s most rows).1 ∧ ∀ r, r ∈ (F.list fs s most rows).2 → Lites N r := by
 have hR := lite_listR (F := F) (fs := fs) (s := s) (most := most) h
 have h1 := hT.rows (fs := fs) (rs := (F.listR fs s most rows).take (F.listM s most rows.length)) (hT.count (n := rows.length) (most := most) hs) (fun r hr => hR r (List.mem_of_mem_take hr))
 refine ⟨h1.1, fun r hr => ?_⟩
 unfold Form.list at hr
 rcases List.mem_append.1 hr with hr | hr
 ·exact h1.2 r hr
 ·exact hR r (List.mem_of_mem_drop hr)
theorem lites_vals {c : Nat → Value} (h : ∀ i, Lite N (c i)) : ∀ (n i : Nat), Lites N (valsAt c i n)
 | 0, i => fun v hv => nomatch hv
 | n + 1, i => fun v hv => by
  simp only [valsAt] at hv
  rcases List.mem_cons.1 hv with rfl | hv
  ·exact h i
  ·exact lites_vals h n (i + 1) v hv
theorem Form.Tame.rowM (hT : F.Tame J N) {s : F.σ} {m : M} {i : Nat} {fs : List Fld} (hs : J s) (hm : LiteM N m) : J (F.rowM s m i fs).1 ∧ LiteM N (F.rowM s m i fs).2 := by
 have h1 := hT.row (fs := fs) hs (lites_vals hm.1 fs.length i)
 refine ⟨h1.1, fun k => ?_, hm.2⟩
 simp only [Form.rowM, putAt]
 split
 ·cases hv : (F.row s fs (valsAt m.c i fs.length)).2[k - i]? with
  | none => exact hm.1 k
  | some v => exact h1.2 v (List.mem_of_getElem? hv)
 ·exact hm.1 k
theorem Form.Tame.step (hT : F.Tame J N) {s : F.σ} {m : M} {t : Step} (hs : J s) (hm : LiteM N m) : J (F.step s m t).1 ∧ LiteM N (F.step s m t).2 := by
 cases t with
 | row i fs => exact hT.rowM hs hm
 | most => exact hT.rowM hs hm
 | lst j fs n =>
  have h1 := hT.list (fs := fs) (most := n) hs (hm.2 j)
  refine ⟨h1.1, hm.1, fun k r hr => ?_⟩
  simp only [Form.step, Form.lstM, upL] at hr
  split at hr
  ·exact h1.2 r hr
  ·exact hm.2 k r hr
def Step.few : Step → Bool
 | .row _ fs => decide (fs.length ≤ 8)
 | .most => true
 | .lst _ fs n => decide (fs.length ≤ 8) && decide (n ≤ 64)
theorem rowsCost_le : ∀ {rs : List (List Value)} {b : Nat}, (∀ r, r ∈ rs → cost r ≤ b) → rowsCost rs ≤ rs.length * b
 | [], b, _ => by simp [rowsCost]
 | r :: rs, b, h => by
  have h1 := h r (.head _)
  have h2 := rowsCost_le (rs := rs) (b := b) (fun q hq => h q (.tail _ hq))
  simp only [rowsCost, List.length_cons, Nat.add_mul]
  omega
def most1 (N : Nat) : Nat := 8 + 512 * (8 + N)
theorem stepCost_le {s : F.σ} {m : M} {t : Step} (hm : LiteM N m) (ht : t.few = true) (hl : ∀ j r, r ∈ m.L j → r.length ≤ 8) : F.stepCost s m t ≤ most1 N := by
 unfold most1
 cases t with
 | row i fs =>
  simp only [Step.few, decide_eq_true_eq] at ht
  have h1 := (lites_vals hm.1 fs.length i).cost
  rw [valsAt_length] at h1
  have := Nat.mul_le_mul_right (8 + N) ht
  simp only [Form.stepCost]
  omega
 | most => simp only [Form.stepCost]; omega
 | lst j fs n =>
  simp only [Step.few, Bool.and_eq_true, decide_eq_true_eq] at ht
  simp only [Form.stepCost, Form.lstCost]
  have hR := lite_listR (F := F) (fs := fs) (s := s) (most := n) (hm.2 j)
  have h1 : rowsCost ((F.listR fs s n (m.L j)).take (F.listM s n (m.L j).length)) ≤ ((F.listR fs s n (m.L j)).take (F.listM s n (m.L j).length)).length * (8 * (8 + N)) := by
   refine rowsCost_le fun r hr => ?_
   have hr' := List.mem_of_mem_take hr
   refine Nat.le_trans (hR r hr').cost (Nat.mul_le_mul_right _ ?_)
   unfold Form.listR at hr'
   split at hr'
   ·rw [(List.mem_replicate.1 hr').2]; simpa [zeroRow] using ht.1
   ·exact hl j r hr'
  have h2 : ((F.listR fs s n (m.L j)).take (F.listM s n (m.L j).length)).length ≤ 64 := by
   rw [List.length_take]; unfold Form.listM; omega
  have h3 := Nat.mul_le_mul_right (8 * (8 + N)) h2
  omega
def Wide (m : M) : Prop := ∀ j r, r ∈ m.L j → r.length ≤ 8
theorem Wide.step {s : F.σ} {m : M} {t : Step} (hm : Wide m) (ht : t.few = true) : Wide (F.step s m t).2 := by
 cases t with
 | row i fs => exact hm
 | most => exact hm
 | lst j fs n =>
  simp only [Step.few, Bool.and_eq_true, decide_eq_true_eq] at ht
  intro k r hr
  simp only [Form.step, Form.lstM, upL] at hr
  split at hr
  ·have hR : ∀ r, r ∈ F.listR fs s n (m.L j) → r.length ≤ 8 := fun r hr' => by
    unfold Form.listR at hr'
    split at hr'
    ·rw [(List.mem_replicate.1 hr').2]; simpa [zeroRow] using ht.1
    ·exact hm j r hr'
   have key : ∀ (rs : List (List Value)) (s : F.σ), (∀ r, r ∈ rs → r.length ≤ 8) → ∀ r, r ∈ (F.rows fs s rs).2 → r.length ≤ 8 := by
    intro rs
    induction rs with
    | nil => intro s _ r hr; nomatch hr
    | cons q rs ih =>
     intro s h r hr
     simp only [Form.rows] at hr
     rcases List.mem_cons.1 hr with rfl | hr
     ·rw [row_length]; exact h q (.head _)
     ·exact ih _ (fun r hr => h r (.tail _ hr)) r hr
   unfold Form.list at hr
   rcases List.mem_append.1 hr with hr | hr
   ·exact key _ _ (fun r hr => hR r (List.mem_of_mem_take hr)) r hr
   ·exact hR r (List.mem_of_mem_drop hr)
  ·exact hm k r hr
theorem runCost_le (hT : F.Tame J N) : ∀ {ts : List Step} {s : F.σ} {m : M}, J s → LiteM N m → Wide m → ts.all Step.few = true → F.runCost s m ts ≤ ts.length * most1 N
 | [], s, m, _, _, _, _ => by simp [Form.runCost]
 | t :: ts, s, m, hs, hm, hw, h => by
  simp only [List.all_cons, Bool.and_eq_true] at h
  have h1 := stepCost_le (F := F) (s := s) hm h.1 hw
  have h2 := hT.step (t := t) hs hm
  have h3 := runCost_le hT (ts := ts) h2.1 h2.2 (hw.step h.1) h.2
  simp only [Form.runCost, List.length_cons, Nat.add_mul]
  omega
theorem runLite (hT : F.Tame J N) : ∀ {ts : List Step} {s : F.σ} {m : M}, J s → LiteM N m → J (F.run s m ts).1 ∧ LiteM N (F.run s m ts).2
 | [], s, m, hs, hm => ⟨hs, hm⟩
 | t :: ts, s, m, hs, hm => runLite hT (ts := ts) (hT.step hs hm).1 (hT.step hs hm).2
theorem oTame (g N : Nat) : (oForm g).Tame (fun _ => True) N := ⟨fun _ => trivial, fun _ => trivial, fun _ h => ⟨trivial, h⟩, fun _ => trivial⟩
theorem rnum_le (bs : List Int) (bad : Bool) : (rnum bs bad).2.1.length ≤ bs.length := by
 obtain ⟨m, e⟩ := rnum_suffix bs bad
 rw [e, List.length_drop]; omega
theorem strOf_size (xs : List Int) : (strOfNums xs).size = xs.length := strOfNums_size xs
theorem iTame (g r q N : Nat) : (iForm g r q).Tame (fun s => s.1.length ≤ N) N := by
 refine ⟨fun {s n lo hi} h => Nat.le_trans (rnum_le _ _) h, fun {s x} h => ?_, fun {s x most} h _ => ?_, fun {s n most} h => ?_⟩
 ·refine Nat.le_trans ?_ h
  show (rflag s.1 s.2.1).2.1.length ≤ _
  unfold rflag
  split
  ·exact Nat.le_refl _
  ·split
   ·exact Nat.zero_le _
   ·rename_i c t e
    rw [e]; split <;> simp
 ·have h1 := rnum_le s.1 s.2.1
  constructor
  ·refine Nat.le_trans ?_ h
   show (rtext most s.1 s.2.1).2.1.length ≤ _
   unfold rtext
   split
   ·exact h1
   ·simp only [List.length_drop]; omega
  ·show (strOfNums (rtext most s.1 s.2.1).1).size ≤ N
   rw [strOf_size]
   unfold rtext
   split
   ·exact Nat.zero_le _
   ·simp only [List.length_take]; omega
 ·refine Nat.le_trans ?_ h
  show (rcount most s.1 s.2.1).2.1.length ≤ _
  unfold rcount
  split <;> exact rnum_le _ _
theorem oFld (g : Nat) (s : (oForm g).σ) (f : Fld) (v : Value) : ((oForm g).fld s f v).2 = v := by
 cases f <;> cases v <;> first | rfl | (rename_i k x; cases k <;> rfl)
theorem oRow (g : Nat) : ∀ (fs : List Fld) (vs : List Value) (s : (oForm g).σ), ((oForm g).row s fs vs).2 = vs
 | [], vs, s => by cases vs <;> rfl
 | f :: fs, [], s => rfl
 | f :: fs, v :: vs, s => by
  simp only [Form.row]
  rw [oFld, oRow g fs vs]
theorem oRows (g : Nat) (fs : List Fld) : ∀ (rs : List (List Value)) (s : (oForm g).σ), ((oForm g).rows fs s rs).2 = rs
 | [], s => rfl
 | r :: rs, s => by
  simp only [Form.rows]
  rw [oRow, oRows g fs rs]
theorem oListR (g : Nat) (fs : List Fld) (s : (oForm g).σ) (most : Nat) (rows : List (List Value)) : (oForm g).listR fs s most rows = rows := by
 unfold Form.listR
 rw [if_neg]
 show ¬ rows.length < (rows.length : Int).toNat
 omega
theorem oList (g : Nat) (fs : List Fld) (s : (oForm g).σ) (most : Nat) (rows : List (List Value)) : ((oForm g).list fs s most rows).2 = rows := by
 unfold Form.list
 simp only [oListR, oRows, List.take_append_drop]
theorem putAt_vals (c : Nat → Value) (i : Nat) : ∀ n, putAt c i (valsAt c i n) = c := fun n => by
 funext k
 unfold putAt
 split
 ·cases hv : (valsAt c i n)[k - i]? with
  | none => rfl
  | some v =>
   rw [Option.getD_some, valsAt_get c n i (k - i) v hv, show i + (k - i) = k by omega]
 ·rfl
theorem upL_self (L : Nat → List (List Value)) (j : Nat) : upL L j (L j) = L := by
 funext k
 unfold upL
 split
 ·rename_i e; rw [e]
 ·rfl
theorem oRowM (g : Nat) (s : (oForm g).σ) (m : M) (i : Nat) (fs : List Fld) : ((oForm g).rowM s m i fs).2 = m := by
 unfold Form.rowM
 simp only [oRow, putAt_vals]
theorem oStep (g : Nat) (s : (oForm g).σ) (m : M) (t : Step) : ((oForm g).step s m t).2 = m := by
 cases t with
 | row i fs => exact oRowM g s m i fs
 | most => exact oRowM g s m 7 _
 | lst j fs n =>
  simp only [Form.step, Form.lstM, oList, upL_self]
theorem oRun_m (g : Nat) : ∀ (ts : List Step) (s : (oForm g).σ) (m : M), ((oForm g).run s m ts).2 = m
 | [], s, m => rfl
 | t :: ts, s, m => by
  simp only [Form.run]
  rw [oRun_m g ts, oStep]
theorem oRow_g (g h : Nat) : ∀ (fs : List Fld) (vs : List Value) (s : OSt), ((oForm g).row s fs vs).1 = ((oForm h).row s fs vs).1
 | [], vs, s => by cases vs <;> rfl
 | f :: fs, [], s => rfl
 | f :: fs, v :: vs, s => oRow_g g h fs vs ((oForm g).fld s f v).1
theorem oRows_g (g h : Nat) (fs : List Fld) : ∀ (rs : List (List Value)) (s : OSt), ((oForm g).rows fs s rs).1 = ((oForm h).rows fs s rs).1
 | [], s => rfl
 | r :: rs, s => (oRows_g g h fs rs ((oForm g).row s fs r).1).trans (congrArg (fun s' : OSt => ((oForm h).rows fs s' rs).1) (oRow_g g h fs r s))
theorem oList_g (g h : Nat) (fs : List Fld) (s : OSt) (most : Nat) (rows : List (List Value)) : ((oForm g).list fs s most rows).1 = ((oForm h).list fs s most rows).1 := oRows_g g h fs _ _
theorem oStep_g (g h : Nat) (s : OSt) (m : M) (t : Step) : ((oForm g).step s m t).1 = ((oForm h).step s m t).1 := by
 cases t with
 | row i fs => exact oRow_g g h fs _ s
 | most => exact oRow_g g h _ _ s
 | lst j fs n => exact oList_g g h fs s n _
theorem oRun_g (g h : Nat) : ∀ (ts : List Step) (s : OSt) (m : M), ((oForm g).run s m ts).1 = ((oForm h).run s m ts).1
 | [], s, m => rfl
 | t :: ts, s, m => by
  have e1 := oStep g s m t
  have e2 := oStep h s m t
  have e3 := oStep_g g h s m t
  show ((oForm g).run ((oForm g).step s m t).1 ((oForm g).step s m t).2 ts).1 = ((oForm h).run ((oForm h).step s m t).1 ((oForm h).step s m t).2 ts).1
  rw [e1, e2]
  exact (oRun_g g h ts _ m).trans (congrArg (fun s' : OSt => ((oForm h).run s' m ts).1) e3)
def msgC (c sv : Nat → Value) : Array Value := #[c 0, c 1, c 2, sv 3, c 4, c 5, c 6, c 7, sv 8, sv 9, sv 10, c 11, c 12, c 13, c 14, c 15, c 16, c 17, c 18, c 19, c 20, c 21, c 22, c 23, c 24, c 25]
def msgV (c sv : Nat → Value) : Value := .agg (msgC c sv)
def Typed (m : M) : Prop := ∀ i, scalar i = true → (kindOf i).fits (m.c i)
def Fit (m : M) : Prop := ∀ j fs, (j, fs) ∈ lists → ∀ r, r ∈ m.L j → fits fs r
structure MsgRd (w : World) (v : Value) (m : M) (sv : Nat → Value) : Prop where
 eq : v = msgV m.c sv
 typed : Typed m
 fit : Fit m
 rd : ∀ j fs, (j, fs) ∈ lists → ListRd w (sv j) fs.length (m.L j)
theorem fitl {fs : List Fld} {j : Nat} {m : M} (h : Fit m) (hj : (j, fs) ∈ lists) : ∀ r, r ∈ m.L j → r.length = fs.length := fun r hr => fits_length (h j fs hj r hr)
theorem lists_pos {fs : List Fld} {j : Nat} (h : (j, fs) ∈ lists) : 0 < fs.length := by
 simp only [lists, List.mem_cons, Prod.mk.injEq, List.not_mem_nil, or_false] at h
 rcases h with ⟨_, rfl⟩ | ⟨_, rfl⟩ | ⟨_, rfl⟩ | ⟨_, rfl⟩ <;> simp [entryF, pairF, seenF, epochF]
theorem MsgRd.below {w w' : World} {v : Value} {m : M} {sv : Nat → Value} (h : MsgRd w v m sv) (hB : Below w.heap.size w w') : MsgRd w' v m sv :=
 ⟨h.eq, h.typed, h.fit, fun j fs hj => (h.rd j fs hj).below (lists_pos hj) (fitl h.fit hj) hB⟩
structure Small (m : M) : Prop where
 lite : LiteM 1048576 m
 few : ∀ j, (m.L j).length ≤ 1048576
 wide : Wide m
theorem Fit.wide {m : M} (h : Fit m) (hn : ∀ j, (∀ fs, (j, fs) ∉ lists) → m.L j = []) : Wide m := fun j r hr => by
 by_cases hj : ∃ fs, (j, fs) ∈ lists
 ·obtain ⟨fs, hj⟩ := hj
  rw [fitl h hj r hr]
  simp only [lists, List.mem_cons, Prod.mk.injEq, List.not_mem_nil, or_false] at hj
  rcases hj with ⟨_, rfl⟩ | ⟨_, rfl⟩ | ⟨_, rfl⟩ | ⟨_, rfl⟩ <;> simp [entryF, pairF, seenF, epochF]
 ·rw [hn j (fun fs h => hj ⟨fs, h⟩)] at hr
  nomatch hr
theorem below_only {B : Nat} {S : Nat → Prop} {a w w' : World} (h : Below B a w) (ho : Only S w w') (hB : B ≤ w.heap.size) (hs : ∀ k, S k → B ≤ k) : Below B a w' :=
 ⟨ho.os.trans h.os, ho.tape.trans h.tape, ho.output.trans h.output, Nat.le_trans h.size ho.size, fun k hk => (ho.block k (by omega) (fun s => by have := hs k s; omega)).trans (h.block k hk)⟩
theorem heap_setCells (g : Nat) : ∀ (vs : List Value) (o : Nat) (w : World) (k : Nat), k ≠ g → (w.setCells g o vs).heap[k]? = w.heap[k]?
 | [], o, w, k, _ => rfl
 | v :: vs, o, w, k, hk => (heap_setCells g vs (o + 1) _ k hk).trans (Below.heap_setCell w ⟨g, o, none⟩ v k hk)
theorem size_setCells (g : Nat) : ∀ (vs : List Value) (o : Nat) (w : World), (w.setCells g o vs).heap.size = w.heap.size
 | [], o, w => rfl
 | v :: vs, o, w => (size_setCells g vs (o + 1) _).trans (World.size_setCell _ _ _)
theorem only_setCells (g : Nat) (vs : List Value) (o : Nat) (W : World) : Only (· = g) W (W.setCells g o vs) := by
 have key : ∀ (vs : List Value) (o : Nat) (w : World), (w.setCells g o vs).os = w.os ∧ (w.setCells g o vs).tape = w.tape ∧ (w.setCells g o vs).output = w.output := by
  intro vs
  induction vs with
  | nil => intro o w; exact ⟨rfl, rfl, rfl⟩
  | cons v vs ih => intro o w; exact ih (o + 1) _
 exact ⟨(key _ _ _).1, (key _ _ _).2.1, (key _ _ _).2.2, by rw [size_setCells]; exact Nat.le_refl _, fun k _ hk => heap_setCells g vs o W k hk⟩
def overL (cs : Array Value) : Nat → List Value → Array Value
 | _, [] => cs
 | o, v :: vs => overL (cs.setIfInBounds o v) (o + 1) vs
theorem overL_get (vs : List Value) : ∀ (cs : Array Value) (o j : Nat), o + vs.length ≤ cs.size → (overL cs o vs)[j]? = if o ≤ j ∧ j < o + vs.length then vs[j - o]? else cs[j]? := by
 induction vs with
 | nil => intro cs o j _; rw [if_neg (by simp)]; rfl
 | cons v vs ih =>
  intro cs o j h
  simp only [List.length_cons] at h ⊢
  simp only [overL]
  rw [ih _ _ _ (by simp; omega)]
  by_cases h1 : o = j
  ·subst h1
   rw [if_neg (by omega), if_pos (by omega), Nat.sub_self, List.getElem?_cons_zero, Array.getElem?_setIfInBounds_self_of_lt (by omega)]
  ·by_cases h2 : o + 1 ≤ j ∧ j < o + 1 + vs.length
   ·rw [if_pos h2, if_pos (by omega), show j - o = (j - (o + 1)) + 1 by omega, List.getElem?_cons_succ]
   ·rw [if_neg h2, if_neg (by omega), Array.getElem?_setIfInBounds_ne h1]
theorem overL_all {cs : Array Value} {vs : List Value} (h : vs.length = cs.size) : overL cs 0 vs = vs.toArray := by
 apply Array.ext_getElem?
 intro j
 rw [overL_get vs cs 0 j (by omega)]
 split
 ·rw [Nat.sub_zero]; simp
 ·rw [Array.getElem?_eq_none (by omega)]; simp; omega
theorem blk_setCells {g : Nat} {T : TypeId} : ∀ (vs : List Value) (o : Nat) (w : World) (cs : Array Value), w.heap[g]? = some (.cells cs T (0, 0)) → (w.setCells g o vs).heap[g]? = some (.cells (overL cs o vs) T (0, 0))
 | [], o, w, cs, h => h
 | v :: vs, o, w, cs, h => blk_setCells vs (o + 1) _ _ (blk_set h o v)
def OneAll (cells : Array Value) : Prop := cells.toList.all (·.oneCell') = true
section
variable {P : Program} {ops : Array Oper} {rest : List Oper} {o : Oper} {a : Act} {Q : Exit → Act → World → Prop} {W : World}
theorem box_row (hgd : o.guard = none) (T : TypeId) (x : Operand) (ho : o.op = .box T x) (cells : Array Value) (hx : a.eval x = .agg cells)
  (h : ∀ g w1, g = W.heap.size → w1.heap[g]? = some (.cells cells T (0, 0)) → Below W.heap.size W w1 → wpList P ops Q rest (a.put o.dst (.pointer (some ⟨g, 0, none⟩))) w1) : wpList P ops Q (o :: rest) a W := by
 refine Kd.event_run hgd (v := .pointer (some ⟨W.heap.size, 0, none⟩)) (w1 := W.alloc (.cells cells T (0, 0))) ?_ (h _ _ rfl (blk_new W _) (below_alloc (Below.refl _ _) _))
 unfold execOp
 simp only [ho, hx]
 rfl
theorem alloc_row (hgd : o.guard = none) (T : TypeId) (ho : o.op = .alloc T) (zs : Array Value) (hz : (zeroValue T).run P W = .ok (.agg zs) W)
  (h : ∀ g w1, g = W.heap.size → w1.heap[g]? = some (.cells zs T (0, 0)) → Below W.heap.size W w1 → wpList P ops Q rest (a.put o.dst (.pointer (some ⟨g, 0, none⟩))) w1) : wpList P ops Q (o :: rest) a W := by
 refine Kd.event_run hgd (v := .pointer (some ⟨W.heap.size, 0, none⟩)) (w1 := W.alloc (.cells zs T (0, 0))) ?_ (h _ _ rfl (blk_new W _) (below_alloc (Below.refl _ _) _))
 unfold execOp
 simp only [ho, Instr.alloc, Sem.run_bind, hz, Result.andThen_ok]
 rfl
theorem load_row (hgd : o.guard = none) (T : TypeId) (x : Operand) (ho : o.op = .load T x) (g : Nat) (hx : a.eval x = .pointer (some ⟨g, 0, none⟩)) (cells : Array Value) (T' : TypeId) (hb : W.heap[g]? = some (.cells cells T' (0, 0)))
  (d : TypeDesc) (hu : P.underlying T = some d) (hd : d.isRow = true) (hi : (P.info? T).map (·.size) = some cells.size) (h : wpList P ops Q rest (a.put o.dst (.agg cells)) W) : wpList P ops Q (o :: rest) a W := by
 refine wpList_load_mid hgd T x ho g 0 hx cells.toList d (fun j v hj => ?_) hu hd (by simpa using hi) (by simpa using h)
 rw [Nat.zero_add]
 exact (blk_cell hb j).trans (by simpa using hj)
theorem store_row (hgd : o.guard = none) (T : TypeId) (x y : Operand) (ho : o.op = .store T x y) (g : Nat) (hx : a.eval x = .pointer (some ⟨g, 0, none⟩)) (cells cs : Array Value) (hy : a.eval y = .agg cells) (T' : TypeId) (hb : W.heap[g]? = some (.cells cs T' (0, 0)))
  (hs : cells.size = cs.size) (hi : (P.info? T).map (·.size) = some cells.size) (h1 : OneAll cells)
  (h : ∀ w1, w1.heap[g]? = some (.cells cells T' (0, 0)) → Only (· = g) W w1 → wpList P ops Q rest (a.put o.dst undef) w1) : wpList P ops Q (o :: rest) a W := by
 refine wpList_store_mid hgd T x y ho g 0 cells hx hy (fun j hj => ?_) hi (by unfold OneAll at h1; rw [← Array.all_toList]; exact h1) (h _ ?_ ?_)
 ·rw [Nat.zero_add]
  refine ⟨?_, blk_frozen hb j⟩
  rw [blk_cell hb j, Array.getElem?_eq_getElem (by omega)]
  rfl
 ·have := blk_setCells cells.toList 0 W cs hb
  rw [overL_all (by simpa using hs)] at this
  simpa using this
 ·have ho' : (W.setCells g 0 cells.toList).os = W.os ∧ (W.setCells g 0 cells.toList).tape = W.tape ∧ (W.setCells g 0 cells.toList).output = W.output := by
   have key : ∀ (vs : List Value) (o : Nat) (w : World), (w.setCells g o vs).os = w.os ∧ (w.setCells g o vs).tape = w.tape ∧ (w.setCells g o vs).output = w.output := by
    intro vs
    induction vs with
    | nil => intro o w; exact ⟨rfl, rfl, rfl⟩
    | cons v vs ih => intro o w; exact ih (o + 1) _
   exact key _ _ _
  exact ⟨ho'.1, ho'.2.1, ho'.2.2, by rw [size_setCells]; exact Nat.le_refl _, fun k _ hk => heap_setCells g _ 0 W k hk⟩
end
theorem fields3_c : WholeC 41 (fieldsS 3) (fun v => v = .int .i64 3) := by
 intro F hF s w b A m hAl h hK hr
 have hmf : ∀ (fn : Fn) (first cap : Array Value) (w : World), (Instr.makeFunc fn first cap).run Try.prog w = .ok (.func fn first cap) w := fun _ _ _ _ => rfl
 obtain ⟨cs0, hb0⟩ : ∃ cs0, w.heap[b]? = some (.cells cs0 35 (0, 0)) := let ⟨cs, _, h2, _⟩ := h.blk; ⟨cs, h2⟩
 have HGb := aK (show w.heap.size ≠ b from fun e => by have := blk_lt hb0; omega)
 have HGA := aK (show ¬ A w.heap.size from fun e => by have := hAl _ e; omega)
 have HGo := aK (show ¬ F.own (w.alloc (.cells #[.iface F.ty F.v] 114)).heap w.heap.size from fun e => by have := hF.lt h.inv (alloc_own hF h.inv _ _ e); omega)
 have cg0 : (w.alloc (.cells #[.iface F.ty F.v] 114)).cell? ⟨w.heap.size, 0, none⟩ = some (.iface F.ty F.v) := by rw [World.cell?_alloc_at _ _ _ _ rfl]; rfl
 have S0 := aK (Stand.start (h.alloc hF (.cells #[.iface F.ty F.v] 114)) (fieldsS 3))
 rw [hK] at S0
 have HCg := aK cg0
 have HR := aK hr
 have HG := aK hF
 have ck0 := S0.out.kind
 have HBl := aK (blk_lt hb0)
 have ck00 : w.cell? ⟨b, 0, none⟩ = some (.int .i64 3) := ((World.cell?_alloc_past _ _ _ HBl.out).symm.trans ck0)
 suffices hsuf : Calls Try.prog 41 #[.iface F.ty F.v, .pointer (some ⟨b, 0, none⟩)] w (MOn F s (w.alloc (.cells #[.iface F.ty F.v] 114)) b A (F.run s m (fieldsS 3)).1 (F.runCost s m (fieldsS 3)) (F.run s m (fieldsS 3)).2) from hsuf.mono (fun e w' H => H.unalloc hF h.inv)
 generalize (F.run s m (fieldsS 3)).1 = sF at *
 generalize (F.run s m (fieldsS 3)).2 = mF at *
 generalize F.runCost s m (fieldsS 3) = C at *
 clear h hr hF hAl hb0 cs0 hK
 have S0 := aK (show Stand F s (w.alloc (.cells #[.iface F.ty F.v] 114)) b A (.int .i64 3) C sF mF (partS ++ []) (w.alloc (.cells #[.iface F.ty F.v] 114)) from S0.out)
 go_enter Try.func41, Try.ntmps41
 have C0 := aK (Stand.whole' part_c S0.out HG.out HR.out trivial rfl)
 go_wp2_with (go_at_call 67; (with_reducible refine C0.out.mono ?_); rintro e w1 ⟨rfl, H⟩; have cg1 := H.cell HGo.out HGb.out HGA.out HCg.out; have ck1 := H.kind; have S1 := aK H; clear H)
 go_end0
 exact S1.out.done
theorem fields4_c : WholeC 41 (fieldsS 4) (fun v => v = .int .i64 4) := by
 intro F hF s w b A m hAl h hK hr
 have hmf : ∀ (fn : Fn) (first cap : Array Value) (w : World), (Instr.makeFunc fn first cap).run Try.prog w = .ok (.func fn first cap) w := fun _ _ _ _ => rfl
 obtain ⟨cs0, hb0⟩ : ∃ cs0, w.heap[b]? = some (.cells cs0 35 (0, 0)) := let ⟨cs, _, h2, _⟩ := h.blk; ⟨cs, h2⟩
 have HGb := aK (show w.heap.size ≠ b from fun e => by have := blk_lt hb0; omega)
 have HGA := aK (show ¬ A w.heap.size from fun e => by have := hAl _ e; omega)
 have HGo := aK (show ¬ F.own (w.alloc (.cells #[.iface F.ty F.v] 114)).heap w.heap.size from fun e => by have := hF.lt h.inv (alloc_own hF h.inv _ _ e); omega)
 have cg0 : (w.alloc (.cells #[.iface F.ty F.v] 114)).cell? ⟨w.heap.size, 0, none⟩ = some (.iface F.ty F.v) := by rw [World.cell?_alloc_at _ _ _ _ rfl]; rfl
 have S0 := aK (Stand.start (h.alloc hF (.cells #[.iface F.ty F.v] 114)) (fieldsS 4))
 rw [hK] at S0
 have HCg := aK cg0
 have HR := aK hr
 have HG := aK hF
 have ck0 := S0.out.kind
 have HBl := aK (blk_lt hb0)
 have ck00 : w.cell? ⟨b, 0, none⟩ = some (.int .i64 4) := ((World.cell?_alloc_past _ _ _ HBl.out).symm.trans ck0)
 suffices hsuf : Calls Try.prog 41 #[.iface F.ty F.v, .pointer (some ⟨b, 0, none⟩)] w (MOn F s (w.alloc (.cells #[.iface F.ty F.v] 114)) b A (F.run s m (fieldsS 4)).1 (F.runCost s m (fieldsS 4)) (F.run s m (fieldsS 4)).2) from hsuf.mono (fun e w' H => H.unalloc hF h.inv)
 generalize (F.run s m (fieldsS 4)).1 = sF at *
 generalize (F.run s m (fieldsS 4)).2 = mF at *
 generalize F.runCost s m (fieldsS 4) = C at *
 clear h hr hF hAl hb0 cs0 hK
 have S0 := aK (show Stand F s (w.alloc (.cells #[.iface F.ty F.v] 114)) b A (.int .i64 4) C sF mF [.lst 10 epochF 64] (w.alloc (.cells #[.iface F.ty F.v] 114)) from S0.out)
 go_enter Try.func41, Try.ntmps41
 have C0 := aK (S0.out.lst HG.out HR.out listT_c (by omega) (by simp [lists]) HGo.out HGb.out HGA.out HCg.out)
 go_wp2
 go_region_held3 (fun W => W.cell? ⟨w.heap.size, 0, none⟩ = some (.iface F.ty F.v)) (go_keep) (((with_reducible refine C0.out.mono ?_); rintro e w1 ⟨rfl, H⟩; have cg1 := H.cell HGo.out HGb.out HGA.out HCg.out; have ck1 := H.kind; have S1 := aK H; clear H))
 go_wp2
 go_end0
 exact S1.out.done
theorem fields5_c : WholeC 41 (fieldsS 5) (fun v => v = .int .i64 5) := by
 intro F hF s w b A m hAl h hK hr
 have hmf : ∀ (fn : Fn) (first cap : Array Value) (w : World), (Instr.makeFunc fn first cap).run Try.prog w = .ok (.func fn first cap) w := fun _ _ _ _ => rfl
 have HA1 := hF.ahead 1 "meridian/wire.flag" (by decide) rfl
 have HM1 := hF.method 1 "meridian/wire.flag" (by decide) rfl
 have HE1 := hF.enter 1 (by decide)
 obtain ⟨cs0, hb0⟩ : ∃ cs0, w.heap[b]? = some (.cells cs0 35 (0, 0)) := let ⟨cs, _, h2, _⟩ := h.blk; ⟨cs, h2⟩
 have HGb := aK (show w.heap.size ≠ b from fun e => by have := blk_lt hb0; omega)
 have HGA := aK (show ¬ A w.heap.size from fun e => by have := hAl _ e; omega)
 have HGo := aK (show ¬ F.own (w.alloc (.cells #[.iface F.ty F.v] 114)).heap w.heap.size from fun e => by have := hF.lt h.inv (alloc_own hF h.inv _ _ e); omega)
 have cg0 : (w.alloc (.cells #[.iface F.ty F.v] 114)).cell? ⟨w.heap.size, 0, none⟩ = some (.iface F.ty F.v) := by rw [World.cell?_alloc_at _ _ _ _ rfl]; rfl
 have S0 := aK (Stand.start (h.alloc hF (.cells #[.iface F.ty F.v] 114)) (fieldsS 5))
 rw [hK] at S0
 have HCg := aK cg0
 have HR := aK hr
 have HG := aK hF
 have ck0 := S0.out.kind
 have HBl := aK (blk_lt hb0)
 have ck00 : w.cell? ⟨b, 0, none⟩ = some (.int .i64 5) := ((World.cell?_alloc_past _ _ _ HBl.out).symm.trans ck0)
 suffices hsuf : Calls Try.prog 41 #[.iface F.ty F.v, .pointer (some ⟨b, 0, none⟩)] w (MOn F s (w.alloc (.cells #[.iface F.ty F.v] 114)) b A (F.run s m (fieldsS 5)).1 (F.runCost s m (fieldsS 5)) (F.run s m (fieldsS 5)).2) from hsuf.mono (fun e w' H => H.unalloc hF h.inv)
 generalize (F.run s m (fieldsS 5)).1 = sF at *
 generalize (F.run s m (fieldsS 5)).2 = mF at *
 generalize F.runCost s m (fieldsS 5) = C at *
 clear h hr hF hAl hb0 cs0 hK
 have S0 := aK (show Stand F s (w.alloc (.cells #[.iface F.ty F.v] 114)) b A (.int .i64 5) C sF mF [.row 11 posF, .row 13 [.flag]] (w.alloc (.cells #[.iface F.ty F.v] 114)) from S0.out)
 go_enter Try.func41, Try.ntmps41
 have C0 := aK (S0.out.rowC HG.out HR.out pos_c rfl (by omega))
 go_wp2
 go_region_held3 (fun W => W.cell? ⟨w.heap.size, 0, none⟩ = some (.iface F.ty F.v)) (go_keep) (((with_reducible refine C0.out.mono ?_); rintro e w1 ⟨rfl, H⟩; have cg1 := H.cell HGo.out HGb.out HGA.out HCg.out; have ck1 := H.kind; have S1 := aK H; clear H))
 have C1 := aK (S1.out.flag HG.out HR.out rfl (by omega))
 go_wp2
 go_region_held3 (fun W => W.cell? ⟨w.heap.size, 0, none⟩ = some (.iface F.ty F.v)) (go_keep) (((with_reducible refine C1.out.mono ?_); rintro e w2 ⟨rfl, H⟩; have cg2 := H.cell HGo.out HGb.out HGA.out HCg.out; have ck2 := H.kind; have S2 := aK H; clear H))
 go_wp2
 go_end0
 exact S2.out.done
theorem fields7_c : WholeC 41 (fieldsS 7) (fun v => v = .int .i64 7) := by
 intro F hF s w b A m hAl h hK hr
 have hmf : ∀ (fn : Fn) (first cap : Array Value) (w : World), (Instr.makeFunc fn first cap).run Try.prog w = .ok (.func fn first cap) w := fun _ _ _ _ => rfl
 have HA2 := hF.ahead 2 "meridian/wire.text" (by decide) rfl
 have HM2 := hF.method 2 "meridian/wire.text" (by decide) rfl
 have HE2 := hF.enter 2 (by decide)
 obtain ⟨cs0, hb0⟩ : ∃ cs0, w.heap[b]? = some (.cells cs0 35 (0, 0)) := let ⟨cs, _, h2, _⟩ := h.blk; ⟨cs, h2⟩
 have HGb := aK (show w.heap.size ≠ b from fun e => by have := blk_lt hb0; omega)
 have HGA := aK (show ¬ A w.heap.size from fun e => by have := hAl _ e; omega)
 have HGo := aK (show ¬ F.own (w.alloc (.cells #[.iface F.ty F.v] 114)).heap w.heap.size from fun e => by have := hF.lt h.inv (alloc_own hF h.inv _ _ e); omega)
 have cg0 : (w.alloc (.cells #[.iface F.ty F.v] 114)).cell? ⟨w.heap.size, 0, none⟩ = some (.iface F.ty F.v) := by rw [World.cell?_alloc_at _ _ _ _ rfl]; rfl
 have S0 := aK (Stand.start (h.alloc hF (.cells #[.iface F.ty F.v] 114)) (fieldsS 7))
 rw [hK] at S0
 have HCg := aK cg0
 have HR := aK hr
 have HG := aK hF
 have ck0 := S0.out.kind
 have HBl := aK (blk_lt hb0)
 have ck00 : w.cell? ⟨b, 0, none⟩ = some (.int .i64 7) := ((World.cell?_alloc_past _ _ _ HBl.out).symm.trans ck0)
 suffices hsuf : Calls Try.prog 41 #[.iface F.ty F.v, .pointer (some ⟨b, 0, none⟩)] w (MOn F s (w.alloc (.cells #[.iface F.ty F.v] 114)) b A (F.run s m (fieldsS 7)).1 (F.runCost s m (fieldsS 7)) (F.run s m (fieldsS 7)).2) from hsuf.mono (fun e w' H => H.unalloc hF h.inv)
 generalize (F.run s m (fieldsS 7)).1 = sF at *
 generalize (F.run s m (fieldsS 7)).2 = mF at *
 generalize F.runCost s m (fieldsS 7) = C at *
 clear h hr hF hAl hb0 cs0 hK
 have S0 := aK (show Stand F s (w.alloc (.cells #[.iface F.ty F.v] 114)) b A (.int .i64 7) C sF mF (whoS ++ [.row 16 [.text 64], .row 19 posF]) (w.alloc (.cells #[.iface F.ty F.v] 114)) from S0.out)
 go_enter Try.func41, Try.ntmps41
 have C0 := aK (Stand.whole' who_c S0.out HG.out HR.out trivial rfl)
 go_wp2_with (go_at_call 70; (with_reducible refine C0.out.mono ?_); rintro e w1 ⟨rfl, H⟩; have cg1 := H.cell HGo.out HGb.out HGA.out HCg.out; have ck1 := H.kind; have S1 := aK H; clear H)
 have C1 := aK (S1.out.text HG.out HR.out rfl (by omega))
 go_region_held3 (fun W => W.cell? ⟨w.heap.size, 0, none⟩ = some (.iface F.ty F.v)) (go_keep) (((with_reducible refine C1.out.mono ?_); rintro e w2 ⟨rfl, H⟩; have cg2 := H.cell HGo.out HGb.out HGA.out HCg.out; have ck2 := H.kind; have S2 := aK H; clear H))
 have C2 := aK (S2.out.rowC HG.out HR.out pos_c rfl (by omega))
 go_wp2
 go_region_held3 (fun W => W.cell? ⟨w.heap.size, 0, none⟩ = some (.iface F.ty F.v)) (go_keep) (((with_reducible refine C2.out.mono ?_); rintro e w3 ⟨rfl, H⟩; have cg3 := H.cell HGo.out HGb.out HGA.out HCg.out; have ck3 := H.kind; have S3 := aK H; clear H))
 go_wp2
 go_end0
 exact S3.out.done
theorem fields8_c : WholeC 41 (fieldsS 8) (fun v => v = .int .i64 8) := by
 intro F hF s w b A m hAl h hK hr
 have hmf : ∀ (fn : Fn) (first cap : Array Value) (w : World), (Instr.makeFunc fn first cap).run Try.prog w = .ok (.func fn first cap) w := fun _ _ _ _ => rfl
 have HA1 := hF.ahead 1 "meridian/wire.flag" (by decide) rfl
 have HM1 := hF.method 1 "meridian/wire.flag" (by decide) rfl
 have HE1 := hF.enter 1 (by decide)
 have HA2 := hF.ahead 2 "meridian/wire.text" (by decide) rfl
 have HM2 := hF.method 2 "meridian/wire.text" (by decide) rfl
 have HE2 := hF.enter 2 (by decide)
 obtain ⟨cs0, hb0⟩ : ∃ cs0, w.heap[b]? = some (.cells cs0 35 (0, 0)) := let ⟨cs, _, h2, _⟩ := h.blk; ⟨cs, h2⟩
 have HGb := aK (show w.heap.size ≠ b from fun e => by have := blk_lt hb0; omega)
 have HGA := aK (show ¬ A w.heap.size from fun e => by have := hAl _ e; omega)
 have HGo := aK (show ¬ F.own (w.alloc (.cells #[.iface F.ty F.v] 114)).heap w.heap.size from fun e => by have := hF.lt h.inv (alloc_own hF h.inv _ _ e); omega)
 have cg0 : (w.alloc (.cells #[.iface F.ty F.v] 114)).cell? ⟨w.heap.size, 0, none⟩ = some (.iface F.ty F.v) := by rw [World.cell?_alloc_at _ _ _ _ rfl]; rfl
 have S0 := aK (Stand.start (h.alloc hF (.cells #[.iface F.ty F.v] 114)) (fieldsS 8))
 rw [hK] at S0
 have HCg := aK cg0
 have HR := aK hr
 have HG := aK hF
 have ck0 := S0.out.kind
 have HBl := aK (blk_lt hb0)
 have ck00 : w.cell? ⟨b, 0, none⟩ = some (.int .i64 8) := ((World.cell?_alloc_past _ _ _ HBl.out).symm.trans ck0)
 suffices hsuf : Calls Try.prog 41 #[.iface F.ty F.v, .pointer (some ⟨b, 0, none⟩)] w (MOn F s (w.alloc (.cells #[.iface F.ty F.v] 114)) b A (F.run s m (fieldsS 8)).1 (F.runCost s m (fieldsS 8)) (F.run s m (fieldsS 8)).2) from hsuf.mono (fun e w' H => H.unalloc hF h.inv)
 generalize (F.run s m (fieldsS 8)).1 = sF at *
 generalize (F.run s m (fieldsS 8)).2 = mF at *
 generalize F.runCost s m (fieldsS 8) = C at *
 clear h hr hF hAl hb0 cs0 hK
 have S0 := aK (show Stand F s (w.alloc (.cells #[.iface F.ty F.v] 114)) b A (.int .i64 8) C sF mF (whoS ++ [.row 16 [.text 64], .row 17 [.flag], .row 18 [.text 1024], .row 19 posF]) (w.alloc (.cells #[.iface F.ty F.v] 114)) from S0.out)
 go_enter Try.func41, Try.ntmps41
 have C0 := aK (Stand.whole' who_c S0.out HG.out HR.out trivial rfl)
 go_wp2_with (go_at_call 70; (with_reducible refine C0.out.mono ?_); rintro e w1 ⟨rfl, H⟩; have cg1 := H.cell HGo.out HGb.out HGA.out HCg.out; have ck1 := H.kind; have S1 := aK H; clear H)
 have C1 := aK (S1.out.text HG.out HR.out rfl (by omega))
 go_region_held3 (fun W => W.cell? ⟨w.heap.size, 0, none⟩ = some (.iface F.ty F.v)) (go_keep) (((with_reducible refine C1.out.mono ?_); rintro e w2 ⟨rfl, H⟩; have cg2 := H.cell HGo.out HGb.out HGA.out HCg.out; have ck2 := H.kind; have S2 := aK H; clear H))
 have C2 := aK (S2.out.flag HG.out HR.out rfl (by omega))
 go_wp2
 go_region_held3 (fun W => W.cell? ⟨w.heap.size, 0, none⟩ = some (.iface F.ty F.v)) (go_keep) (((with_reducible refine C2.out.mono ?_); rintro e w3 ⟨rfl, H⟩; have cg3 := H.cell HGo.out HGb.out HGA.out HCg.out; have ck3 := H.kind; have S3 := aK H; clear H))
 have C3 := aK (S3.out.text HG.out HR.out rfl (by omega))
 go_wp2
 go_region_held3 (fun W => W.cell? ⟨w.heap.size, 0, none⟩ = some (.iface F.ty F.v)) (go_keep) (((with_reducible refine C3.out.mono ?_); rintro e w4 ⟨rfl, H⟩; have cg4 := H.cell HGo.out HGb.out HGA.out HCg.out; have ck4 := H.kind; have S4 := aK H; clear H))
 have C4 := aK (S4.out.rowC HG.out HR.out pos_c rfl (by omega))
 go_wp2
 go_region_held3 (fun W => W.cell? ⟨w.heap.size, 0, none⟩ = some (.iface F.ty F.v)) (go_keep) (((with_reducible refine C4.out.mono ?_); rintro e w5 ⟨rfl, H⟩; have cg5 := H.cell HGo.out HGb.out HGA.out HCg.out; have ck5 := H.kind; have S5 := aK H; clear H))
 go_wp2
 go_end0
 exact S5.out.done
theorem fields_c (n : Int) : WholeC 41 (fieldsS n) (fun v => v = .int .i64 n) := by
 by_cases h : n < 1 ∨ n = 6 ∨ 10 < n
 ·exact fieldsO_c n h
 ·have : n = 1 ∨ n = 2 ∨ n = 3 ∨ n = 4 ∨ n = 5 ∨ n = 7 ∨ n = 8 ∨ n = 9 ∨ n = 10 := by omega
  rcases this with rfl | rfl | rfl | rfl | rfl | rfl | rfl | rfl | rfl
  ·exact fields1_c
  ·exact fields2_c
  ·exact fields3_c
  ·exact fields4_c
  ·exact fields5_c
  ·exact fields7_c
  ·exact fields8_c
  ·exact fields9_c
  ·exact fields10_c
def script (n : Int) : List Step := headS n ++ (fieldsS n ++ [])
theorem head_pos (n : Int) : (headS n).all Step.pos = true := by
 unfold headS
 split
 ·rfl
 ·split <;> rfl
theorem fields_pos (n : Int) : (fieldsS n).all Step.pos = true := by
 unfold fieldsS
 repeat' split
 all_goals rfl
theorem script_few (n : Int) : (script n).all Step.few = true := by
 unfold script headS fieldsS
 simp only [List.all_append, Bool.and_eq_true]
 refine ⟨?_, ?_, rfl⟩
 ·repeat' split
  all_goals rfl
 ·repeat' split
  all_goals rfl
theorem script_len (n : Int) : (script n).length ≤ 16 := by
 unfold script headS fieldsS
 simp only [List.length_append]
 repeat' split
 all_goals simp [partS, whoS, faultS]
def kindM (m : M) : Int := match m.c 0 with | .int .i64 n => n | _ => 0
def Form.all (F : Form) (s : F.σ) (m : M) : F.σ × M := F.run (F.rowM s m 0 [.num 1 10]).1 (F.rowM s m 0 [.num 1 10]).2 (script (kindM (F.rowM s m 0 [.num 1 10]).2))
def Form.allCost (F : Form) (s : F.σ) (m : M) : Nat := 8 + F.runCost (F.rowM s m 0 [.num 1 10]).1 (F.rowM s m 0 [.num 1 10]).2 (script (kindM (F.rowM s m 0 [.num 1 10]).2))
theorem allCost_le {F : Form} {J : F.σ → Prop} {N : Nat} (hT : F.Tame J N) {s : F.σ} {m : M} (hs : J s) (hm : LiteM N m) (hw : Wide m) : F.allCost s m ≤ 8 + 16 * most1 N := by
 have h1 := hT.rowM (i := 0) (fs := [.num 1 10]) hs hm
 have h2 := runCost_le hT (ts := script (kindM (F.rowM s m 0 [.num 1 10]).2)) h1.1 h1.2 (show Wide (F.rowM s m 0 [.num 1 10]).2 from hw) (script_few _)
 have h3 := Nat.mul_le_mul_right (most1 N) (script_len (kindM (F.rowM s m 0 [.num 1 10]).2))
 unfold Form.allCost
 omega
variable {F : Form} {s : F.σ} {w : World} {b : Nat} {A : Nat → Prop} {m : M}
theorem kind_c (hF : F.Good) (h : MAt F s w b A s 0 m w) (hr : F.room s + F.allCost s m ≤ cap) :
  Calls Try.prog (F.k 0) #[F.v, .pointer (some ⟨b, 0, none⟩), .int .i64 1, .int .i64 10] w (StandOn F s w b A (.int .i64 (kindM (F.rowM s m 0 [.num 1 10]).2)) (F.allCost s m) (F.all s m).1 (F.all s m).2 (script (kindM (F.rowM s m 0 [.num 1 10]).2))) := by
 obtain ⟨x, hx⟩ : ∃ x, m.c 0 = .int .i64 x := h.typed 0 rfl
 obtain ⟨cs, h1, h2, h3, h4⟩ := h.blk
 refine (hF.num_c s w b 0 cs _ x 1 10 h.inv h.no (by unfold Form.allCost at hr; omega) h2 ((h3 0 rfl).trans (by rw [hx]))).mono ?_
 rintro e w' ⟨rfl, hS⟩
 have hR := h.rowDid (i := 0) (fs := [.num 1 10]) rfl (d := 8) (w1 := w') (by simpa [valsAt, hx, Form.row, Form.fld, cellsAt] using hS)
 refine ⟨rfl, _, _, _, hR, ?_, ?_, rfl⟩
 ·obtain ⟨y, hy⟩ : ∃ y, (F.rowM s m 0 [.num 1 10]).2.c 0 = .int .i64 y := hR.typed 0 rfl
  unfold kindM
  rw [hy]
 ·unfold Form.allCost; omega
def nils : Nat → Value := fun _ => .slice none 0 0
def zeroC : Nat → Value := fun i => match kindOf i with | .num _ _ => .int .i64 0 | .flag => .bool false | .text _ => .string ⟨#[]⟩
theorem zero_msg (W : World) : (zeroValue 35).run Try.prog W = .ok (.agg (msgC zeroC nils)) W := (zero_of_info (n := 26) (by kernel_rfl)).1 W
theorem info_msg : (Try.prog.info? 35).map (·.size) = some 26 := by kernel_rfl
theorem msgC_scalar (c sv : Nat → Value) : ∀ i, scalar i = true → (msgC c sv)[i]? = some (c i) := fun i hi => by
 have h : i < 26 := by unfold scalar at hi; simp only [Bool.and_eq_true, decide_eq_true_eq] at hi; exact hi.1
 have h3 : i ≠ 3 := fun e => by subst e; cases hi
 have h8 : i ≠ 8 := fun e => by subst e; cases hi
 have h9 : i ≠ 9 := fun e => by subst e; cases hi
 have h10 : i ≠ 10 := fun e => by subst e; cases hi
 have : i = 0 ∨ i = 1 ∨ i = 2 ∨ i = 4 ∨ i = 5 ∨ i = 6 ∨ i = 7 ∨ i = 11 ∨ i = 12 ∨ i = 13 ∨ i = 14 ∨ i = 15 ∨ i = 16 ∨ i = 17 ∨ i = 18 ∨ i = 19 ∨ i = 20 ∨ i = 21 ∨ i = 22 ∨ i = 23 ∨ i = 24 ∨ i = 25 := by omega
 rcases this with rfl | rfl | rfl | rfl | rfl | rfl | rfl | rfl | rfl | rfl | rfl | rfl | rfl | rfl | rfl | rfl | rfl | rfl | rfl | rfl | rfl | rfl <;> rfl
theorem msgC_list (c sv : Nat → Value) {j : Nat} {fs : List Fld} (h : (j, fs) ∈ lists) : (msgC c sv)[j]? = some (sv j) := by
 simp only [lists, List.mem_cons, Prod.mk.injEq, List.not_mem_nil, or_false] at h
 rcases h with ⟨rfl, _⟩ | ⟨rfl, _⟩ | ⟨rfl, _⟩ | ⟨rfl, _⟩ <;> rfl
theorem msgC_size (c sv : Nat → Value) : (msgC c sv).size = 26 := rfl
theorem MAt.made {F : Form} {s : F.σ} {w : World} {b : Nat} {m : M} {sv : Nat → Value} {A : Nat → Prop} (hI : F.Inv s w) (hno : ¬ F.own w.heap b) (hb : w.heap[b]? = some (.cells (msgC m.c sv) 35 (0, 0)))
  (ht : Typed m) (hf : Fit m) (hn : ∀ j, (m.L j).length ≤ 1048576) (hl : ∀ j fs, (j, fs) ∈ lists → ListAt w (sv j) fs.length (m.L j))
  (hr : ∀ j fs, (j, fs) ∈ lists → ∀ k, arr (sv j) = some k → m.L j ≠ [] → k ≠ b ∧ ¬ F.own w.heap k ∧ A k)
  (hd : ∀ j fs j' fs', (j, fs) ∈ lists → (j', fs') ∈ lists → j' ≠ j → ∀ k, arr (sv j) = some k → m.L j ≠ [] → m.L j' ≠ [] → arr (sv j') ≠ some k) : MAt F s w b A s 0 m w := by
 refine ⟨hI, fun _ _ h => h, Nat.le_refl _, hno, Only.refl _ _, ht, _, msgC_size _ _, hb, msgC_scalar _ _, fun j fs hj => ⟨⟨hf j fs hj, Nat.le_trans (hn j) (by omega)⟩, sv j, msgC_list _ _ hj, hl j fs hj, fun k hk h0 => ⟨(hr j fs hj k hk h0).1, (hr j fs hj k hk h0).2.1, .inl (hr j fs hj k hk h0).2.2, ?_⟩⟩⟩
 intro j' fs' sv' hj' hne hs' h0' ha
 rw [msgC_list _ _ hj'] at hs'
 injection hs' with hs'
 subst hs'
 exact hd j fs j' fs' hj hj' hne k hk h0 h0' ha
theorem ListAt.below {w w' : World} {sv : Value} {st : Nat} {rows : List (List Value)} (h : ListAt w sv st rows) (hB : Below w.heap.size w w') : ListAt w' sv st rows :=
 h.move fun k hk h0 => hB.block k (h.lt hk h0)
theorem oAll_g (g h : Nat) (s : OSt) (m : M) : ((oForm g).all s m).1 = ((oForm h).all s m).1 := by
 unfold Form.all
 have e1 := oRowM g s m 0 [.num 1 10]
 have e2 := oRowM h s m 0 [.num 1 10]
 have e3 : ((oForm g).rowM s m 0 [.num 1 10]).1 = ((oForm h).rowM s m 0 [.num 1 10]).1 := oRow_g g h _ _ s
 rw [e1, e2]
 exact (oRun_g g h _ _ m).trans (congrArg (fun s' : OSt => ((oForm h).run s' m (script (kindM m))).1) e3)
theorem oAll_m (g : Nat) (s : OSt) (m : M) : ((oForm g).all s m).2 = m := (oRun_m g _ _ _).trans (oRowM g s m 0 _)
theorem own_base_le {w : World} {B B' : Nat} {e : TypeId} {st : Nat} {v : Value} {n : Nat} {xs : List Value} (h : w.ownsRow B e st v n xs) (hB : B' ≤ B) : w.ownsRow B' e st v n xs :=
 ⟨h.1, h.2.imp id (fun ⟨g, cap, cur, e1, e2, e3⟩ => ⟨g, cap, cur, e1, Nat.le_trans hB e2, e3⟩)⟩
def payS (m : M) : OSt := ((oForm 0).all ([], false, false) m).1
def payB (m : M) : List Int := (payS m).1
def payOk (m : M) : Bool := decide (1 ≤ kindM m) && decide (kindM m ≤ 10) && !(payS m).2.1 && !(payS m).2.2
theorem oAll_pay (g : Nat) (m : M) : ((oForm g).all ([], false, false) m).1 = payS m := oAll_g g 0 _ _
def IsPay (m : M) (w : World) (e : Ending) (w' : World) : Prop :=
 Below w.heap.size w w' ∧ ∃ sv ok, e = .returned (.tuple #[sv, .bool ok]) ∧ ok = payOk m ∧ (ok = true → ∃ q c, sv = .slice (some ⟨q, 0, none⟩) (payB m).length c ∧ w'.ownsRow w.heap.size 5 1 sv (payB m).length (nums .u8 (payB m)) ∧ (payB m).length ≤ c ∧ c ≤ 9223372036854775807 ∧ w.heap.size ≤ q ∧ (payB m).length ≤ 9000000000)
theorem oNew {w : World} : OInv w.heap.size ([], false, false) (w.alloc (.cells #[.slice none 0 0, .bool false, .bool false] 83)) :=
 ⟨.slice none 0 0, blk_new w _, ⟨rfl, .inl ⟨rfl, rfl⟩⟩, by simp [Value.ownBlock]⟩
theorem oOwn_new {w : World} {k : Nat} (h : OOwn w.heap.size (w.alloc (.cells #[.slice none 0 0, .bool false, .bool false] 83)).heap k) : k = w.heap.size := by
 obtain ⟨v, hW⟩ := oNew (w := w)
 rcases (OOwn.of hW k).1 h with h | h
 ·exact h
 ·have e : v = .slice none 0 0 := by
   have := hW.1
   rw [blk_new w _] at this
   injection this with this
   injection this with this
   have := congrArg (fun a : Array Value => a[0]?) this
   simpa using this.symm
  subst e
  simp [Value.ownBlock] at h
def fourS (v3 v8 v9 v10 : Value) : Nat → Value := fun j => if j = 3 then v3 else if j = 8 then v8 else if j = 9 then v9 else if j = 10 then v10 else .slice none 0 0
theorem pay_made {w8 : World} {g4 : Nat} {m : M} {v3 v8 v9 v10 : Value} {B3 B4 B5 B6 B7 : Nat} (hb : w8.heap[g4]? = some (.cells (msgC m.c (fourS v3 v8 v9 v10)) 35 (0, 0)))
  (ht : Typed m) (hf : Fit m) (hn : ∀ j, (m.L j).length ≤ 1048576) (l3 : ListAt w8 v3 7 (m.L 3)) (l8 : ListAt w8 v8 5 (m.L 8)) (l9 : ListAt w8 v9 4 (m.L 9)) (l10 : ListAt w8 v10 3 (m.L 10))
  (r3 : ∀ k, arr v3 = some k → m.L 3 ≠ [] → B3 ≤ k ∧ k < B4) (r8 : ∀ k, arr v8 = some k → m.L 8 ≠ [] → B4 ≤ k ∧ k < B5) (r9 : ∀ k, arr v9 = some k → m.L 9 ≠ [] → B5 ≤ k ∧ k < B6) (r10 : ∀ k, arr v10 = some k → m.L 10 ≠ [] → B6 ≤ k ∧ k < B7)
  (h3 : g4 < B3) (h4 : B3 ≤ B4) (h5 : B4 ≤ B5) (h6 : B5 ≤ B6) (h7 : B6 ≤ B7) (h8 : B7 ≤ w8.heap.size) :
  MAt (oForm w8.heap.size) ([], false, false) (w8.alloc (.cells #[.slice none 0 0, .bool false, .bool false] 83)) g4 (fun k => B3 ≤ k ∧ k < w8.heap.size) ([], false, false) 0 m (w8.alloc (.cells #[.slice none 0 0, .bool false, .bool false] 83)) := by
 have hmv : ∀ k, k < w8.heap.size → (w8.alloc (.cells #[.slice none 0 0, .bool false, .bool false] 83)).heap[k]? = w8.heap[k]? := fun k hk => Below.heap_alloc w8 _ k hk
 have hR : ∀ j fs, (j, fs) ∈ lists → ∀ k, arr (fourS v3 v8 v9 v10 j) = some k → m.L j ≠ [] → B3 ≤ k ∧ k < B7 ∧ (j = 3 → k < B4) ∧ (j = 8 → B4 ≤ k ∧ k < B5) ∧ (j = 9 → B5 ≤ k ∧ k < B6) ∧ (j = 10 → B6 ≤ k) := by
  intro j fs hj k hk h0
  simp only [lists, List.mem_cons, Prod.mk.injEq, List.not_mem_nil, or_false] at hj
  rcases hj with ⟨rfl, _⟩ | ⟨rfl, _⟩ | ⟨rfl, _⟩ | ⟨rfl, _⟩
  ·have := r3 k hk h0; omega
  ·have := r8 k hk h0; omega
  ·have := r9 k hk h0; omega
  ·have := r10 k hk h0; omega
 refine MAt.made oNew (fun h => ?_) ((hmv g4 (by omega)).trans hb) ht hf hn ?_ ?_ ?_
 ·have := oOwn_new h; omega
 ·intro j fs hj
  have hj' := hj
  simp only [lists, List.mem_cons, Prod.mk.injEq, List.not_mem_nil, or_false] at hj
  rcases hj with ⟨rfl, rfl⟩ | ⟨rfl, rfl⟩ | ⟨rfl, rfl⟩ | ⟨rfl, rfl⟩
  ·exact l3.below ((Below.refl _ _).alloc (Nat.le_refl _) _)
  ·exact l8.below ((Below.refl _ _).alloc (Nat.le_refl _) _)
  ·exact l9.below ((Below.refl _ _).alloc (Nat.le_refl _) _)
  ·exact l10.below ((Below.refl _ _).alloc (Nat.le_refl _) _)
 ·intro j fs hj k hk h0
  have := hR j fs hj k hk h0
  refine ⟨by omega, fun h => ?_, by omega, by omega⟩
  have := oOwn_new h; omega
 ·intro j fs j' fs' hj hj' hne k hk h0 h0' hk'
  have a1 := hR j fs hj k hk h0
  have a2 := hR j' fs' hj' k hk' h0'
  simp only [lists, List.mem_cons, Prod.mk.injEq, List.not_mem_nil, or_false] at hj hj'
  rcases hj with ⟨rfl, _⟩ | ⟨rfl, _⟩ | ⟨rfl, _⟩ | ⟨rfl, _⟩ <;> rcases hj' with ⟨rfl, _⟩ | ⟨rfl, _⟩ | ⟨rfl, _⟩ | ⟨rfl, _⟩ <;> first | exact hne rfl | omega
theorem pay_room (g : Nat) {m : M} (hs : Small m) : (oForm g).room ([], false, false) + (oForm g).allCost ([], false, false) m ≤ 9000000000 := by
 have h := allCost_le (oTame g 1048576) (s := ([], false, false)) trivial hs.lite hs.wide
 have e : (oForm g).room ([], false, false) = 0 := rfl
 rw [e]
 unfold most1 at h
 omega
theorem le_cap {n : Nat} (h : n ≤ 9000000000) : n ≤ cap := by unfold cap; omega
def PayAt (w8 : World) (g4 B : Nat) (m : M) (C : Nat) (n : Int) (ts : List Step) (w : World) : Prop :=
 (oForm w8.heap.size).room ([], false, false) + C ≤ 9000000000 ∧ Stand (oForm w8.heap.size) ([], false, false) (w8.alloc (.cells #[.slice none 0 0, .bool false, .bool false] 83)) g4 (fun k => B ≤ k ∧ k < w8.heap.size) (.int .i64 n) C (payS m) m ts w
theorem pay_kind {w8 : World} {g4 B : Nat} {m : M} (h : MAt (oForm w8.heap.size) ([], false, false) (w8.alloc (.cells #[.slice none 0 0, .bool false, .bool false] 83)) g4 (fun k => B ≤ k ∧ k < w8.heap.size) ([], false, false) 0 m (w8.alloc (.cells #[.slice none 0 0, .bool false, .bool false] 83))) (hs : Small m) :
  ∃ n C, Calls Try.prog 39 #[.pointer (some ⟨w8.heap.size, 0, none⟩), .pointer (some ⟨g4, 0, none⟩), .int .i64 1, .int .i64 10] (w8.alloc (.cells #[.slice none 0 0, .bool false, .bool false] 83))
   (fun e w => e = .returned (.tuple #[]) ∧ PayAt w8 g4 B m C n (script n) w) := by
 have hr := pay_room w8.heap.size hs
 have hC := kind_c (oGood w8.heap.size) h (le_cap hr)
 rw [oAll_pay, oAll_m] at hC
 exact ⟨_, _, hC.mono fun e w H => ⟨H.1, hr, H.2⟩⟩
theorem pay_head {w8 w : World} {g4 B : Nat} {m : M} {C : Nat} {n : Int} (h : PayAt w8 g4 B m C n (script n) w) :
  Calls Try.prog 40 #[.iface 77 (.pointer (some ⟨w8.heap.size, 0, none⟩)), .pointer (some ⟨g4, 0, none⟩)] w (fun e w => e = .returned (.tuple #[]) ∧ PayAt w8 g4 B m C n (fieldsS n ++ []) w) :=
 (Stand.whole' (head_c n) h.2 (oGood w8.heap.size) (le_cap h.1) rfl (head_pos n)).mono fun e w H => ⟨H.1, h.1, H.2⟩
theorem pay_fields {w8 w : World} {g4 B : Nat} {m : M} {C : Nat} {n : Int} (h : PayAt w8 g4 B m C n (fieldsS n ++ []) w) :
  Calls Try.prog 41 #[.iface 77 (.pointer (some ⟨w8.heap.size, 0, none⟩)), .pointer (some ⟨g4, 0, none⟩)] w (fun e w => e = .returned (.tuple #[]) ∧ PayAt w8 g4 B m C n [] w) :=
 (Stand.whole' (fields_c n) h.2 (oGood w8.heap.size) (le_cap h.1) rfl (fields_pos n)).mono fun e w H => ⟨H.1, h.1, H.2⟩
theorem pay_end {w w8 w12 : World} {g4 B : Nat} {m : M} {C : Nat} {n : Int} (h0 : Below w.heap.size w w8) (h : PayAt w8 g4 B m C n [] w12) (h4 : g4 < B) (hB : w.heap.size ≤ g4) : Below w.heap.size w w12 ∧ ∃ v, WrAt w12 w8.heap.size 83 [.bool (payS m).2.2] v (payS m).1 (payS m).2.1 ∧ (payS m).1.length ≤ 9000000000 := by
 have h' := h.2.done.2
 have hr : (payS m).1.length ≤ 9000000000 := Nat.le_trans h'.room h.1
 obtain ⟨v, hW⟩ := h'.inv
 refine ⟨below_only (h0.alloc h0.size _) h'.only (by have := h0.size; rw [World.size_alloc]; omega) ?_, v, hW, hr⟩
 rintro k (hk | hk | hk)
 ·have := oOwn_new hk; have := h0.size; omega
 ·omega
 ·omega
def zeroM : M := ⟨zeroC, fun _ => []⟩
section
variable (g r q g' r' q' : Nat)
theorem iRow_g : ∀ (fs : List Fld) (vs : List Value) (s : ISt), ((iForm g r q).row s fs vs : ISt × List Value) = (iForm g' r' q').row s fs vs
 | [], vs, s => by cases vs <;> rfl
 | f :: fs, [], s => rfl
 | f :: fs, v :: vs, s => congrArg (fun p : ISt × List Value => (p.1, ((iForm g r q).fld s f v).2 :: p.2)) (iRow_g fs vs ((iForm g r q).fld s f v).1)
theorem iRows_g (fs : List Fld) : ∀ (rs : List (List Value)) (s : ISt), ((iForm g r q).rows fs s rs : ISt × List (List Value)) = (iForm g' r' q').rows fs s rs
 | [], s => rfl
 | x :: rs, s => by
  have e1 := iRow_g g r q g' r' q' fs x s
  have e2 := iRows_g fs rs ((iForm g r q).row s fs x).1
  show ((((iForm g r q).rows fs ((iForm g r q).row s fs x).1 rs).1, ((iForm g r q).row s fs x).2 :: ((iForm g r q).rows fs ((iForm g r q).row s fs x).1 rs).2) : ISt × List (List Value)) = (((iForm g' r' q').rows fs ((iForm g' r' q').row s fs x).1 rs).1, ((iForm g' r' q').row s fs x).2 :: ((iForm g' r' q').rows fs ((iForm g' r' q').row s fs x).1 rs).2)
  have e3 := congrArg Prod.fst e2
  have e4 := congrArg Prod.snd e2
  have e5 := congrArg Prod.fst e1
  have e6 := congrArg Prod.snd e1
  refine Prod.ext ?_ ?_
  ·exact e3.trans (congrArg (fun s' : ISt => (((iForm g' r' q').rows fs s' rs).1 : ISt)) e5)
  ·have e7 := e4.trans (congrArg (fun s' : ISt => ((iForm g' r' q').rows fs s' rs).2) e5)
   exact (congrArg (fun a => ((iForm g r q).row s fs x).2 :: a) e7).trans (congrArg (fun a => a :: ((iForm g' r' q').rows fs ((iForm g' r' q').row s fs x).1 rs).2) e6)
theorem iList_g (fs : List Fld) (s : ISt) (most : Nat) (rows : List (List Value)) : ((iForm g r q).list fs s most rows : ISt × List (List Value)) = (iForm g' r' q').list fs s most rows := by
 have e := iRows_g g r q g' r' q' fs (((iForm g r q).listR fs s most rows).take ((iForm g r q).listM s most rows.length)) ((iForm g r q).count s rows.length most).1
 have e1 := congrArg Prod.fst e
 have e2 := congrArg (fun a => a ++ ((iForm g r q).listR fs s most rows).drop ((iForm g r q).listM s most rows.length)) (congrArg Prod.snd e)
 exact Prod.ext e1 e2
theorem iRowM_g (s : ISt) (m : M) (i : Nat) (fs : List Fld) : ((iForm g r q).rowM s m i fs : ISt × M) = (iForm g' r' q').rowM s m i fs :=
 congrArg (fun p : ISt × List Value => ((p.1, { m with c := putAt m.c i p.2 }) : ISt × M)) (iRow_g g r q g' r' q' fs (valsAt m.c i fs.length) s)
theorem iStep_g (s : ISt) (m : M) (t : Step) : ((iForm g r q).step s m t : ISt × M) = (iForm g' r' q').step s m t := by
 cases t with
 | row i fs => exact iRowM_g g r q g' r' q' s m i fs
 | most => exact iRowM_g g r q g' r' q' s m 7 _
 | lst j fs n => exact congrArg (fun p : ISt × List (List Value) => ((p.1, { m with L := upL m.L j p.2 }) : ISt × M)) (iList_g g r q g' r' q' fs s n (m.L j))
theorem iRun_g : ∀ (ts : List Step) (s : ISt) (m : M), ((iForm g r q).run s m ts : ISt × M) = (iForm g' r' q').run s m ts
 | [], s, m => rfl
 | t :: ts, s, m => by
  have e := iStep_g g r q g' r' q' s m t
  show ((iForm g r q).run ((iForm g r q).step s m t).1 ((iForm g r q).step s m t).2 ts : ISt × M) = (iForm g' r' q').run ((iForm g' r' q').step s m t).1 ((iForm g' r' q').step s m t).2 ts
  exact (iRun_g ts _ _).trans (congrArg (fun p : ISt × M => ((iForm g' r' q').run p.1 p.2 ts : ISt × M)) e)
theorem iAll_g (s : ISt) (m : M) : ((iForm g r q).all s m : ISt × M) = (iForm g' r' q').all s m := by
 have e := iRowM_g g r q g' r' q' s m 0 [.num 1 10]
 show ((iForm g r q).run ((iForm g r q).rowM s m 0 [.num 1 10]).1 ((iForm g r q).rowM s m 0 [.num 1 10]).2 (script (kindM ((iForm g r q).rowM s m 0 [.num 1 10]).2)) : ISt × M) = _
 exact (iRun_g g r q g' r' q' _ _ _).trans (congrArg (fun p : ISt × M => ((iForm g' r' q').run p.1 p.2 (script (kindM p.2)) : ISt × M)) e)
end
def rdR (xs : List Int) : ISt × M := (iForm 0 0 0).all (xs, false, false) zeroM
def rdM (xs : List Int) : M := (rdR xs).2
def rdOk (xs : List Int) : Bool := (rend (rdR xs).1.1 (rdR xs).1.2.1 == 0) && !(rdR xs).1.2.2
theorem msgC_eq {cs : Array Value} {c sv : Nat → Value} (hs : cs.size = 26) (h1 : ∀ i, scalar i = true → cs[i]? = some (c i)) (h2 : ∀ j fs, (j, fs) ∈ lists → cs[j]? = some (sv j)) : cs = msgC c sv := by
 apply Array.ext_getElem?
 intro i
 rcases Nat.lt_or_ge i 26 with hi | hi
 ·cases h : scalar i with
  | true => rw [h1 i h, msgC_scalar c sv i h]
  | false =>
   have : ∃ fs, (i, fs) ∈ lists := by
    unfold scalar at h
    rw [decide_eq_true hi] at h
    have : i = 3 ∨ i = 8 ∨ i = 9 ∨ i = 10 := by
     simp only [Bool.true_and, Bool.not_eq_false', Bool.or_eq_true, beq_iff_eq] at h
     omega
    rcases this with rfl | rfl | rfl | rfl
    ·exact ⟨entryF, by simp [lists]⟩
    ·exact ⟨pairF, by simp [lists]⟩
    ·exact ⟨seenF, by simp [lists]⟩
    ·exact ⟨epochF, by simp [lists]⟩
   obtain ⟨fs, hj⟩ := this
   rw [h2 i fs hj, msgC_list c sv hj]
 ·rw [Array.getElem?_eq_none (by omega), Array.getElem?_eq_none (by rw [msgC_size]; omega)]
def IsMsg (B : Nat) (m : M) (w : World) (v : Value) : Prop := ∃ sv, MsgRd w v m sv ∧ ∀ j fs, (j, fs) ∈ lists → ∀ k, arr (sv j) = some k → m.L j ≠ [] → B ≤ k
def IsRd (xs : List Int) (w : World) (e : Ending) (w' : World) : Prop :=
 Below w.heap.size w w' ∧ ∃ v ok, e = .returned (.tuple #[v, .bool ok]) ∧ ok = rdOk xs ∧ IsMsg w.heap.size (rdM xs) w' v
theorem zero_typed : Typed zeroM := fun i hi => by
 show (kindOf i).fits (zeroC i)
 unfold zeroC
 cases kindOf i <;> exact ⟨_, rfl⟩
theorem zero_lite (N : Nat) : LiteM N zeroM := ⟨fun i x hx => by
 have hx' : zeroC i = .string x := hx
 unfold zeroC at hx'
 cases h : kindOf i <;> rw [h] at hx' <;> simp at hx'
 subst hx'
 exact Nat.zero_le _, fun j r hr => nomatch hr⟩
theorem zero_fit : Fit zeroM := fun _ _ _ r hr => nomatch hr
theorem zero_wide : Wide zeroM := fun _ r hr => nomatch hr
theorem rd_room (g r q : Nat) {xs : List Int} (hn : xs.length ≤ 9000000000) : (iForm g r q).room (xs, false, false) + (iForm g r q).allCost (xs, false, false) zeroM ≤ cap := by
 have h := allCost_le (iTame g r q 9000000000) (s := (xs, false, false)) hn (zero_lite _) zero_wide
 have e : (iForm g r q).room (xs, false, false) = 0 := rfl
 rw [e]
 unfold most1 at h
 unfold cap
 omega
def RdWalk (gi gr q gm : Nat) (w5 : World) (xs : List Int) (C : Nat) (n : Int) (ts : List Step) (w : World) : Prop :=
 (iForm gi gr q).room (xs, false, false) + C ≤ cap ∧ Stand (iForm gi gr q) (xs, false, false) w5 gm (fun _ => False) (.int .i64 n) C (rdR xs).1 (rdR xs).2 ts w
theorem rd_kind {gi gr q gm : Nat} {w5 : World} {xs : List Int} (hI : IInv gi gr q (xs, false, false) w5) (hno : ¬ IOwn gi gr q w5.heap gm) (hb : w5.heap[gm]? = some (.cells (msgC zeroC nils) 35 (0, 0))) (hn : xs.length ≤ 9000000000) :
  ∃ n C, Calls Try.prog 59 #[.pointer (some ⟨gi, 0, none⟩), .pointer (some ⟨gm, 0, none⟩), .int .i64 1, .int .i64 10] w5 (fun e w => e = .returned (.tuple #[]) ∧ RdWalk gi gr q gm w5 xs C n (script n) w) := by
 have hr := rd_room gi gr q hn
 have hM : MAt (iForm gi gr q) (xs, false, false) w5 gm (fun _ => False) (xs, false, false) 0 zeroM w5 := MAt.made (sv := nils) hI hno hb zero_typed zero_fit (fun _ => Nat.zero_le _)
  (fun j fs hj => ⟨none, 0, rfl, fun h => absurd rfl h, fun _ => rfl⟩) (fun j fs hj k hk h0 => absurd rfl h0) (fun j fs j' fs' hj hj' hne k hk h0 => absurd rfl h0)
 have hC := kind_c (iGood gi gr q) hM hr
 have e := iAll_g gi gr q 0 0 0 (xs, false, false) zeroM
 refine ⟨kindM ((iForm gi gr q).rowM (xs, false, false) zeroM 0 [.num 1 10]).2, (iForm gi gr q).allCost (xs, false, false) zeroM, hC.mono fun e' w H => ⟨H.1, hr, ?_⟩⟩
 have H2 := H.2
 rw [show ((iForm gi gr q).all (xs, false, false) zeroM) = rdR xs from e] at H2
 exact H2
theorem rd_head {gi gr q gm : Nat} {w5 w : World} {xs : List Int} {C : Nat} {n : Int} (h : RdWalk gi gr q gm w5 xs C n (script n) w) :
  Calls Try.prog 40 #[.iface 106 (.pointer (some ⟨gi, 0, none⟩)), .pointer (some ⟨gm, 0, none⟩)] w (fun e w => e = .returned (.tuple #[]) ∧ RdWalk gi gr q gm w5 xs C n (fieldsS n ++ []) w) :=
 (Stand.whole' (head_c n) h.2 (iGood gi gr q) h.1 rfl (head_pos n)).mono fun e w H => ⟨H.1, h.1, H.2⟩
theorem rd_fields {gi gr q gm : Nat} {w5 w : World} {xs : List Int} {C : Nat} {n : Int} (h : RdWalk gi gr q gm w5 xs C n (fieldsS n ++ []) w) :
  Calls Try.prog 41 #[.iface 106 (.pointer (some ⟨gi, 0, none⟩)), .pointer (some ⟨gm, 0, none⟩)] w (fun e w => e = .returned (.tuple #[]) ∧ RdWalk gi gr q gm w5 xs C n [] w) :=
 (Stand.whole' (fields_c n) h.2 (iGood gi gr q) h.1 rfl (fields_pos n)).mono fun e w H => ⟨H.1, h.1, H.2⟩
theorem rd_end {gi gr q gm : Nat} {w5 w : World} {xs : List Int} {C : Nat} {n : Int} (h : RdWalk gi gr q gm w5 xs C n [] w) :
  Only (fun k => k = gi ∨ k = gr ∨ k = q ∨ k = gm) w5 w ∧ IInv gi gr q (rdR xs).1 w ∧ ∃ sv, w.heap[gm]? = some (.cells (msgC (rdM xs).c sv) 35 (0, 0)) ∧ MsgRd w (.agg (msgC (rdM xs).c sv)) (rdM xs) sv ∧
   ∀ j fs, (j, fs) ∈ lists → ∀ k, arr (sv j) = some k → (rdM xs).L j ≠ [] → w5.heap.size ≤ k ∧ k < w.heap.size := by
 have h' := h.2.done.2
 obtain ⟨cs, h1, h2, h3, h4⟩ := h'.blk
 have key : ∀ j, ∃ v, ∀ fs, (j, fs) ∈ lists → cs[j]? = some v := fun j => by
  by_cases hj : ∃ fs, (j, fs) ∈ lists
  ·obtain ⟨fs, hj⟩ := hj
   obtain ⟨_, v, hv, _⟩ := h4 j fs hj
   exact ⟨v, fun _ _ => hv⟩
  ·exact ⟨undef, fun fs hj' => absurd ⟨fs, hj'⟩ hj⟩
 obtain ⟨sv, hsv⟩ := Classical.axiomOfChoice key
 have e : cs = msgC (rdM xs).c sv := msgC_eq h1 h3 (fun j fs hj => hsv j fs hj)
 subst e
 have hl : ∀ j fs, (j, fs) ∈ lists → ((∀ r, r ∈ (rdM xs).L j → fits fs r) ∧ ListAt w (sv j) fs.length ((rdM xs).L j)) ∧ ∀ k, arr (sv j) = some k → (rdM xs).L j ≠ [] → w5.heap.size ≤ k := fun j fs hj => by
  obtain ⟨hf, v, hv, hA, hk⟩ := h4 j fs hj
  rw [hsv j fs hj] at hv
  injection hv with hv
  subst hv
  refine ⟨⟨hf.1, hA⟩, fun k hk' h0 => ?_⟩
  rcases (hk k hk' h0).2.2.1 with h | h
  ·exact h.elim
  ·exact h
 refine ⟨h'.only.mono (fun k _ hk => ?_), h'.inv, sv, h2, ⟨rfl, h'.typed, fun j fs hj => (hl j fs hj).1.1, fun j fs hj => (hl j fs hj).1.2.rd⟩, fun j fs hj k hk h0 => ⟨(hl j fs hj).2 k hk h0, (hl j fs hj).1.2.lt hk h0⟩⟩
 rcases hk with (h | h | h) | h | h
 ·exact .inl h
 ·exact .inr (.inl h)
 ·exact .inr (.inr (.inl h))
 ·exact .inr (.inr (.inr h))
 ·exact h.elim
theorem eqA_Pos (d : Nat) (w : World) (x0 y0 : Int) (x1 y1 : Int) :
  (Op.equalIn (d + 2) 24 (.agg #[.int .i64 x0, .int .i64 x1]) (.agg #[.int .i64 y0, .int .i64 y1])).run Try.prog w = .ok (x0 == y0 && (x1 == y1)) w := by
 refine eqA_of Try.underlying24 (by kernel_rfl) ?_
 refine eqf_cons (by rfl) (by go_simp; rfl) (by go_simp; rfl) (by go_simp) ?_
 exact eqf_last (by rfl) (by go_simp; rfl) (by go_simp; rfl) (by go_simp)
theorem eqA_Value (d : Nat) (w : World) (x0 y0 : Int) (x1 y1 : Int) (x2 y2 : Bool) (x3 y3 : ByteArray) :
  (Op.equalIn (d + 3) 30 (.agg #[.int .i64 x0, .int .i64 x1, .bool x2, .string x3]) (.agg #[.int .i64 y0, .int .i64 y1, .bool y2, .string y3])).run Try.prog w = .ok ((x0 == y0 && (x1 == y1)) && (x2 == y2 && (x3.toList == y3.toList))) w := by
 refine eqA_of Try.underlying30 (by kernel_rfl) ?_
 refine eqf_cons (by rfl) (by go_simp) (by go_simp) (eqA_Pos (d + 0) w _ _ _ _) ?_
 refine eqf_cons (by rfl) (by go_simp; rfl) (by go_simp; rfl) (by go_simp) ?_
 exact eqf_last (by rfl) (by go_simp; rfl) (by go_simp; rfl) (by go_simp)
theorem eqA_Pair (d : Nat) (w : World) (x0 y0 : ByteArray) (x1 y1 : Int) (x2 y2 : Int) (x3 y3 : Bool) (x4 y4 : ByteArray) :
  (Op.equalIn (d + 4) 68 (.agg #[.string x0, .int .i64 x1, .int .i64 x2, .bool x3, .string x4]) (.agg #[.string y0, .int .i64 y1, .int .i64 y2, .bool y3, .string y4])).run Try.prog w = .ok (x0.toList == y0.toList && (((x1 == y1 && (x2 == y2)) && (x3 == y3 && (x4.toList == y4.toList))))) w := by
 refine eqA_of Try.underlying68 (by kernel_rfl) ?_
 refine eqf_cons (by rfl) (by go_simp; rfl) (by go_simp; rfl) (by go_simp) ?_
 exact eqf_last (by rfl) (by go_simp) (by go_simp) (eqA_Value (d + 0) w _ _ _ _ _ _ _ _)
theorem eqA_Seen (d : Nat) (w : World) (x0 y0 : Int) (x1 y1 : Int) (x2 y2 : Int) (x3 y3 : Int) :
  (Op.equalIn (d + 3) 70 (.agg #[.int .i64 x0, .int .i64 x1, .int .i64 x2, .int .i64 x3]) (.agg #[.int .i64 y0, .int .i64 y1, .int .i64 y2, .int .i64 y3])).run Try.prog w = .ok (x0 == y0 && (x1 == y1 && ((x2 == y2 && (x3 == y3))))) w := by
 refine eqA_of Try.underlying70 (by kernel_rfl) ?_
 refine eqf_cons (by rfl) (by go_simp; rfl) (by go_simp; rfl) (by go_simp) ?_
 refine eqf_cons (by rfl) (by go_simp; rfl) (by go_simp; rfl) (by go_simp) ?_
 exact eqf_last (by rfl) (by go_simp) (by go_simp) (eqA_Pos (d + 0) w _ _ _ _)
theorem eqA_Epoch (d : Nat) (w : World) (x0 y0 : Int) (x1 y1 : Int) (x2 y2 : Bool) :
  (Op.equalIn (d + 2) 72 (.agg #[.int .i64 x0, .int .i64 x1, .bool x2]) (.agg #[.int .i64 y0, .int .i64 y1, .bool y2])).run Try.prog w = .ok (x0 == y0 && (x1 == y1 && (x2 == y2))) w := by
 refine eqA_of Try.underlying72 (by kernel_rfl) ?_
 refine eqf_cons (by rfl) (by go_simp; rfl) (by go_simp; rfl) (by go_simp) ?_
 refine eqf_cons (by rfl) (by go_simp; rfl) (by go_simp; rfl) (by go_simp) ?_
 exact eqf_last (by rfl) (by go_simp; rfl) (by go_simp; rfl) (by go_simp)
theorem eqA_Entry (d : Nat) (w : World) (x0 y0 : Int) (x1 y1 : Int) (x2 y2 : Int) (x3 y3 : Int) (x4 y4 : ByteArray) (x5 y5 : Bool) (x6 y6 : ByteArray) :
  (Op.equalIn (d + 3) 66 (.agg #[.int .i64 x0, .int .i64 x1, .int .i64 x2, .int .i64 x3, .string x4, .bool x5, .string x6]) (.agg #[.int .i64 y0, .int .i64 y1, .int .i64 y2, .int .i64 y3, .string y4, .bool y5, .string y6])).run Try.prog w = .ok ((x0 == y0 && (x1 == y1)) && (x2 == y2 && (x3 == y3 && (x4.toList == y4.toList && (x5 == y5 && (x6.toList == y6.toList)))))) w := by
 refine eqA_of Try.underlying66 (by kernel_rfl) ?_
 refine eqf_cons (by rfl) (by go_simp) (by go_simp) (eqA_Pos (d + 0) w _ _ _ _) ?_
 refine eqf_cons (by rfl) (by go_simp; rfl) (by go_simp; rfl) (by go_simp) ?_
 refine eqf_cons (by rfl) (by go_simp; rfl) (by go_simp; rfl) (by go_simp) ?_
 refine eqf_cons (by rfl) (by go_simp; rfl) (by go_simp; rfl) (by go_simp) ?_
 refine eqf_cons (by rfl) (by go_simp; rfl) (by go_simp; rfl) (by go_simp) ?_
 exact eqf_last (by rfl) (by go_simp; rfl) (by go_simp; rfl) (by go_simp)
theorem baToList_inj {a b : ByteArray} (h : a.toList = b.toList) : a = b := by
 rw [ByteArray.toList_eq, ByteArray.toList_eq] at h
 exact ByteArray.ext (Array.ext' h)
def IsEq (p : Prop) (w : World) (e : Ending) (w' : World) : Prop := ∃ r, e = .returned (.bool r) ∧ (r = true ↔ p) ∧ Drawn0 w w'
theorem rd_row {w : World} {A : Option Addr} {n c st : Nat} {R : List (List Value)} {fs : List Fld} (h : ListRd w (.slice A n c) st R) (hl : R.length = n) {k : Nat} (hk : k < n) : ∃ ad r, A = some ad ∧ R[k]? = some r ∧ ∀ j v, r[j]? = some v → w.cell? (ad.add (k * st + j)) = some v := by
 obtain ⟨a, c', e, h0, h3⟩ := h
 injection e with e1 e2 e3
 subst e1
 obtain ⟨ad, rfl, h4⟩ := h3 (fun e => by subst e; simp at hl; omega)
 have hkl : k < R.length := by omega
 exact ⟨ad, R[k], rfl, List.getElem?_eq_getElem hkl, fun j v hj => h4 k _ (List.getElem?_eq_getElem hkl) j v hj⟩
theorem take_eq_succ {α : Type} {R S : List α} {k : Nat} {r : α} (h : R.take k = S.take k) (h1 : R[k]? = some r) (h2 : S[k]? = some r) : R.take (k + 1) = S.take (k + 1) := by
 rw [List.take_add_one, List.take_add_one, h, h1, h2]
theorem take_ne {α : Type} {R S : List α} {k : Nat} {r s : α} (h1 : R[k]? = some r) (h2 : S[k]? = some s) (hn : r ≠ s) : R ≠ S := fun e => by
 subst e
 rw [h1] at h2
 injection h2 with h2
 exact hn h2
theorem entry_vals {r : List Value} (h : fits entryF r) : ∃ (x0 : Int) (x1 : Int) (x2 : Int) (x3 : Int) (x4 : ByteArray) (x5 : Bool) (x6 : ByteArray), r = [.int .i64 x0, .int .i64 x1, .int .i64 x2, .int .i64 x3, .string x4, .bool x5, .string x6] := by
 obtain ⟨v0, r, rfl⟩ : ∃ v0 q, r = v0 :: q := by cases r with | nil => exact h.elim | cons a r => exact ⟨_, _, rfl⟩
 obtain ⟨⟨x0, rfl⟩, h⟩ := h
 obtain ⟨v1, r, rfl⟩ : ∃ v0 q, r = v0 :: q := by cases r with | nil => exact h.elim | cons a r => exact ⟨_, _, rfl⟩
 obtain ⟨⟨x1, rfl⟩, h⟩ := h
 obtain ⟨v2, r, rfl⟩ : ∃ v0 q, r = v0 :: q := by cases r with | nil => exact h.elim | cons a r => exact ⟨_, _, rfl⟩
 obtain ⟨⟨x2, rfl⟩, h⟩ := h
 obtain ⟨v3, r, rfl⟩ : ∃ v0 q, r = v0 :: q := by cases r with | nil => exact h.elim | cons a r => exact ⟨_, _, rfl⟩
 obtain ⟨⟨x3, rfl⟩, h⟩ := h
 obtain ⟨v4, r, rfl⟩ : ∃ v0 q, r = v0 :: q := by cases r with | nil => exact h.elim | cons a r => exact ⟨_, _, rfl⟩
 obtain ⟨⟨x4, rfl⟩, h⟩ := h
 obtain ⟨v5, r, rfl⟩ : ∃ v0 q, r = v0 :: q := by cases r with | nil => exact h.elim | cons a r => exact ⟨_, _, rfl⟩
 obtain ⟨⟨x5, rfl⟩, h⟩ := h
 obtain ⟨v6, r, rfl⟩ : ∃ v0 q, r = v0 :: q := by cases r with | nil => exact h.elim | cons a r => exact ⟨_, _, rfl⟩
 obtain ⟨⟨x6, rfl⟩, h⟩ := h
 obtain rfl : r = [] := by cases r with | nil => rfl | cons a r => exact h.elim
 exact ⟨x0, x1, x2, x3, x4, x5, x6, rfl⟩
theorem pair_vals {r : List Value} (h : fits pairF r) : ∃ (x0 : ByteArray) (x1 : Int) (x2 : Int) (x3 : Bool) (x4 : ByteArray), r = [.string x0, .int .i64 x1, .int .i64 x2, .bool x3, .string x4] := by
 obtain ⟨v0, r, rfl⟩ : ∃ v0 q, r = v0 :: q := by cases r with | nil => exact h.elim | cons a r => exact ⟨_, _, rfl⟩
 obtain ⟨⟨x0, rfl⟩, h⟩ := h
 obtain ⟨v1, r, rfl⟩ : ∃ v0 q, r = v0 :: q := by cases r with | nil => exact h.elim | cons a r => exact ⟨_, _, rfl⟩
 obtain ⟨⟨x1, rfl⟩, h⟩ := h
 obtain ⟨v2, r, rfl⟩ : ∃ v0 q, r = v0 :: q := by cases r with | nil => exact h.elim | cons a r => exact ⟨_, _, rfl⟩
 obtain ⟨⟨x2, rfl⟩, h⟩ := h
 obtain ⟨v3, r, rfl⟩ : ∃ v0 q, r = v0 :: q := by cases r with | nil => exact h.elim | cons a r => exact ⟨_, _, rfl⟩
 obtain ⟨⟨x3, rfl⟩, h⟩ := h
 obtain ⟨v4, r, rfl⟩ : ∃ v0 q, r = v0 :: q := by cases r with | nil => exact h.elim | cons a r => exact ⟨_, _, rfl⟩
 obtain ⟨⟨x4, rfl⟩, h⟩ := h
 obtain rfl : r = [] := by cases r with | nil => rfl | cons a r => exact h.elim
 exact ⟨x0, x1, x2, x3, x4, rfl⟩
theorem seen_vals {r : List Value} (h : fits seenF r) : ∃ (x0 : Int) (x1 : Int) (x2 : Int) (x3 : Int), r = [.int .i64 x0, .int .i64 x1, .int .i64 x2, .int .i64 x3] := by
 obtain ⟨v0, r, rfl⟩ : ∃ v0 q, r = v0 :: q := by cases r with | nil => exact h.elim | cons a r => exact ⟨_, _, rfl⟩
 obtain ⟨⟨x0, rfl⟩, h⟩ := h
 obtain ⟨v1, r, rfl⟩ : ∃ v0 q, r = v0 :: q := by cases r with | nil => exact h.elim | cons a r => exact ⟨_, _, rfl⟩
 obtain ⟨⟨x1, rfl⟩, h⟩ := h
 obtain ⟨v2, r, rfl⟩ : ∃ v0 q, r = v0 :: q := by cases r with | nil => exact h.elim | cons a r => exact ⟨_, _, rfl⟩
 obtain ⟨⟨x2, rfl⟩, h⟩ := h
 obtain ⟨v3, r, rfl⟩ : ∃ v0 q, r = v0 :: q := by cases r with | nil => exact h.elim | cons a r => exact ⟨_, _, rfl⟩
 obtain ⟨⟨x3, rfl⟩, h⟩ := h
 obtain rfl : r = [] := by cases r with | nil => rfl | cons a r => exact h.elim
 exact ⟨x0, x1, x2, x3, rfl⟩
theorem epoch_vals {r : List Value} (h : fits epochF r) : ∃ (x0 : Int) (x1 : Int) (x2 : Bool), r = [.int .i64 x0, .int .i64 x1, .bool x2] := by
 obtain ⟨v0, r, rfl⟩ : ∃ v0 q, r = v0 :: q := by cases r with | nil => exact h.elim | cons a r => exact ⟨_, _, rfl⟩
 obtain ⟨⟨x0, rfl⟩, h⟩ := h
 obtain ⟨v1, r, rfl⟩ : ∃ v0 q, r = v0 :: q := by cases r with | nil => exact h.elim | cons a r => exact ⟨_, _, rfl⟩
 obtain ⟨⟨x1, rfl⟩, h⟩ := h
 obtain ⟨v2, r, rfl⟩ : ∃ v0 q, r = v0 :: q := by cases r with | nil => exact h.elim | cons a r => exact ⟨_, _, rfl⟩
 obtain ⟨⟨x2, rfl⟩, h⟩ := h
 obtain rfl : r = [] := by cases r with | nil => rfl | cons a r => exact h.elim
 exact ⟨x0, x1, x2, rfl⟩
attribute [local go_sem high] eqA_Entry in
theorem equalEntry_c (w : World) (A B : Option Addr) (c d : Nat) (R S : List (List Value)) (h1 : ListRd w (.slice A R.length c) 7 R) (h2 : ListRd w (.slice B S.length d) 7 S) (hf : ∀ r, r ∈ R → fits entryF r) (hg : ∀ r, r ∈ S → fits entryF r) (hn : R.length ≤ 1048576) (hn2 : S.length ≤ 1048576) :
  Calls Try.prog 30 #[.slice A R.length c, .slice B S.length d] w (IsEq (R = S) w) := by
 have hu := Try.underlying66
 have H1 := aK h1
 have H2 := aK h2
 have HF := aK hf
 have HG := aK hg
 clear h1 h2 hf hg
 by_cases hl : R.length = S.length
 ·obtain ⟨n, e1⟩ : ∃ n, R.length = n := ⟨_, rfl⟩
  have e2 : S.length = n := by omega
  rw [e1] at H1 hn hl
  rw [e2] at H2 hn2 hl
  rw [e1, e2]
  have E1 := aK e1
  have E2 := aK e2
  clear e1 e2 hl hn2
  go_enter Try.func30, Try.ntmps30
  go_wp2
  go_loopg [13] n (fun g v w' => ∃ k : Nat, v = .int .i64 (k : Int) ∧ k + g = n ∧ Aside0 (R.take k = S.take k) ∧ Drawn0 w w')
  case atStart => exact ⟨0, rfl, by omega, ⟨rfl⟩, Drawn0.refl _⟩
  case round =>
   obtain ⟨k, rfl, hk, HT, ⟨m1, rfl⟩⟩ := hrel
   cases gk with
   | zero =>
    obtain rfl : k = n := by omega
    go_wp2
    go_ret
    refine ⟨true, rfl, ⟨fun _ => ?_, fun _ => rfl⟩, by repeat (first | exact Drawn0.refl _ | apply Drawn0.step)⟩
    have := HT.out
    rwa [List.take_of_length_le (by rw [E1.out]; omega), List.take_of_length_le (by rw [E2.out]; omega)] at this
   | succ g =>
    have hkn : k < n := by omega
    obtain ⟨ad, r, rfl, hr, hcx⟩ := rd_row (fs := entryF) H1.out E1.out hkn
    obtain ⟨bd, s, rfl, hs, hcy⟩ := rd_row (fs := entryF) H2.out E2.out hkn
    obtain ⟨x0, x1, x2, x3, x4, x5, x6, rfl⟩ := entry_vals (HF.out r (List.mem_of_getElem? hr))
    obtain ⟨y0, y1, y2, y3, y4, y5, y6, rfl⟩ := entry_vals (HG.out s (List.mem_of_getElem? hs))
    have cx0 : w.cell? (ad.add (k * 7)) = some (.int .i64 x0) := hcx 0 _ rfl
    have cx1 : w.cell? ⟨(ad.add (k * 7)).block, (ad.add (k * 7)).off + 1, none⟩ = some (.int .i64 x1) := by rw [← add_field _ _ _ (by omega)]; exact hcx 1 _ rfl
    have cx2 : w.cell? ⟨(ad.add (k * 7)).block, (ad.add (k * 7)).off + 2, none⟩ = some (.int .i64 x2) := by rw [← add_field _ _ _ (by omega)]; exact hcx 2 _ rfl
    have cx3 : w.cell? ⟨(ad.add (k * 7)).block, (ad.add (k * 7)).off + 3, none⟩ = some (.int .i64 x3) := by rw [← add_field _ _ _ (by omega)]; exact hcx 3 _ rfl
    have cx4 : w.cell? ⟨(ad.add (k * 7)).block, (ad.add (k * 7)).off + 4, none⟩ = some (.string x4) := by rw [← add_field _ _ _ (by omega)]; exact hcx 4 _ rfl
    have cx5 : w.cell? ⟨(ad.add (k * 7)).block, (ad.add (k * 7)).off + 5, none⟩ = some (.bool x5) := by rw [← add_field _ _ _ (by omega)]; exact hcx 5 _ rfl
    have cx6 : w.cell? ⟨(ad.add (k * 7)).block, (ad.add (k * 7)).off + 6, none⟩ = some (.string x6) := by rw [← add_field _ _ _ (by omega)]; exact hcx 6 _ rfl
    have cy0 : w.cell? (bd.add (k * 7)) = some (.int .i64 y0) := hcy 0 _ rfl
    have cy1 : w.cell? ⟨(bd.add (k * 7)).block, (bd.add (k * 7)).off + 1, none⟩ = some (.int .i64 y1) := by rw [← add_field _ _ _ (by omega)]; exact hcy 1 _ rfl
    have cy2 : w.cell? ⟨(bd.add (k * 7)).block, (bd.add (k * 7)).off + 2, none⟩ = some (.int .i64 y2) := by rw [← add_field _ _ _ (by omega)]; exact hcy 2 _ rfl
    have cy3 : w.cell? ⟨(bd.add (k * 7)).block, (bd.add (k * 7)).off + 3, none⟩ = some (.int .i64 y3) := by rw [← add_field _ _ _ (by omega)]; exact hcy 3 _ rfl
    have cy4 : w.cell? ⟨(bd.add (k * 7)).block, (bd.add (k * 7)).off + 4, none⟩ = some (.string y4) := by rw [← add_field _ _ _ (by omega)]; exact hcy 4 _ rfl
    have cy5 : w.cell? ⟨(bd.add (k * 7)).block, (bd.add (k * 7)).off + 5, none⟩ = some (.bool y5) := by rw [← add_field _ _ _ (by omega)]; exact hcy 5 _ rfl
    have cy6 : w.cell? ⟨(bd.add (k * 7)).block, (bd.add (k * 7)).off + 6, none⟩ = some (.string y6) := by rw [← add_field _ _ _ (by omega)]; exact hcy 6 _ rfl
    have HR := aK hr
    have HS := aK hs
    have HK := aK hk
    clear hcx hcy hr hs hk
    cases hb : (((!(x0 == y0)) || ((!(x1 == y1)))) || ((!(x2 == y2)) || ((!(x3 == y3)) || ((!(x4.toList == y4.toList)) || ((!(x5 == y5)) || ((!(x6.toList == y6.toList))))))))
    ·have HE := aK hb
     go_wp2
     repeat (go_quiet (fail); try go_wp2)
     go_roundg g
     case measure => omega
     case rel =>
      refine ⟨k + 1, by go_num, by have := HK.out; omega, ⟨?_⟩, by repeat (first | exact Drawn0.refl _ | apply Drawn0.step)⟩
      have he := HE.out
      simp only [Bool.or_eq_false_iff, Bool.not_eq_false', beq_iff_eq] at he
      obtain ⟨q0, q1, q2, q3, q4, q5, q6⟩ : x0 = y0 ∧ x1 = y1 ∧ x2 = y2 ∧ x3 = y3 ∧ x4.toList = y4.toList ∧ x5 = y5 ∧ x6.toList = y6.toList := by simpa [and_assoc] using he
      subst q0
      subst q1
      subst q2
      subst q3
      obtain rfl := baToList_inj q4
      subst q5
      obtain rfl := baToList_inj q6
      exact take_eq_succ HT.out HR.out HS.out
    ·have HE := aK hb
     go_wp2
     repeat (go_quiet (fail); try go_wp2)
     go_ret
     refine ⟨false, rfl, ⟨(fun h => by cases h), fun h => absurd h (take_ne HR.out HS.out (fun e => ?_))⟩, by repeat (first | exact Drawn0.refl _ | apply Drawn0.step)⟩
     have he := HE.out
     simp only [List.cons.injEq, Value.int.injEq, Value.string.injEq, Value.bool.injEq, true_and, and_true] at e
     obtain ⟨rfl, rfl, rfl, rfl, rfl, rfl, rfl⟩ := e
     simp at he
 ·have b0 : ((R.length : Int) == (S.length : Int)) = false := by rw [beq_eq_false_iff_ne]; omega
  have b1 : ((R.length : Int) != (S.length : Int)) = true := by rw [bne_iff_ne]; omega
  have b2 : (R.length == S.length) = false := by simpa using hl
  have HN := aK hl
  clear hl
  go_enter Try.func30, Try.ntmps30
  go_wp2
  go_ret
  exact ⟨false, rfl, ⟨(fun h => by cases h), fun h => absurd (congrArg List.length h) HN.out⟩, Drawn0.refl _⟩
attribute [local go_sem high] eqA_Pair in
theorem equalPair_c (w : World) (A B : Option Addr) (c d : Nat) (R S : List (List Value)) (h1 : ListRd w (.slice A R.length c) 5 R) (h2 : ListRd w (.slice B S.length d) 5 S) (hf : ∀ r, r ∈ R → fits pairF r) (hg : ∀ r, r ∈ S → fits pairF r) (hn : R.length ≤ 1048576) (hn2 : S.length ≤ 1048576) :
  Calls Try.prog 31 #[.slice A R.length c, .slice B S.length d] w (IsEq (R = S) w) := by
 have hu := Try.underlying68
 have H1 := aK h1
 have H2 := aK h2
 have HF := aK hf
 have HG := aK hg
 clear h1 h2 hf hg
 by_cases hl : R.length = S.length
 ·obtain ⟨n, e1⟩ : ∃ n, R.length = n := ⟨_, rfl⟩
  have e2 : S.length = n := by omega
  rw [e1] at H1 hn hl
  rw [e2] at H2 hn2 hl
  rw [e1, e2]
  have E1 := aK e1
  have E2 := aK e2
  clear e1 e2 hl hn2
  go_enter Try.func31, Try.ntmps31
  go_wp2
  go_loopg [13] n (fun g v w' => ∃ k : Nat, v = .int .i64 (k : Int) ∧ k + g = n ∧ Aside0 (R.take k = S.take k) ∧ Drawn0 w w')
  case atStart => exact ⟨0, rfl, by omega, ⟨rfl⟩, Drawn0.refl _⟩
  case round =>
   obtain ⟨k, rfl, hk, HT, ⟨m1, rfl⟩⟩ := hrel
   cases gk with
   | zero =>
    obtain rfl : k = n := by omega
    go_wp2
    go_ret
    refine ⟨true, rfl, ⟨fun _ => ?_, fun _ => rfl⟩, by repeat (first | exact Drawn0.refl _ | apply Drawn0.step)⟩
    have := HT.out
    rwa [List.take_of_length_le (by rw [E1.out]; omega), List.take_of_length_le (by rw [E2.out]; omega)] at this
   | succ g =>
    have hkn : k < n := by omega
    obtain ⟨ad, r, rfl, hr, hcx⟩ := rd_row (fs := pairF) H1.out E1.out hkn
    obtain ⟨bd, s, rfl, hs, hcy⟩ := rd_row (fs := pairF) H2.out E2.out hkn
    obtain ⟨x0, x1, x2, x3, x4, rfl⟩ := pair_vals (HF.out r (List.mem_of_getElem? hr))
    obtain ⟨y0, y1, y2, y3, y4, rfl⟩ := pair_vals (HG.out s (List.mem_of_getElem? hs))
    have cx0 : w.cell? (ad.add (k * 5)) = some (.string x0) := hcx 0 _ rfl
    have cx1 : w.cell? ⟨(ad.add (k * 5)).block, (ad.add (k * 5)).off + 1, none⟩ = some (.int .i64 x1) := by rw [← add_field _ _ _ (by omega)]; exact hcx 1 _ rfl
    have cx2 : w.cell? ⟨(ad.add (k * 5)).block, (ad.add (k * 5)).off + 2, none⟩ = some (.int .i64 x2) := by rw [← add_field _ _ _ (by omega)]; exact hcx 2 _ rfl
    have cx3 : w.cell? ⟨(ad.add (k * 5)).block, (ad.add (k * 5)).off + 3, none⟩ = some (.bool x3) := by rw [← add_field _ _ _ (by omega)]; exact hcx 3 _ rfl
    have cx4 : w.cell? ⟨(ad.add (k * 5)).block, (ad.add (k * 5)).off + 4, none⟩ = some (.string x4) := by rw [← add_field _ _ _ (by omega)]; exact hcx 4 _ rfl
    have cy0 : w.cell? (bd.add (k * 5)) = some (.string y0) := hcy 0 _ rfl
    have cy1 : w.cell? ⟨(bd.add (k * 5)).block, (bd.add (k * 5)).off + 1, none⟩ = some (.int .i64 y1) := by rw [← add_field _ _ _ (by omega)]; exact hcy 1 _ rfl
    have cy2 : w.cell? ⟨(bd.add (k * 5)).block, (bd.add (k * 5)).off + 2, none⟩ = some (.int .i64 y2) := by rw [← add_field _ _ _ (by omega)]; exact hcy 2 _ rfl
    have cy3 : w.cell? ⟨(bd.add (k * 5)).block, (bd.add (k * 5)).off + 3, none⟩ = some (.bool y3) := by rw [← add_field _ _ _ (by omega)]; exact hcy 3 _ rfl
    have cy4 : w.cell? ⟨(bd.add (k * 5)).block, (bd.add (k * 5)).off + 4, none⟩ = some (.string y4) := by rw [← add_field _ _ _ (by omega)]; exact hcy 4 _ rfl
    have HR := aK hr
    have HS := aK hs
    have HK := aK hk
    clear hcx hcy hr hs hk
    cases hb : ((!(x0.toList == y0.toList)) || ((((!(x1 == y1)) || ((!(x2 == y2)))) || ((!(x3 == y3)) || ((!(x4.toList == y4.toList)))))))
    ·have HE := aK hb
     go_wp2
     repeat (go_quiet (fail); try go_wp2)
     go_roundg g
     case measure => omega
     case rel =>
      refine ⟨k + 1, by go_num, by have := HK.out; omega, ⟨?_⟩, by repeat (first | exact Drawn0.refl _ | apply Drawn0.step)⟩
      have he := HE.out
      simp only [Bool.or_eq_false_iff, Bool.not_eq_false', beq_iff_eq] at he
      obtain ⟨q0, q1, q2, q3, q4⟩ : x0.toList = y0.toList ∧ x1 = y1 ∧ x2 = y2 ∧ x3 = y3 ∧ x4.toList = y4.toList := by simpa [and_assoc] using he
      obtain rfl := baToList_inj q0
      subst q1
      subst q2
      subst q3
      obtain rfl := baToList_inj q4
      exact take_eq_succ HT.out HR.out HS.out
    ·have HE := aK hb
     go_wp2
     repeat (go_quiet (fail); try go_wp2)
     go_ret
     refine ⟨false, rfl, ⟨(fun h => by cases h), fun h => absurd h (take_ne HR.out HS.out (fun e => ?_))⟩, by repeat (first | exact Drawn0.refl _ | apply Drawn0.step)⟩
     have he := HE.out
     simp only [List.cons.injEq, Value.int.injEq, Value.string.injEq, Value.bool.injEq, true_and, and_true] at e
     obtain ⟨rfl, rfl, rfl, rfl, rfl⟩ := e
     simp at he
 ·have b0 : ((R.length : Int) == (S.length : Int)) = false := by rw [beq_eq_false_iff_ne]; omega
  have b1 : ((R.length : Int) != (S.length : Int)) = true := by rw [bne_iff_ne]; omega
  have b2 : (R.length == S.length) = false := by simpa using hl
  have HN := aK hl
  clear hl
  go_enter Try.func31, Try.ntmps31
  go_wp2
  go_ret
  exact ⟨false, rfl, ⟨(fun h => by cases h), fun h => absurd (congrArg List.length h) HN.out⟩, Drawn0.refl _⟩
attribute [local go_sem high] eqA_Seen in
theorem equalSeen_c (w : World) (A B : Option Addr) (c d : Nat) (R S : List (List Value)) (h1 : ListRd w (.slice A R.length c) 4 R) (h2 : ListRd w (.slice B S.length d) 4 S) (hf : ∀ r, r ∈ R → fits seenF r) (hg : ∀ r, r ∈ S → fits seenF r) (hn : R.length ≤ 1048576) (hn2 : S.length ≤ 1048576) :
  Calls Try.prog 32 #[.slice A R.length c, .slice B S.length d] w (IsEq (R = S) w) := by
 have hu := Try.underlying70
 have H1 := aK h1
 have H2 := aK h2
 have HF := aK hf
 have HG := aK hg
 clear h1 h2 hf hg
 by_cases hl : R.length = S.length
 ·obtain ⟨n, e1⟩ : ∃ n, R.length = n := ⟨_, rfl⟩
  have e2 : S.length = n := by omega
  rw [e1] at H1 hn hl
  rw [e2] at H2 hn2 hl
  rw [e1, e2]
  have E1 := aK e1
  have E2 := aK e2
  clear e1 e2 hl hn2
  go_enter Try.func32, Try.ntmps32
  go_wp2
  go_loopg [13] n (fun g v w' => ∃ k : Nat, v = .int .i64 (k : Int) ∧ k + g = n ∧ Aside0 (R.take k = S.take k) ∧ Drawn0 w w')
  case atStart => exact ⟨0, rfl, by omega, ⟨rfl⟩, Drawn0.refl _⟩
  case round =>
   obtain ⟨k, rfl, hk, HT, ⟨m1, rfl⟩⟩ := hrel
   cases gk with
   | zero =>
    obtain rfl : k = n := by omega
    go_wp2
    go_ret
    refine ⟨true, rfl, ⟨fun _ => ?_, fun _ => rfl⟩, by repeat (first | exact Drawn0.refl _ | apply Drawn0.step)⟩
    have := HT.out
    rwa [List.take_of_length_le (by rw [E1.out]; omega), List.take_of_length_le (by rw [E2.out]; omega)] at this
   | succ g =>
    have hkn : k < n := by omega
    obtain ⟨ad, r, rfl, hr, hcx⟩ := rd_row (fs := seenF) H1.out E1.out hkn
    obtain ⟨bd, s, rfl, hs, hcy⟩ := rd_row (fs := seenF) H2.out E2.out hkn
    obtain ⟨x0, x1, x2, x3, rfl⟩ := seen_vals (HF.out r (List.mem_of_getElem? hr))
    obtain ⟨y0, y1, y2, y3, rfl⟩ := seen_vals (HG.out s (List.mem_of_getElem? hs))
    have cx0 : w.cell? (ad.add (k * 4)) = some (.int .i64 x0) := hcx 0 _ rfl
    have cx1 : w.cell? ⟨(ad.add (k * 4)).block, (ad.add (k * 4)).off + 1, none⟩ = some (.int .i64 x1) := by rw [← add_field _ _ _ (by omega)]; exact hcx 1 _ rfl
    have cx2 : w.cell? ⟨(ad.add (k * 4)).block, (ad.add (k * 4)).off + 2, none⟩ = some (.int .i64 x2) := by rw [← add_field _ _ _ (by omega)]; exact hcx 2 _ rfl
    have cx3 : w.cell? ⟨(ad.add (k * 4)).block, (ad.add (k * 4)).off + 3, none⟩ = some (.int .i64 x3) := by rw [← add_field _ _ _ (by omega)]; exact hcx 3 _ rfl
    have cy0 : w.cell? (bd.add (k * 4)) = some (.int .i64 y0) := hcy 0 _ rfl
    have cy1 : w.cell? ⟨(bd.add (k * 4)).block, (bd.add (k * 4)).off + 1, none⟩ = some (.int .i64 y1) := by rw [← add_field _ _ _ (by omega)]; exact hcy 1 _ rfl
    have cy2 : w.cell? ⟨(bd.add (k * 4)).block, (bd.add (k * 4)).off + 2, none⟩ = some (.int .i64 y2) := by rw [← add_field _ _ _ (by omega)]; exact hcy 2 _ rfl
    have cy3 : w.cell? ⟨(bd.add (k * 4)).block, (bd.add (k * 4)).off + 3, none⟩ = some (.int .i64 y3) := by rw [← add_field _ _ _ (by omega)]; exact hcy 3 _ rfl
    have HR := aK hr
    have HS := aK hs
    have HK := aK hk
    clear hcx hcy hr hs hk
    cases hb : ((!(x0 == y0)) || ((!(x1 == y1)) || (((!(x2 == y2)) || ((!(x3 == y3)))))))
    ·have HE := aK hb
     go_wp2
     repeat (go_quiet (fail); try go_wp2)
     go_roundg g
     case measure => omega
     case rel =>
      refine ⟨k + 1, by go_num, by have := HK.out; omega, ⟨?_⟩, by repeat (first | exact Drawn0.refl _ | apply Drawn0.step)⟩
      have he := HE.out
      simp only [Bool.or_eq_false_iff, Bool.not_eq_false', beq_iff_eq] at he
      obtain ⟨q0, q1, q2, q3⟩ : x0 = y0 ∧ x1 = y1 ∧ x2 = y2 ∧ x3 = y3 := by simpa [and_assoc] using he
      subst q0
      subst q1
      subst q2
      subst q3
      exact take_eq_succ HT.out HR.out HS.out
    ·have HE := aK hb
     go_wp2
     repeat (go_quiet (fail); try go_wp2)
     go_ret
     refine ⟨false, rfl, ⟨(fun h => by cases h), fun h => absurd h (take_ne HR.out HS.out (fun e => ?_))⟩, by repeat (first | exact Drawn0.refl _ | apply Drawn0.step)⟩
     have he := HE.out
     simp only [List.cons.injEq, Value.int.injEq, Value.string.injEq, Value.bool.injEq, true_and, and_true] at e
     obtain ⟨rfl, rfl, rfl, rfl⟩ := e
     simp at he
 ·have b0 : ((R.length : Int) == (S.length : Int)) = false := by rw [beq_eq_false_iff_ne]; omega
  have b1 : ((R.length : Int) != (S.length : Int)) = true := by rw [bne_iff_ne]; omega
  have b2 : (R.length == S.length) = false := by simpa using hl
  have HN := aK hl
  clear hl
  go_enter Try.func32, Try.ntmps32
  go_wp2
  go_ret
  exact ⟨false, rfl, ⟨(fun h => by cases h), fun h => absurd (congrArg List.length h) HN.out⟩, Drawn0.refl _⟩
attribute [local go_sem high] eqA_Epoch in
theorem equalEpoch_c (w : World) (A B : Option Addr) (c d : Nat) (R S : List (List Value)) (h1 : ListRd w (.slice A R.length c) 3 R) (h2 : ListRd w (.slice B S.length d) 3 S) (hf : ∀ r, r ∈ R → fits epochF r) (hg : ∀ r, r ∈ S → fits epochF r) (hn : R.length ≤ 1048576) (hn2 : S.length ≤ 1048576) :
  Calls Try.prog 33 #[.slice A R.length c, .slice B S.length d] w (IsEq (R = S) w) := by
 have hu := Try.underlying72
 have H1 := aK h1
 have H2 := aK h2
 have HF := aK hf
 have HG := aK hg
 clear h1 h2 hf hg
 by_cases hl : R.length = S.length
 ·obtain ⟨n, e1⟩ : ∃ n, R.length = n := ⟨_, rfl⟩
  have e2 : S.length = n := by omega
  rw [e1] at H1 hn hl
  rw [e2] at H2 hn2 hl
  rw [e1, e2]
  have E1 := aK e1
  have E2 := aK e2
  clear e1 e2 hl hn2
  go_enter Try.func33, Try.ntmps33
  go_wp2
  go_loopg [13] n (fun g v w' => ∃ k : Nat, v = .int .i64 (k : Int) ∧ k + g = n ∧ Aside0 (R.take k = S.take k) ∧ Drawn0 w w')
  case atStart => exact ⟨0, rfl, by omega, ⟨rfl⟩, Drawn0.refl _⟩
  case round =>
   obtain ⟨k, rfl, hk, HT, ⟨m1, rfl⟩⟩ := hrel
   cases gk with
   | zero =>
    obtain rfl : k = n := by omega
    go_wp2
    go_ret
    refine ⟨true, rfl, ⟨fun _ => ?_, fun _ => rfl⟩, by repeat (first | exact Drawn0.refl _ | apply Drawn0.step)⟩
    have := HT.out
    rwa [List.take_of_length_le (by rw [E1.out]; omega), List.take_of_length_le (by rw [E2.out]; omega)] at this
   | succ g =>
    have hkn : k < n := by omega
    obtain ⟨ad, r, rfl, hr, hcx⟩ := rd_row (fs := epochF) H1.out E1.out hkn
    obtain ⟨bd, s, rfl, hs, hcy⟩ := rd_row (fs := epochF) H2.out E2.out hkn
    obtain ⟨x0, x1, x2, rfl⟩ := epoch_vals (HF.out r (List.mem_of_getElem? hr))
    obtain ⟨y0, y1, y2, rfl⟩ := epoch_vals (HG.out s (List.mem_of_getElem? hs))
    have cx0 : w.cell? (ad.add (k * 3)) = some (.int .i64 x0) := hcx 0 _ rfl
    have cx1 : w.cell? ⟨(ad.add (k * 3)).block, (ad.add (k * 3)).off + 1, none⟩ = some (.int .i64 x1) := by rw [← add_field _ _ _ (by omega)]; exact hcx 1 _ rfl
    have cx2 : w.cell? ⟨(ad.add (k * 3)).block, (ad.add (k * 3)).off + 2, none⟩ = some (.bool x2) := by rw [← add_field _ _ _ (by omega)]; exact hcx 2 _ rfl
    have cy0 : w.cell? (bd.add (k * 3)) = some (.int .i64 y0) := hcy 0 _ rfl
    have cy1 : w.cell? ⟨(bd.add (k * 3)).block, (bd.add (k * 3)).off + 1, none⟩ = some (.int .i64 y1) := by rw [← add_field _ _ _ (by omega)]; exact hcy 1 _ rfl
    have cy2 : w.cell? ⟨(bd.add (k * 3)).block, (bd.add (k * 3)).off + 2, none⟩ = some (.bool y2) := by rw [← add_field _ _ _ (by omega)]; exact hcy 2 _ rfl
    have HR := aK hr
    have HS := aK hs
    have HK := aK hk
    clear hcx hcy hr hs hk
    cases hb : ((!(x0 == y0)) || ((!(x1 == y1)) || ((!(x2 == y2)))))
    ·have HE := aK hb
     go_wp2
     repeat (go_quiet (fail); try go_wp2)
     go_roundg g
     case measure => omega
     case rel =>
      refine ⟨k + 1, by go_num, by have := HK.out; omega, ⟨?_⟩, by repeat (first | exact Drawn0.refl _ | apply Drawn0.step)⟩
      have he := HE.out
      simp only [Bool.or_eq_false_iff, Bool.not_eq_false', beq_iff_eq] at he
      obtain ⟨q0, q1, q2⟩ : x0 = y0 ∧ x1 = y1 ∧ x2 = y2 := by simpa [and_assoc] using he
      subst q0
      subst q1
      subst q2
      exact take_eq_succ HT.out HR.out HS.out
    ·have HE := aK hb
     go_wp2
     repeat (go_quiet (fail); try go_wp2)
     go_ret
     refine ⟨false, rfl, ⟨(fun h => by cases h), fun h => absurd h (take_ne HR.out HS.out (fun e => ?_))⟩, by repeat (first | exact Drawn0.refl _ | apply Drawn0.step)⟩
     have he := HE.out
     simp only [List.cons.injEq, Value.int.injEq, Value.string.injEq, Value.bool.injEq, true_and, and_true] at e
     obtain ⟨rfl, rfl, rfl⟩ := e
     simp at he
 ·have b0 : ((R.length : Int) == (S.length : Int)) = false := by rw [beq_eq_false_iff_ne]; omega
  have b1 : ((R.length : Int) != (S.length : Int)) = true := by rw [bne_iff_ne]; omega
  have b2 : (R.length == S.length) = false := by simpa using hl
  have HN := aK hl
  clear hl
  go_enter Try.func33, Try.ntmps33
  go_wp2
  go_ret
  exact ⟨false, rfl, ⟨(fun h => by cases h), fun h => absurd (congrArg List.length h) HN.out⟩, Drawn0.refl _⟩
attribute [local go_sem high] eqA_Entry in
theorem sameEntries_c (w : World) (A B : Option Addr) (c d : Nat) (R S : List (List Value)) (h1 : ListRd w (.slice A R.length c) 7 R) (h2 : ListRd w (.slice B S.length d) 7 S) (hf : ∀ r, r ∈ R → fits entryF r) (hg : ∀ r, r ∈ S → fits entryF r) (hn : R.length ≤ 1048576) (hn2 : S.length ≤ 1048576) :
  Calls Try.prog 26 #[.slice A R.length c, .slice B S.length d] w (IsEq (R = S) w) := by
 have hu := Try.underlying66
 have H1 := aK h1
 have H2 := aK h2
 have HF := aK hf
 have HG := aK hg
 clear h1 h2 hf hg
 by_cases hl : R.length = S.length
 ·obtain ⟨n, e1⟩ : ∃ n, R.length = n := ⟨_, rfl⟩
  have e2 : S.length = n := by omega
  rw [e1] at H1 hn hl
  rw [e2] at H2 hn2 hl
  rw [e1, e2]
  have E1 := aK e1
  have E2 := aK e2
  clear e1 e2 hl hn2
  go_enter Try.func26, Try.ntmps26
  go_wp2
  go_loopg [5] n (fun g v w' => ∃ k : Nat, v = .int .i64 (k : Int) ∧ k + g = n ∧ Aside0 (R.take k = S.take k) ∧ Drawn0 w w')
  case atStart => exact ⟨0, rfl, by omega, ⟨rfl⟩, Drawn0.refl _⟩
  case round =>
   obtain ⟨k, rfl, hk, HT, ⟨m1, rfl⟩⟩ := hrel
   cases gk with
   | zero =>
    obtain rfl : k = n := by omega
    go_wp2
    go_ret
    refine ⟨true, rfl, ⟨fun _ => ?_, fun _ => rfl⟩, by repeat (first | exact Drawn0.refl _ | apply Drawn0.step)⟩
    have := HT.out
    rwa [List.take_of_length_le (by rw [E1.out]; omega), List.take_of_length_le (by rw [E2.out]; omega)] at this
   | succ g =>
    have hkn : k < n := by omega
    obtain ⟨ad, r, rfl, hr, hcx⟩ := rd_row (fs := entryF) H1.out E1.out hkn
    obtain ⟨bd, s, rfl, hs, hcy⟩ := rd_row (fs := entryF) H2.out E2.out hkn
    obtain ⟨x0, x1, x2, x3, x4, x5, x6, rfl⟩ := entry_vals (HF.out r (List.mem_of_getElem? hr))
    obtain ⟨y0, y1, y2, y3, y4, y5, y6, rfl⟩ := entry_vals (HG.out s (List.mem_of_getElem? hs))
    have cx0 : w.cell? (ad.add (k * 7)) = some (.int .i64 x0) := hcx 0 _ rfl
    have cx1 : w.cell? ⟨(ad.add (k * 7)).block, (ad.add (k * 7)).off + 1, none⟩ = some (.int .i64 x1) := by rw [← add_field _ _ _ (by omega)]; exact hcx 1 _ rfl
    have cx2 : w.cell? ⟨(ad.add (k * 7)).block, (ad.add (k * 7)).off + 2, none⟩ = some (.int .i64 x2) := by rw [← add_field _ _ _ (by omega)]; exact hcx 2 _ rfl
    have cx3 : w.cell? ⟨(ad.add (k * 7)).block, (ad.add (k * 7)).off + 3, none⟩ = some (.int .i64 x3) := by rw [← add_field _ _ _ (by omega)]; exact hcx 3 _ rfl
    have cx4 : w.cell? ⟨(ad.add (k * 7)).block, (ad.add (k * 7)).off + 4, none⟩ = some (.string x4) := by rw [← add_field _ _ _ (by omega)]; exact hcx 4 _ rfl
    have cx5 : w.cell? ⟨(ad.add (k * 7)).block, (ad.add (k * 7)).off + 5, none⟩ = some (.bool x5) := by rw [← add_field _ _ _ (by omega)]; exact hcx 5 _ rfl
    have cx6 : w.cell? ⟨(ad.add (k * 7)).block, (ad.add (k * 7)).off + 6, none⟩ = some (.string x6) := by rw [← add_field _ _ _ (by omega)]; exact hcx 6 _ rfl
    have cy0 : w.cell? (bd.add (k * 7)) = some (.int .i64 y0) := hcy 0 _ rfl
    have cy1 : w.cell? ⟨(bd.add (k * 7)).block, (bd.add (k * 7)).off + 1, none⟩ = some (.int .i64 y1) := by rw [← add_field _ _ _ (by omega)]; exact hcy 1 _ rfl
    have cy2 : w.cell? ⟨(bd.add (k * 7)).block, (bd.add (k * 7)).off + 2, none⟩ = some (.int .i64 y2) := by rw [← add_field _ _ _ (by omega)]; exact hcy 2 _ rfl
    have cy3 : w.cell? ⟨(bd.add (k * 7)).block, (bd.add (k * 7)).off + 3, none⟩ = some (.int .i64 y3) := by rw [← add_field _ _ _ (by omega)]; exact hcy 3 _ rfl
    have cy4 : w.cell? ⟨(bd.add (k * 7)).block, (bd.add (k * 7)).off + 4, none⟩ = some (.string y4) := by rw [← add_field _ _ _ (by omega)]; exact hcy 4 _ rfl
    have cy5 : w.cell? ⟨(bd.add (k * 7)).block, (bd.add (k * 7)).off + 5, none⟩ = some (.bool y5) := by rw [← add_field _ _ _ (by omega)]; exact hcy 5 _ rfl
    have cy6 : w.cell? ⟨(bd.add (k * 7)).block, (bd.add (k * 7)).off + 6, none⟩ = some (.string y6) := by rw [← add_field _ _ _ (by omega)]; exact hcy 6 _ rfl
    have HR := aK hr
    have HS := aK hs
    have HK := aK hk
    clear hcx hcy hr hs hk
    cases hb : (((!(x0 == y0)) || ((!(x1 == y1)))) || ((!(x2 == y2)) || ((!(x3 == y3)) || ((!(x4.toList == y4.toList)) || ((!(x5 == y5)) || ((!(x6.toList == y6.toList))))))))
    ·have HE := aK hb
     go_wp2
     repeat (go_quiet (fail); try go_wp2)
     go_roundg g
     case measure => omega
     case rel =>
      refine ⟨k + 1, by go_num, by have := HK.out; omega, ⟨?_⟩, by repeat (first | exact Drawn0.refl _ | apply Drawn0.step)⟩
      have he := HE.out
      simp only [Bool.or_eq_false_iff, Bool.not_eq_false', beq_iff_eq] at he
      obtain ⟨q0, q1, q2, q3, q4, q5, q6⟩ : x0 = y0 ∧ x1 = y1 ∧ x2 = y2 ∧ x3 = y3 ∧ x4.toList = y4.toList ∧ x5 = y5 ∧ x6.toList = y6.toList := by simpa [and_assoc] using he
      subst q0
      subst q1
      subst q2
      subst q3
      obtain rfl := baToList_inj q4
      subst q5
      obtain rfl := baToList_inj q6
      exact take_eq_succ HT.out HR.out HS.out
    ·have HE := aK hb
     go_wp2
     repeat (go_quiet (fail); try go_wp2)
     go_ret
     refine ⟨false, rfl, ⟨(fun h => by cases h), fun h => absurd h (take_ne HR.out HS.out (fun e => ?_))⟩, by repeat (first | exact Drawn0.refl _ | apply Drawn0.step)⟩
     have he := HE.out
     simp only [List.cons.injEq, Value.int.injEq, Value.string.injEq, Value.bool.injEq, true_and, and_true] at e
     obtain ⟨rfl, rfl, rfl, rfl, rfl, rfl, rfl⟩ := e
     simp at he
 ·have b0 : ((R.length : Int) == (S.length : Int)) = false := by rw [beq_eq_false_iff_ne]; omega
  have b1 : ((R.length : Int) != (S.length : Int)) = true := by rw [bne_iff_ne]; omega
  have b2 : (R.length == S.length) = false := by simpa using hl
  have HN := aK hl
  clear hl
  go_enter Try.func26, Try.ntmps26
  go_wp2
  go_ret
  exact ⟨false, rfl, ⟨(fun h => by cases h), fun h => absurd (congrArg List.length h) HN.out⟩, Drawn0.refl _⟩
attribute [local go_sem high] eqA_Pair in
theorem samePairs_c (w : World) (A B : Option Addr) (c d : Nat) (R S : List (List Value)) (h1 : ListRd w (.slice A R.length c) 5 R) (h2 : ListRd w (.slice B S.length d) 5 S) (hf : ∀ r, r ∈ R → fits pairF r) (hg : ∀ r, r ∈ S → fits pairF r) (hn : R.length ≤ 1048576) (hn2 : S.length ≤ 1048576) :
  Calls Try.prog 27 #[.slice A R.length c, .slice B S.length d] w (IsEq (R = S) w) := by
 have hu := Try.underlying68
 have H1 := aK h1
 have H2 := aK h2
 have HF := aK hf
 have HG := aK hg
 clear h1 h2 hf hg
 by_cases hl : R.length = S.length
 ·obtain ⟨n, e1⟩ : ∃ n, R.length = n := ⟨_, rfl⟩
  have e2 : S.length = n := by omega
  rw [e1] at H1 hn hl
  rw [e2] at H2 hn2 hl
  rw [e1, e2]
  have E1 := aK e1
  have E2 := aK e2
  clear e1 e2 hl hn2
  go_enter Try.func27, Try.ntmps27
  go_wp2
  go_loopg [5] n (fun g v w' => ∃ k : Nat, v = .int .i64 (k : Int) ∧ k + g = n ∧ Aside0 (R.take k = S.take k) ∧ Drawn0 w w')
  case atStart => exact ⟨0, rfl, by omega, ⟨rfl⟩, Drawn0.refl _⟩
  case round =>
   obtain ⟨k, rfl, hk, HT, ⟨m1, rfl⟩⟩ := hrel
   cases gk with
   | zero =>
    obtain rfl : k = n := by omega
    go_wp2
    go_ret
    refine ⟨true, rfl, ⟨fun _ => ?_, fun _ => rfl⟩, by repeat (first | exact Drawn0.refl _ | apply Drawn0.step)⟩
    have := HT.out
    rwa [List.take_of_length_le (by rw [E1.out]; omega), List.take_of_length_le (by rw [E2.out]; omega)] at this
   | succ g =>
    have hkn : k < n := by omega
    obtain ⟨ad, r, rfl, hr, hcx⟩ := rd_row (fs := pairF) H1.out E1.out hkn
    obtain ⟨bd, s, rfl, hs, hcy⟩ := rd_row (fs := pairF) H2.out E2.out hkn
    obtain ⟨x0, x1, x2, x3, x4, rfl⟩ := pair_vals (HF.out r (List.mem_of_getElem? hr))
    obtain ⟨y0, y1, y2, y3, y4, rfl⟩ := pair_vals (HG.out s (List.mem_of_getElem? hs))
    have cx0 : w.cell? (ad.add (k * 5)) = some (.string x0) := hcx 0 _ rfl
    have cx1 : w.cell? ⟨(ad.add (k * 5)).block, (ad.add (k * 5)).off + 1, none⟩ = some (.int .i64 x1) := by rw [← add_field _ _ _ (by omega)]; exact hcx 1 _ rfl
    have cx2 : w.cell? ⟨(ad.add (k * 5)).block, (ad.add (k * 5)).off + 2, none⟩ = some (.int .i64 x2) := by rw [← add_field _ _ _ (by omega)]; exact hcx 2 _ rfl
    have cx3 : w.cell? ⟨(ad.add (k * 5)).block, (ad.add (k * 5)).off + 3, none⟩ = some (.bool x3) := by rw [← add_field _ _ _ (by omega)]; exact hcx 3 _ rfl
    have cx4 : w.cell? ⟨(ad.add (k * 5)).block, (ad.add (k * 5)).off + 4, none⟩ = some (.string x4) := by rw [← add_field _ _ _ (by omega)]; exact hcx 4 _ rfl
    have cy0 : w.cell? (bd.add (k * 5)) = some (.string y0) := hcy 0 _ rfl
    have cy1 : w.cell? ⟨(bd.add (k * 5)).block, (bd.add (k * 5)).off + 1, none⟩ = some (.int .i64 y1) := by rw [← add_field _ _ _ (by omega)]; exact hcy 1 _ rfl
    have cy2 : w.cell? ⟨(bd.add (k * 5)).block, (bd.add (k * 5)).off + 2, none⟩ = some (.int .i64 y2) := by rw [← add_field _ _ _ (by omega)]; exact hcy 2 _ rfl
    have cy3 : w.cell? ⟨(bd.add (k * 5)).block, (bd.add (k * 5)).off + 3, none⟩ = some (.bool y3) := by rw [← add_field _ _ _ (by omega)]; exact hcy 3 _ rfl
    have cy4 : w.cell? ⟨(bd.add (k * 5)).block, (bd.add (k * 5)).off + 4, none⟩ = some (.string y4) := by rw [← add_field _ _ _ (by omega)]; exact hcy 4 _ rfl
    have HR := aK hr
    have HS := aK hs
    have HK := aK hk
    clear hcx hcy hr hs hk
    cases hb : ((!(x0.toList == y0.toList)) || ((((!(x1 == y1)) || ((!(x2 == y2)))) || ((!(x3 == y3)) || ((!(x4.toList == y4.toList)))))))
    ·have HE := aK hb
     go_wp2
     repeat (go_quiet (fail); try go_wp2)
     go_roundg g
     case measure => omega
     case rel =>
      refine ⟨k + 1, by go_num, by have := HK.out; omega, ⟨?_⟩, by repeat (first | exact Drawn0.refl _ | apply Drawn0.step)⟩
      have he := HE.out
      simp only [Bool.or_eq_false_iff, Bool.not_eq_false', beq_iff_eq] at he
      obtain ⟨q0, q1, q2, q3, q4⟩ : x0.toList = y0.toList ∧ x1 = y1 ∧ x2 = y2 ∧ x3 = y3 ∧ x4.toList = y4.toList := by simpa [and_assoc] using he
      obtain rfl := baToList_inj q0
      subst q1
      subst q2
      subst q3
      obtain rfl := baToList_inj q4
      exact take_eq_succ HT.out HR.out HS.out
    ·have HE := aK hb
     go_wp2
     repeat (go_quiet (fail); try go_wp2)
     go_ret
     refine ⟨false, rfl, ⟨(fun h => by cases h), fun h => absurd h (take_ne HR.out HS.out (fun e => ?_))⟩, by repeat (first | exact Drawn0.refl _ | apply Drawn0.step)⟩
     have he := HE.out
     simp only [List.cons.injEq, Value.int.injEq, Value.string.injEq, Value.bool.injEq, true_and, and_true] at e
     obtain ⟨rfl, rfl, rfl, rfl, rfl⟩ := e
     simp at he
 ·have b0 : ((R.length : Int) == (S.length : Int)) = false := by rw [beq_eq_false_iff_ne]; omega
  have b1 : ((R.length : Int) != (S.length : Int)) = true := by rw [bne_iff_ne]; omega
  have b2 : (R.length == S.length) = false := by simpa using hl
  have HN := aK hl
  clear hl
  go_enter Try.func27, Try.ntmps27
  go_wp2
  go_ret
  exact ⟨false, rfl, ⟨(fun h => by cases h), fun h => absurd (congrArg List.length h) HN.out⟩, Drawn0.refl _⟩
attribute [local go_sem high] eqA_Seen in
theorem sameSeen_c (w : World) (A B : Option Addr) (c d : Nat) (R S : List (List Value)) (h1 : ListRd w (.slice A R.length c) 4 R) (h2 : ListRd w (.slice B S.length d) 4 S) (hf : ∀ r, r ∈ R → fits seenF r) (hg : ∀ r, r ∈ S → fits seenF r) (hn : R.length ≤ 1048576) (hn2 : S.length ≤ 1048576) :
  Calls Try.prog 28 #[.slice A R.length c, .slice B S.length d] w (IsEq (R = S) w) := by
 have hu := Try.underlying70
 have H1 := aK h1
 have H2 := aK h2
 have HF := aK hf
 have HG := aK hg
 clear h1 h2 hf hg
 by_cases hl : R.length = S.length
 ·obtain ⟨n, e1⟩ : ∃ n, R.length = n := ⟨_, rfl⟩
  have e2 : S.length = n := by omega
  rw [e1] at H1 hn hl
  rw [e2] at H2 hn2 hl
  rw [e1, e2]
  have E1 := aK e1
  have E2 := aK e2
  clear e1 e2 hl hn2
  go_enter Try.func28, Try.ntmps28
  go_wp2
  go_loopg [5] n (fun g v w' => ∃ k : Nat, v = .int .i64 (k : Int) ∧ k + g = n ∧ Aside0 (R.take k = S.take k) ∧ Drawn0 w w')
  case atStart => exact ⟨0, rfl, by omega, ⟨rfl⟩, Drawn0.refl _⟩
  case round =>
   obtain ⟨k, rfl, hk, HT, ⟨m1, rfl⟩⟩ := hrel
   cases gk with
   | zero =>
    obtain rfl : k = n := by omega
    go_wp2
    go_ret
    refine ⟨true, rfl, ⟨fun _ => ?_, fun _ => rfl⟩, by repeat (first | exact Drawn0.refl _ | apply Drawn0.step)⟩
    have := HT.out
    rwa [List.take_of_length_le (by rw [E1.out]; omega), List.take_of_length_le (by rw [E2.out]; omega)] at this
   | succ g =>
    have hkn : k < n := by omega
    obtain ⟨ad, r, rfl, hr, hcx⟩ := rd_row (fs := seenF) H1.out E1.out hkn
    obtain ⟨bd, s, rfl, hs, hcy⟩ := rd_row (fs := seenF) H2.out E2.out hkn
    obtain ⟨x0, x1, x2, x3, rfl⟩ := seen_vals (HF.out r (List.mem_of_getElem? hr))
    obtain ⟨y0, y1, y2, y3, rfl⟩ := seen_vals (HG.out s (List.mem_of_getElem? hs))
    have cx0 : w.cell? (ad.add (k * 4)) = some (.int .i64 x0) := hcx 0 _ rfl
    have cx1 : w.cell? ⟨(ad.add (k * 4)).block, (ad.add (k * 4)).off + 1, none⟩ = some (.int .i64 x1) := by rw [← add_field _ _ _ (by omega)]; exact hcx 1 _ rfl
    have cx2 : w.cell? ⟨(ad.add (k * 4)).block, (ad.add (k * 4)).off + 2, none⟩ = some (.int .i64 x2) := by rw [← add_field _ _ _ (by omega)]; exact hcx 2 _ rfl
    have cx3 : w.cell? ⟨(ad.add (k * 4)).block, (ad.add (k * 4)).off + 3, none⟩ = some (.int .i64 x3) := by rw [← add_field _ _ _ (by omega)]; exact hcx 3 _ rfl
    have cy0 : w.cell? (bd.add (k * 4)) = some (.int .i64 y0) := hcy 0 _ rfl
    have cy1 : w.cell? ⟨(bd.add (k * 4)).block, (bd.add (k * 4)).off + 1, none⟩ = some (.int .i64 y1) := by rw [← add_field _ _ _ (by omega)]; exact hcy 1 _ rfl
    have cy2 : w.cell? ⟨(bd.add (k * 4)).block, (bd.add (k * 4)).off + 2, none⟩ = some (.int .i64 y2) := by rw [← add_field _ _ _ (by omega)]; exact hcy 2 _ rfl
    have cy3 : w.cell? ⟨(bd.add (k * 4)).block, (bd.add (k * 4)).off + 3, none⟩ = some (.int .i64 y3) := by rw [← add_field _ _ _ (by omega)]; exact hcy 3 _ rfl
    have HR := aK hr
    have HS := aK hs
    have HK := aK hk
    clear hcx hcy hr hs hk
    cases hb : ((!(x0 == y0)) || ((!(x1 == y1)) || (((!(x2 == y2)) || ((!(x3 == y3)))))))
    ·have HE := aK hb
     go_wp2
     repeat (go_quiet (fail); try go_wp2)
     go_roundg g
     case measure => omega
     case rel =>
      refine ⟨k + 1, by go_num, by have := HK.out; omega, ⟨?_⟩, by repeat (first | exact Drawn0.refl _ | apply Drawn0.step)⟩
      have he := HE.out
      simp only [Bool.or_eq_false_iff, Bool.not_eq_false', beq_iff_eq] at he
      obtain ⟨q0, q1, q2, q3⟩ : x0 = y0 ∧ x1 = y1 ∧ x2 = y2 ∧ x3 = y3 := by simpa [and_assoc] using he
      subst q0
      subst q1
      subst q2
      subst q3
      exact take_eq_succ HT.out HR.out HS.out
    ·have HE := aK hb
     go_wp2
     repeat (go_quiet (fail); try go_wp2)
     go_ret
     refine ⟨false, rfl, ⟨(fun h => by cases h), fun h => absurd h (take_ne HR.out HS.out (fun e => ?_))⟩, by repeat (first | exact Drawn0.refl _ | apply Drawn0.step)⟩
     have he := HE.out
     simp only [List.cons.injEq, Value.int.injEq, Value.string.injEq, Value.bool.injEq, true_and, and_true] at e
     obtain ⟨rfl, rfl, rfl, rfl⟩ := e
     simp at he
 ·have b0 : ((R.length : Int) == (S.length : Int)) = false := by rw [beq_eq_false_iff_ne]; omega
  have b1 : ((R.length : Int) != (S.length : Int)) = true := by rw [bne_iff_ne]; omega
  have b2 : (R.length == S.length) = false := by simpa using hl
  have HN := aK hl
  clear hl
  go_enter Try.func28, Try.ntmps28
  go_wp2
  go_ret
  exact ⟨false, rfl, ⟨(fun h => by cases h), fun h => absurd (congrArg List.length h) HN.out⟩, Drawn0.refl _⟩
attribute [local go_sem high] eqA_Epoch in
theorem sameTable_c (w : World) (A B : Option Addr) (c d : Nat) (R S : List (List Value)) (h1 : ListRd w (.slice A R.length c) 3 R) (h2 : ListRd w (.slice B S.length d) 3 S) (hf : ∀ r, r ∈ R → fits epochF r) (hg : ∀ r, r ∈ S → fits epochF r) (hn : R.length ≤ 1048576) (hn2 : S.length ≤ 1048576) :
  Calls Try.prog 29 #[.slice A R.length c, .slice B S.length d] w (IsEq (R = S) w) := by
 have hu := Try.underlying72
 have H1 := aK h1
 have H2 := aK h2
 have HF := aK hf
 have HG := aK hg
 clear h1 h2 hf hg
 by_cases hl : R.length = S.length
 ·obtain ⟨n, e1⟩ : ∃ n, R.length = n := ⟨_, rfl⟩
  have e2 : S.length = n := by omega
  rw [e1] at H1 hn hl
  rw [e2] at H2 hn2 hl
  rw [e1, e2]
  have E1 := aK e1
  have E2 := aK e2
  clear e1 e2 hl hn2
  go_enter Try.func29, Try.ntmps29
  go_wp2
  go_loopg [5] n (fun g v w' => ∃ k : Nat, v = .int .i64 (k : Int) ∧ k + g = n ∧ Aside0 (R.take k = S.take k) ∧ Drawn0 w w')
  case atStart => exact ⟨0, rfl, by omega, ⟨rfl⟩, Drawn0.refl _⟩
  case round =>
   obtain ⟨k, rfl, hk, HT, ⟨m1, rfl⟩⟩ := hrel
   cases gk with
   | zero =>
    obtain rfl : k = n := by omega
    go_wp2
    go_ret
    refine ⟨true, rfl, ⟨fun _ => ?_, fun _ => rfl⟩, by repeat (first | exact Drawn0.refl _ | apply Drawn0.step)⟩
    have := HT.out
    rwa [List.take_of_length_le (by rw [E1.out]; omega), List.take_of_length_le (by rw [E2.out]; omega)] at this
   | succ g =>
    have hkn : k < n := by omega
    obtain ⟨ad, r, rfl, hr, hcx⟩ := rd_row (fs := epochF) H1.out E1.out hkn
    obtain ⟨bd, s, rfl, hs, hcy⟩ := rd_row (fs := epochF) H2.out E2.out hkn
    obtain ⟨x0, x1, x2, rfl⟩ := epoch_vals (HF.out r (List.mem_of_getElem? hr))
    obtain ⟨y0, y1, y2, rfl⟩ := epoch_vals (HG.out s (List.mem_of_getElem? hs))
    have cx0 : w.cell? (ad.add (k * 3)) = some (.int .i64 x0) := hcx 0 _ rfl
    have cx1 : w.cell? ⟨(ad.add (k * 3)).block, (ad.add (k * 3)).off + 1, none⟩ = some (.int .i64 x1) := by rw [← add_field _ _ _ (by omega)]; exact hcx 1 _ rfl
    have cx2 : w.cell? ⟨(ad.add (k * 3)).block, (ad.add (k * 3)).off + 2, none⟩ = some (.bool x2) := by rw [← add_field _ _ _ (by omega)]; exact hcx 2 _ rfl
    have cy0 : w.cell? (bd.add (k * 3)) = some (.int .i64 y0) := hcy 0 _ rfl
    have cy1 : w.cell? ⟨(bd.add (k * 3)).block, (bd.add (k * 3)).off + 1, none⟩ = some (.int .i64 y1) := by rw [← add_field _ _ _ (by omega)]; exact hcy 1 _ rfl
    have cy2 : w.cell? ⟨(bd.add (k * 3)).block, (bd.add (k * 3)).off + 2, none⟩ = some (.bool y2) := by rw [← add_field _ _ _ (by omega)]; exact hcy 2 _ rfl
    have HR := aK hr
    have HS := aK hs
    have HK := aK hk
    clear hcx hcy hr hs hk
    cases hb : ((!(x0 == y0)) || ((!(x1 == y1)) || ((!(x2 == y2)))))
    ·have HE := aK hb
     go_wp2
     repeat (go_quiet (fail); try go_wp2)
     go_roundg g
     case measure => omega
     case rel =>
      refine ⟨k + 1, by go_num, by have := HK.out; omega, ⟨?_⟩, by repeat (first | exact Drawn0.refl _ | apply Drawn0.step)⟩
      have he := HE.out
      simp only [Bool.or_eq_false_iff, Bool.not_eq_false', beq_iff_eq] at he
      obtain ⟨q0, q1, q2⟩ : x0 = y0 ∧ x1 = y1 ∧ x2 = y2 := by simpa [and_assoc] using he
      subst q0
      subst q1
      subst q2
      exact take_eq_succ HT.out HR.out HS.out
    ·have HE := aK hb
     go_wp2
     repeat (go_quiet (fail); try go_wp2)
     go_ret
     refine ⟨false, rfl, ⟨(fun h => by cases h), fun h => absurd h (take_ne HR.out HS.out (fun e => ?_))⟩, by repeat (first | exact Drawn0.refl _ | apply Drawn0.step)⟩
     have he := HE.out
     simp only [List.cons.injEq, Value.int.injEq, Value.string.injEq, Value.bool.injEq, true_and, and_true] at e
     obtain ⟨rfl, rfl, rfl⟩ := e
     simp at he
 ·have b0 : ((R.length : Int) == (S.length : Int)) = false := by rw [beq_eq_false_iff_ne]; omega
  have b1 : ((R.length : Int) != (S.length : Int)) = true := by rw [bne_iff_ne]; omega
  have b2 : (R.length == S.length) = false := by simpa using hl
  have HN := aK hl
  clear hl
  go_enter Try.func29, Try.ntmps29
  go_wp2
  go_ret
  exact ⟨false, rfl, ⟨(fun h => by cases h), fun h => absurd (congrArg List.length h) HN.out⟩, Drawn0.refl _⟩
theorem dblk {w w' : World} {g : Nat} {o : Obj} (h : Drawn0 w w') (hb : w.heap[g]? = some o) : w'.heap[g]? = some o := by
 obtain ⟨n, rfl⟩ := h.out
 exact hb
def Has (a : Act) (i : Nat) (v : Value) : Prop := a.tmps[i]? = some v
theorem Has.eval {a : Act} {i : Nat} {v : Value} (h : Has a i v) : a.eval (.tmp i) = v := by
 unfold Has at h
 have hl := (Array.getElem?_eq_some_iff.1 h).1
 show a.tmps.getD i undef = v
 rw [Array.getD_eq_getD_getElem?, h]; rfl
theorem Has.same {a : Act} {i : Nat} {v : Value} (h : i < a.tmps.size) : Has (a.put (some i) v) i v := by
 unfold Has
 show (a.tmps.setIfInBounds i v)[i]? = some v
 rw [Array.getElem?_setIfInBounds_self_of_lt h]
theorem Has.far {a : Act} {i d : Nat} {v u : Value} (h : Has a i v) (hn : d ≠ i) : Has (a.put (some d) u) i v := by
 unfold Has at h ⊢
 show (a.tmps.setIfInBounds d u)[i]? = some v
 rw [Array.getElem?_setIfInBounds_ne hn, h]
theorem size_put (a : Act) (d : Option Nat) (u : Value) : (a.put d u).tmps.size = a.tmps.size := by
 cases d with
 | none => rfl
 | some d => show (a.tmps.setIfInBounds d u).size = _; simp
theorem defers_put (a : Act) (d : Option Nat) (u : Value) : (a.put d u).defers = a.defers := by cases d <;> rfl
theorem run_assign {P : Program} {W : World} {o : Oper} {ρ : Operand → Value} {x : Operand} {v : Value} (ho : o.op = .assign x) (h : ρ x = v) : (execOp ρ o).run P W = .ok (.value v) W := by
 unfold execOp
 simp only [ho, h]
 rfl
theorem results_one {fn : Func} {t : Tmp} {a : Act} {v : Value} {P : Program} {w : World} (hf : fn.results = #[.tmp t]) (h : Has a t v) : (results fn a.tmps).run P w = .ok v w := by
 rw [results_tmp hf]
 have : a.tmps.getD t undef = v := h.eval
 rw [this]
structure Fr (n lo : Nat) (a a' : Act) : Prop where
 size : a'.tmps.size = n
 old : ∀ i v, i < lo → Has a i v → Has a' i v
 defers : a'.defers = a.defers
theorem Fr.refl {n lo : Nat} {a : Act} (h : a.tmps.size = n) : Fr n lo a a := ⟨h, fun _ _ _ h => h, rfl⟩
theorem Fr.put {n lo : Nat} {a a' : Act} (h : Fr n lo a a') {d : Nat} (hd : lo ≤ d) (v : Value) : Fr n lo a (a'.put (some d) v) :=
 ⟨(size_put _ _ _).trans h.size, fun i u hi hu => (h.old i u hi hu).far (by omega), (defers_put _ _ _).trans h.defers⟩
section
variable {P : Program} {ops : Array Oper} {rest : List Oper} {Q : Exit → Act → World → Prop} {W : World} {a : Act} {o : Oper}
theorem step_val {v : Value} {w1 : World} (hg : o.guard = none) (hrun : (execOp a.eval o).run P W = .ok (.value v) w1) (h : wpList P ops Q rest (a.put o.dst v) w1) : wpList P ops Q (o :: rest) a W := Kd.event_run hg hrun h
theorem step_in {v : Value} {w1 : World} {j m : Nat} {b : Bool} (hg : o.guard = some (j, b)) (hj : (ops[j]?.bind (·.dst)) = some m) (hm : Has a m (.bool b)) (hrun : (execOp a.eval o).run P W = .ok (.value v) w1) (h : wpList P ops Q rest (a.put o.dst v) w1) : wpList P ops Q (o :: rest) a W := by
 refine gate_guard ?_ (step_val rfl ?_ h)
 ·unfold Region.wanted yielded
  rw [hg]
  simp only [hj, Option.bind_some]
  rw [hm]
  simp
 ·exact hrun
theorem step_out {j m : Nat} {b : Bool} (hg : o.guard = some (j, b)) (hj : (ops[j]?.bind (·.dst)) = some m) (hm : Has a m (.bool (!b))) (h : wpList P ops Q rest (a.put o.dst undef) W) : wpList P ops Q (o :: rest) a W := by
 refine skip_guard ?_ h
 unfold Region.wanted yielded
 rw [hg]
 simp only [hj, Option.bind_some]
 rw [hm]
 cases b <;> rfl
variable {n d p j : Nat} {b r e : Bool} {o1 o2 o3 o4 o5 o6 o7 : Oper} {A1 A2 v1 v2 : Value}
theorem cmp_block (hd : d + 6 < n) (hn : a.tmps.size = n) (hp : Has a p (.bool r)) {P1 P2 : Value} (h2 : Has a 2 P1) (h3 : Has a 3 P2) (hp2 : 3 < d) (hpd : p < d)
  (q1 : o1.op = .move (.tmp p) ∧ o1.dst = some d ∧ o1.guard = none) (q2 : o2.dst = some (d + 1) ∧ o2.guard = some (j, b)) (q3 : o3.dst = some (d + 2) ∧ o3.guard = some (j, b)) (q4 : o4.dst = some (d + 3) ∧ o4.guard = some (j, b)) (q5 : o5.dst = some (d + 4) ∧ o5.guard = some (j, b)) (q6 : o6.dst = some (d + 5) ∧ o6.guard = some (j, b)) (q7 : o7.dst = some (d + 6) ∧ o7.guard = none) (hj : (ops[j]?.bind (·.dst)) = some d)
  (x2 : ∀ ρ : Operand → Value, ρ (.tmp 2) = P1 → (execOp ρ o2).run P W = .ok (.value A1) W) (x3 : ∀ ρ : Operand → Value, ρ (.tmp (d + 1)) = A1 → (execOp ρ o3).run P W = .ok (.value v1) W)
  (x4 : ∀ ρ : Operand → Value, ρ (.tmp 3) = P2 → (execOp ρ o4).run P W = .ok (.value A2) W) (x5 : ∀ ρ : Operand → Value, ρ (.tmp (d + 3)) = A2 → (execOp ρ o5).run P W = .ok (.value v2) W)
  (x6 : ∀ ρ : Operand → Value, ρ (.tmp (d + 2)) = v1 → ρ (.tmp (d + 4)) = v2 → (execOp ρ o6).run P W = .ok (.value (.bool e)) W)
  (x7 : ∀ ρ : Operand → Value, (∀ v, ρ (.const v) = v) → (ρ (.tmp d) = .bool b → ρ (.tmp (d + 5)) = .bool e → (execOp ρ o7).run P W = .ok (.value (.bool e)) W) ∧ (ρ (.tmp d) = .bool (!b) → (execOp ρ o7).run P W = .ok (.value (.bool (!b))) W))
  (h : ∀ a' r', Fr n d a a' → Has a' (d + 6) (.bool r') → (r' = b ↔ r = b ∧ e = b) → wpList P ops Q rest a' W) : wpList P ops Q (o1 :: o2 :: o3 :: o4 :: o5 :: o6 :: o7 :: rest) a W := by
 refine step_val q1.2.2 (v := .bool r) (w1 := W) ?_ ?_
 ·unfold execOp; simp only [q1.1, hp.eval]; rfl
 rw [q1.2.1]
 have f1 : Fr n d a (a.put (some d) (.bool r)) := (Fr.refl hn).put (Nat.le_refl _) _
 have m1 : Has (a.put (some d) (.bool r)) d (.bool r) := Has.same (by omega)
 generalize a.put (some d) (.bool r) = a1 at *
 by_cases hr : r = b
 ·subst hr
  refine step_in q2.2 hj m1 (x2 _ (f1.old 2 _ (by omega) h2).eval) ?_
  rw [q2.1]
  have f2 := f1.put (d := d + 1) (by omega) A1
  have m2 : Has (a1.put (some (d + 1)) A1) (d + 1) A1 := Has.same (by rw [f1.size]; omega)
  have g2 : Has (a1.put (some (d + 1)) A1) d (.bool r) := m1.far (by omega)
  generalize a1.put (some (d + 1)) A1 = a2 at *
  refine step_in q3.2 hj g2 (x3 _ m2.eval) ?_
  rw [q3.1]
  have f3 := f2.put (d := d + 2) (by omega) v1
  have m3 : Has (a2.put (some (d + 2)) v1) (d + 2) v1 := Has.same (by rw [f2.size]; omega)
  have g3 : Has (a2.put (some (d + 2)) v1) d (.bool r) := g2.far (by omega)
  generalize a2.put (some (d + 2)) v1 = a3 at *
  refine step_in q4.2 hj g3 (x4 _ (f3.old 3 _ (by omega) h3).eval) ?_
  rw [q4.1]
  have f4 := f3.put (d := d + 3) (by omega) A2
  have m4 : Has (a3.put (some (d + 3)) A2) (d + 3) A2 := Has.same (by rw [f3.size]; omega)
  have g4 : Has (a3.put (some (d + 3)) A2) d (.bool r) := g3.far (by omega)
  have k4 : Has (a3.put (some (d + 3)) A2) (d + 2) v1 := m3.far (by omega)
  generalize a3.put (some (d + 3)) A2 = a4 at *
  refine step_in q5.2 hj g4 (x5 _ m4.eval) ?_
  rw [q5.1]
  have f5 := f4.put (d := d + 4) (by omega) v2
  have m5 : Has (a4.put (some (d + 4)) v2) (d + 4) v2 := Has.same (by rw [f4.size]; omega)
  have g5 : Has (a4.put (some (d + 4)) v2) d (.bool r) := g4.far (by omega)
  have k5 : Has (a4.put (some (d + 4)) v2) (d + 2) v1 := k4.far (by omega)
  generalize a4.put (some (d + 4)) v2 = a5 at *
  refine step_in q6.2 hj g5 (x6 _ k5.eval m5.eval) ?_
  rw [q6.1]
  have f6 := f5.put (d := d + 5) (by omega) (.bool e)
  have m6 : Has (a5.put (some (d + 5)) (.bool e)) (d + 5) (.bool e) := Has.same (by rw [f5.size]; omega)
  have g6 : Has (a5.put (some (d + 5)) (.bool e)) d (.bool r) := g5.far (by omega)
  generalize a5.put (some (d + 5)) (.bool e) = a6 at *
  refine step_val q7.2 ((x7 _ (fun _ => rfl)).1 g6.eval m6.eval) ?_
  rw [q7.1]
  exact h _ e (f6.put (by omega) _) (Has.same (by rw [f6.size]; omega)) (by simp)
 ·have hrb : r = !b := by cases r <;> cases b <;> simp_all
  subst hrb
  refine step_out q2.2 hj m1 ?_
  rw [q2.1]
  have f2 := f1.put (d := d + 1) (by omega) undef
  have g2 : Has (a1.put (some (d + 1)) undef) d (.bool (!b)) := m1.far (by omega)
  generalize a1.put (some (d + 1)) undef = a2 at *
  refine step_out q3.2 hj g2 ?_
  rw [q3.1]
  have f3 := f2.put (d := d + 2) (by omega) undef
  have g3 : Has (a2.put (some (d + 2)) undef) d (.bool (!b)) := g2.far (by omega)
  generalize a2.put (some (d + 2)) undef = a3 at *
  refine step_out q4.2 hj g3 ?_
  rw [q4.1]
  have f4 := f3.put (d := d + 3) (by omega) undef
  have g4 : Has (a3.put (some (d + 3)) undef) d (.bool (!b)) := g3.far (by omega)
  generalize a3.put (some (d + 3)) undef = a4 at *
  refine step_out q5.2 hj g4 ?_
  rw [q5.1]
  have f5 := f4.put (d := d + 4) (by omega) undef
  have g5 : Has (a4.put (some (d + 4)) undef) d (.bool (!b)) := g4.far (by omega)
  generalize a4.put (some (d + 4)) undef = a5 at *
  refine step_out q6.2 hj g5 ?_
  rw [q6.1]
  have f6 := f5.put (d := d + 5) (by omega) undef
  have g6 : Has (a5.put (some (d + 5)) undef) d (.bool (!b)) := g5.far (by omega)
  generalize a5.put (some (d + 5)) undef = a6 at *
  refine step_val q7.2 ((x7 _ (fun _ => rfl)).2 g6.eval) ?_
  rw [q7.1]
  exact h _ (!b) (f6.put (by omega) _) (Has.same (by rw [f6.size]; omega)) (by simp)
theorem cmp_first (hd : d + 4 < n) (hn : a.tmps.size = n) {P1 P2 : Value} (h2 : Has a 2 P1) (h3 : Has a 3 P2) (hp2 : 3 < d)
  (q2 : o2.dst = some d ∧ o2.guard = none) (q3 : o3.dst = some (d + 1) ∧ o3.guard = none) (q4 : o4.dst = some (d + 2) ∧ o4.guard = none) (q5 : o5.dst = some (d + 3) ∧ o5.guard = none) (q6 : o6.dst = some (d + 4) ∧ o6.guard = none)
  (x2 : ∀ ρ : Operand → Value, ρ (.tmp 2) = P1 → (execOp ρ o2).run P W = .ok (.value A1) W) (x3 : ∀ ρ : Operand → Value, ρ (.tmp d) = A1 → (execOp ρ o3).run P W = .ok (.value v1) W)
  (x4 : ∀ ρ : Operand → Value, ρ (.tmp 3) = P2 → (execOp ρ o4).run P W = .ok (.value A2) W) (x5 : ∀ ρ : Operand → Value, ρ (.tmp (d + 2)) = A2 → (execOp ρ o5).run P W = .ok (.value v2) W)
  (x6 : ∀ ρ : Operand → Value, ρ (.tmp (d + 1)) = v1 → ρ (.tmp (d + 3)) = v2 → (execOp ρ o6).run P W = .ok (.value (.bool e)) W)
  (h : ∀ a', Fr n d a a' → Has a' (d + 4) (.bool e) → wpList P ops Q rest a' W) : wpList P ops Q (o2 :: o3 :: o4 :: o5 :: o6 :: rest) a W := by
 have f1 : Fr n d a a := Fr.refl hn
 refine step_val q2.2 (x2 _ h2.eval) ?_
 rw [q2.1]
 have f2 := f1.put (d := d) (by omega) A1
 have m2 : Has (a.put (some d) A1) d A1 := Has.same (by omega)
 generalize a.put (some d) A1 = a2 at *
 refine step_val q3.2 (x3 _ m2.eval) ?_
 rw [q3.1]
 have f3 := f2.put (d := d + 1) (by omega) v1
 have m3 : Has (a2.put (some (d + 1)) v1) (d + 1) v1 := Has.same (by rw [f2.size]; omega)
 generalize a2.put (some (d + 1)) v1 = a3 at *
 refine step_val q4.2 (x4 _ (f3.old 3 _ (by omega) h3).eval) ?_
 rw [q4.1]
 have f4 := f3.put (d := d + 2) (by omega) A2
 have m4 : Has (a3.put (some (d + 2)) A2) (d + 2) A2 := Has.same (by rw [f3.size]; omega)
 have k4 : Has (a3.put (some (d + 2)) A2) (d + 1) v1 := m3.far (by omega)
 generalize a3.put (some (d + 2)) A2 = a4 at *
 refine step_val q5.2 (x5 _ m4.eval) ?_
 rw [q5.1]
 have f5 := f4.put (d := d + 3) (by omega) v2
 have m5 : Has (a4.put (some (d + 3)) v2) (d + 3) v2 := Has.same (by rw [f4.size]; omega)
 have k5 : Has (a4.put (some (d + 3)) v2) (d + 1) v1 := k4.far (by omega)
 generalize a4.put (some (d + 3)) v2 = a5 at *
 refine step_val q6.2 (x6 _ k5.eval m5.eval) ?_
 rw [q6.1]
 exact h _ (f5.put (by omega) _) (Has.same (by rw [f5.size]; omega))
theorem call_block {f : FuncId} {fn : Func} {ts : Array TypeId} {p' : Prop} (hf : P.funcs[f]? = some fn) (hname : (fn.name == "runtime.NumGoroutine") = false) (hb : fn.body.isSome = true) (hd : d + 6 < n) (hn : a.tmps.size = n) (hp : Has a p (.bool r)) {P1 P2 : Value} (h2 : Has a 2 P1) (h3 : Has a 3 P2) (hp2 : 3 < d) (hpd : p < d)
  (q1 : o1.op = .move (.tmp p) ∧ o1.dst = some d ∧ o1.guard = none) (q2 : o2.dst = some (d + 1) ∧ o2.guard = some (j, true)) (q3 : o3.dst = some (d + 2) ∧ o3.guard = some (j, true)) (q4 : o4.dst = some (d + 3) ∧ o4.guard = some (j, true)) (q5 : o5.dst = some (d + 4) ∧ o5.guard = some (j, true)) (q6 : o6.dst = some (d + 5) ∧ o6.guard = some (j, true)) (q7 : o7.dst = some (d + 6) ∧ o7.guard = none) (hj : (ops[j]?.bind (·.dst)) = some d)
  (x2 : ∀ ρ : Operand → Value, ρ (.tmp 2) = P1 → (execOp ρ o2).run P W = .ok (.value A1) W) (x3 : ∀ ρ : Operand → Value, ρ (.tmp (d + 1)) = A1 → (execOp ρ o3).run P W = .ok (.value v1) W)
  (x4 : ∀ ρ : Operand → Value, ρ (.tmp 3) = P2 → (execOp ρ o4).run P W = .ok (.value A2) W) (x5 : ∀ ρ : Operand → Value, ρ (.tmp (d + 3)) = A2 → (execOp ρ o5).run P W = .ok (.value v2) W)
  (x6 : o6.op = .call { callee := .value (.func f), args := #[.tmp (d + 2), .tmp (d + 4)], argTypes := ts }) (hC : Calls P f #[v1, v2] W (IsEq p' W))
  (x7 : ∀ (ρ : Operand → Value) (e : Bool) (W : World), (∀ v, ρ (.const v) = v) → (ρ (.tmp d) = .bool true → ρ (.tmp (d + 5)) = .bool e → (execOp ρ o7).run P W = .ok (.value (.bool e)) W) ∧ (ρ (.tmp d) = .bool false → (execOp ρ o7).run P W = .ok (.value (.bool false)) W))
  (h : ∀ a' r' W', Fr n d a a' → Has a' (d + 6) (.bool r') → (r' = true ↔ r = true ∧ p') → Drawn0 W W' → wpList P ops Q rest a' W') : wpList P ops Q (o1 :: o2 :: o3 :: o4 :: o5 :: o6 :: o7 :: rest) a W := by
 refine step_val q1.2.2 (v := .bool r) (w1 := W) ?_ ?_
 ·unfold execOp; simp only [q1.1, hp.eval]; rfl
 rw [q1.2.1]
 have f1 : Fr n d a (a.put (some d) (.bool r)) := (Fr.refl hn).put (Nat.le_refl _) _
 have m1 : Has (a.put (some d) (.bool r)) d (.bool r) := Has.same (by omega)
 generalize a.put (some d) (.bool r) = a1 at *
 cases r
 ·refine step_out q2.2 hj m1 ?_
  rw [q2.1]
  have f2 := f1.put (d := d + 1) (by omega) undef
  have g2 : Has (a1.put (some (d + 1)) undef) d (.bool false) := m1.far (by omega)
  generalize a1.put (some (d + 1)) undef = a2 at *
  refine step_out q3.2 hj g2 ?_
  rw [q3.1]
  have f3 := f2.put (d := d + 2) (by omega) undef
  have g3 : Has (a2.put (some (d + 2)) undef) d (.bool false) := g2.far (by omega)
  generalize a2.put (some (d + 2)) undef = a3 at *
  refine step_out q4.2 hj g3 ?_
  rw [q4.1]
  have f4 := f3.put (d := d + 3) (by omega) undef
  have g4 : Has (a3.put (some (d + 3)) undef) d (.bool false) := g3.far (by omega)
  generalize a3.put (some (d + 3)) undef = a4 at *
  refine step_out q5.2 hj g4 ?_
  rw [q5.1]
  have f5 := f4.put (d := d + 4) (by omega) undef
  have g5 : Has (a4.put (some (d + 4)) undef) d (.bool false) := g4.far (by omega)
  generalize a4.put (some (d + 4)) undef = a5 at *
  refine step_out q6.2 hj g5 ?_
  rw [q6.1]
  have f6 := f5.put (d := d + 5) (by omega) undef
  have g6 : Has (a5.put (some (d + 5)) undef) d (.bool false) := g5.far (by omega)
  generalize a5.put (some (d + 5)) undef = a6 at *
  refine step_val q7.2 ((x7 _ false W (fun _ => rfl)).2 g6.eval) ?_
  rw [q7.1]
  exact h _ false W (f6.put (by omega) _) (Has.same (by rw [f6.size]; omega)) (by simp) (Drawn0.refl _)
 ·refine step_in q2.2 hj m1 (x2 _ (f1.old 2 _ (by omega) h2).eval) ?_
  rw [q2.1]
  have f2 := f1.put (d := d + 1) (by omega) A1
  have m2 : Has (a1.put (some (d + 1)) A1) (d + 1) A1 := Has.same (by rw [f1.size]; omega)
  have g2 : Has (a1.put (some (d + 1)) A1) d (.bool true) := m1.far (by omega)
  generalize a1.put (some (d + 1)) A1 = a2 at *
  refine step_in q3.2 hj g2 (x3 _ m2.eval) ?_
  rw [q3.1]
  have f3 := f2.put (d := d + 2) (by omega) v1
  have m3 : Has (a2.put (some (d + 2)) v1) (d + 2) v1 := Has.same (by rw [f2.size]; omega)
  have g3 : Has (a2.put (some (d + 2)) v1) d (.bool true) := g2.far (by omega)
  generalize a2.put (some (d + 2)) v1 = a3 at *
  refine step_in q4.2 hj g3 (x4 _ (f3.old 3 _ (by omega) h3).eval) ?_
  rw [q4.1]
  have f4 := f3.put (d := d + 3) (by omega) A2
  have m4 : Has (a3.put (some (d + 3)) A2) (d + 3) A2 := Has.same (by rw [f3.size]; omega)
  have g4 : Has (a3.put (some (d + 3)) A2) d (.bool true) := g3.far (by omega)
  have k4 : Has (a3.put (some (d + 3)) A2) (d + 2) v1 := m3.far (by omega)
  generalize a3.put (some (d + 3)) A2 = a4 at *
  refine step_in q5.2 hj g4 (x5 _ m4.eval) ?_
  rw [q5.1]
  have f5 := f4.put (d := d + 4) (by omega) v2
  have m5 : Has (a4.put (some (d + 4)) v2) (d + 4) v2 := Has.same (by rw [f4.size]; omega)
  have g5 : Has (a4.put (some (d + 4)) v2) d (.bool true) := g4.far (by omega)
  have k5 : Has (a4.put (some (d + 4)) v2) (d + 2) v1 := k4.far (by omega)
  generalize a4.put (some (d + 4)) v2 = a5 at *
  refine gate_guard ?_ ?_
  ·unfold Region.wanted yielded
   rw [q6.2]
   simp only [hj, Option.bind_some]
   rw [show a5.tmps[d]? = _ from g5]
   rfl
  refine goesL_ (some (d + 5)) q6.1 rfl hf hname hb #[v1, v2] x6 (by simp [k5.eval, m5.eval]) (hC.mono ?_)
  rintro e w' ⟨r', rfl, hr', hD⟩
  refine ⟨_, rfl, ?_⟩
  have f6 := f5.put (d := d + 5) (by omega) (.bool r')
  have m6 : Has (a5.put (some (d + 5)) (.bool r')) (d + 5) (.bool r') := Has.same (by rw [f5.size]; omega)
  have g6 : Has (a5.put (some (d + 5)) (.bool r')) d (.bool true) := g5.far (by omega)
  generalize a5.put (some (d + 5)) (.bool r') = a6 at *
  refine step_val q7.2 ((x7 _ r' w' (fun _ => rfl)).1 g6.eval m6.eval) ?_
  rw [q7.1]
  exact h _ r' w' (f6.put (by omega) _) (Has.same (by rw [f6.size]; omega)) (by simp [hr']) hD
end
end Go.Proofs.Ytcbehfbfaonanaa.Wr
end
section
namespace Go.Proofs.Ytcbehfbfaonanaa.PFr
open Go.RowKit Go.Proofs.YtcbehfbfaonanaaW.PrintWords Go.Proofs.YtcbehfbfaonanaaW.PrintLast Go.Proofs.YtcbehfbfaonanaaW.PrintMore
attribute [local go_sem] max2_int min2_int max_two min_two max_three min_three max_four min_four
set_option linter.unusedVariables false
set_option linter.unusedSimpArgs false
def errW : Option Int → Value
 | none => .nilIface
 | some c => .iface 0 (.int .i64 c)
theorem errW_none : errW none = .nilIface := rfl
theorem errW_some (c : Int) : errW (some c) = .iface 0 (.int .i64 c) := rfl
theorem info5 : (Try.prog.info? 5).map (fun i => (i.zero, i.size, i.bytes)) = some (some (.int .u8 0), 1, 1) := by kernel_rfl
theorem info98 : (Try.prog.info? 98).map (fun i => (i.zero, i.size, i.bytes)) = some (some (.agg #[(.int .i64 0), (.int .i64 0), (.string ⟨#[]⟩)]), 3, 32) := by kernel_rfl
structure S24 where
 f0 : Int
 f1 : Int
def z24 : S24 := ⟨(0 : Int), (0 : Int)⟩
def k24 : Kd S24 := Kd.iso (Kd.pair (Kd.int .i64) (Kd.int .i64)) (fun x : S24 => (x.f0, x.f1))
theorem k24_open {w : World} {x : S24} {cs : List Value} (h : k24.K w x cs) : cs = [.int .i64 x.f0, .int .i64 x.f1] := by
 obtain ⟨_, _, rfl, rfl, rfl⟩ := h
 exact rfl
theorem k24_mkM (w : World) (base : Nat) (ok : Nat → Prop) (x : S24)  : k24.M w base ok x [.int .i64 x.f0, .int .i64 x.f1] := ⟨[.int .i64 x.f0], [.int .i64 x.f1], rfl, rfl, rfl⟩
def rd_T24 (xs : List S24) (i : Int) : S24 := xs.getD i.toNat z24
theorem at_T24 {w : World} {A : Option Addr} {n : Nat} {xs : List S24} (h : Kd.C k24 w A n xs) (i : Int) (h0 : 0 ≤ i) (h1 : i < n) : ∃ ad , A = some ad ∧ w.cell? (ad.add (i.toNat * 2)) = some (.int .i64 (rd_T24 xs i).f0) ∧ w.cell? ⟨(ad.add (i.toNat * 2)).block, (ad.add (i.toNat * 2)).off + 1, none⟩ = some (.int .i64 (rd_T24 xs i).f1) := by
 obtain ⟨ad, c, e, _, hK, hc0⟩ := Kd.C_get h z24 i h0 h1
 have hc : ∀ j u, c[j]? = some u → w.cell? (ad.add (i.toNat * 2 + j)) = some u := hc0
 obtain rfl := k24_open hK
 exact ⟨ad, e, hc 0 _ rfl, by rw [← add_field _ _ 1 (by omega)]; exact hc 1 _ rfl⟩
structure S66 where
 f0 : S24
 f1 : Int
 f2 : Int
 f3 : ByteArray
 f4 : Bool
 f5 : ByteArray
def k66 : Kd S66 := Kd.iso (Kd.pair k24 (Kd.pair (Kd.int .i64) (Kd.pair (Kd.int .i64) (Kd.pair Kd.string (Kd.pair Kd.bool Kd.string))))) (fun x : S66 => (x.f0, x.f1, x.f2, x.f3, x.f4, x.f5))
def rd_L10 (xs : List (List Int)) (i : Int) : (List Int) := xs.getD i.toNat ([] : List Int)
theorem at_L10 {w : World} {A : Option Addr} {n : Nat} {xs : List (List Int)} (h : Kd.C (Kd.slice 5 (Kd.int .u8)) w A n xs) (i : Int) (h0 : 0 ≤ i) (h1 : i < n) : ∃ ad A0 c0, A = some ad ∧ w.cell? (ad.add i.toNat) = some (.slice A0 (rd_L10 xs i).length c0) ∧ (rd_L10 xs i).length ≤ c0 ∧ (Kd.int .u8).C w A0 (rd_L10 xs i).length (rd_L10 xs i) := by
 obtain ⟨ad, c, e, _, hK, hc0⟩ := Kd.C_get h ([] : List Int) i h0 h1
 have hc : ∀ j u, c[j]? = some u → w.cell? (ad.add (i.toNat * 1 + j)) = some u := hc0
 obtain ⟨A0, c0, rfl, l0, g0⟩ := hK
 exact ⟨ad, A0, c0, e, by have hq := hc 0 _ rfl; rwa [Nat.mul_one, Nat.add_zero] at hq, l0, g0⟩
structure S98 where
 f0 : Int
 f1 : Int
 f2 : ByteArray
def z98 : S98 := ⟨(0 : Int), (0 : Int), (⟨#[]⟩ : ByteArray)⟩
def k98 : Kd S98 := Kd.iso (Kd.pair (Kd.int .i64) (Kd.pair (Kd.int .i64) Kd.string)) (fun x : S98 => (x.f0, x.f1, x.f2))
theorem k98_open {w : World} {x : S98} {cs : List Value} (h : k98.K w x cs) : cs = [.int .i64 x.f0, .int .i64 x.f1, .string x.f2] := by
 obtain ⟨_, _, rfl, rfl, ⟨_, _, rfl, rfl, rfl⟩⟩ := h
 exact rfl
theorem k98_mkM (w : World) (base : Nat) (ok : Nat → Prop) (x : S98)  : k98.M w base ok x [.int .i64 x.f0, .int .i64 x.f1, .string x.f2] := ⟨[.int .i64 x.f0], [.int .i64 x.f1, .string x.f2], rfl, rfl, ⟨[.int .i64 x.f1], [.string x.f2], rfl, rfl, rfl⟩⟩
def rd_T98 (xs : List S98) (i : Int) : S98 := xs.getD i.toNat z98
theorem at_T98 {w : World} {A : Option Addr} {n : Nat} {xs : List S98} (h : Kd.C k98 w A n xs) (i : Int) (h0 : 0 ≤ i) (h1 : i < n) : ∃ ad , A = some ad ∧ w.cell? (ad.add (i.toNat * 3)) = some (.int .i64 (rd_T98 xs i).f0) ∧ w.cell? ⟨(ad.add (i.toNat * 3)).block, (ad.add (i.toNat * 3)).off + 1, none⟩ = some (.int .i64 (rd_T98 xs i).f1) ∧ w.cell? ⟨(ad.add (i.toNat * 3)).block, (ad.add (i.toNat * 3)).off + 2, none⟩ = some (.string (rd_T98 xs i).f2) := by
 obtain ⟨ad, c, e, _, hK, hc0⟩ := Kd.C_get h z98 i h0 h1
 have hc : ∀ j u, c[j]? = some u → w.cell? (ad.add (i.toNat * 3 + j)) = some u := hc0
 obtain rfl := k98_open hK
 exact ⟨ad, e, hc 0 _ rfl, by rw [← add_field _ _ 1 (by omega)]; exact hc 1 _ rfl, by rw [← add_field _ _ 2 (by omega)]; exact hc 2 _ rfl⟩
end Go.Proofs.Ytcbehfbfaonanaa.PFr
end
