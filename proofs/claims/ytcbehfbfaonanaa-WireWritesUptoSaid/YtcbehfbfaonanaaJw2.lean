/- Part 3 of the texts that walk the program and tell its laws, joined in the order of their building. No conditions. -/
import Derived.Test.YtcbehfbfaonanaaJw1
import Derived.Test.YtcbehfbfaonanaaJw0
import Derived.Outline
import Derived.Deep.MidRow
import Derived.Deep.WholeRow
import Derived.Deep.LoopGhost
import Derived.Deep.QuietTactic
import Derived.BigQuiet
import Derived.Test.YtcbehfbfaonanaaProg
import Derived.Below
import Derived.Deep.Draws
import Derived.Deep.AppendLies
import Derived.Maps.AppendAt
import Derived.OwnWalk
import Derived.Laws.BytesArg
import Derived.Laws.MakeOwn
import Derived.Laws.OwnMore
import Derived.Deep.OwnRows
import Derived.Tactics
import Derived.Lib.ConvBytes
import Derived.Laws.Slices
import Derived.WalkKit
import Derived.KernelRfl
import Derived.RowKit3
import Derived.WideLaws
import Derived.Deep.DeepCutAuto
import Derived.Deep.CutBlock
import Derived.Deep.RegionHeld3
import Derived.Laws.Rows
import Derived.Lib.AppendStr
import Derived.ArgAppend
import Derived.Laws.IdiomCopy
import Derived.OrdersHeld
import Derived.Laws.BitsLemmas
import Derived.RowKit
import Derived.Lib.SlBytesConst
set_option maxRecDepth 100000
set_option maxHeartbeats 16000000
section
namespace Go.Proofs.Ytcbehfbfaonanaa.Wr
open Go.RowKit Go.Proofs.YtcbehfbfaonanaaW.PrintWords Go.Proofs.YtcbehfbfaonanaaW.PrintLast Go.Proofs.YtcbehfbfaonanaaW.PrintMore Go.Proofs.Ytcbehfbfaonanaa.Pk
set_option linter.unusedVariables false
set_option linter.unusedSimpArgs false
def Step.pos : Step → Bool
 | .row i _ => decide (0 < i)
 | _ => true
theorem run_c0 (F : Form) : ∀ (ts : List Step) (s : F.σ) (m : M), ts.all Step.pos = true → (F.run s m ts).2.c 0 = m.c 0
 | [], s, m, _ => rfl
 | t :: ts, s, m, h => by
  simp only [List.all_cons, Bool.and_eq_true] at h
  refine (run_c0 F ts _ _ h.2).trans ?_
  cases t with
  | row i fs => exact zkp (by simpa [Step.pos] using h.1)
  | most => exact zkp (by omega)
  | lst j fs n => rfl
variable {F : Form} {s0 s sF : F.σ} {w0 w : World} {b : Nat} {A : Nat → Prop} {K : Value} {c C : Nat} {m mF : M} {ts us : List Step}
theorem Stand.whole' {KP : Value → Prop} {k : FuncId} (hk : zdv k ts KP) (h : Stand F s0 w0 b A K C sF mF (ts ++ us) w) (hF : F.Good) (hr : F.room s0 + C ≤ cap) (hKP : KP K) (hp : ts.all Step.pos = true) :
  Calls Try.prog k #[.iface F.ty F.v, .pointer (some ⟨b, 0, none⟩)] w (zey F s0 w0 b A K C sF mF us) := by
 obtain ⟨s, c, m, h1, h2, h3, h4⟩ := h
 rw [zgf] at h3
 rw [zjs] at h4
 obtain ⟨cs, q1, q2, q3, q4⟩ := h1.blk
 have hA : MAt F s w b (fun k => (A k ∨ w0.heap.size ≤ k) ∧ k < w.heap.size) s 0 m w := by
  refine ⟨h1.inv, fun _ _ h => h, by omega, h1.no, Only.refl _ _, h1.typed, cs, q1, q2, q3, fun j fs hj => ?_⟩
  obtain ⟨hf, sv, g1, g2, g3⟩ := q4 j fs hj
  exact ⟨hf, sv, g1, g2, fun k hk h0 => ⟨(g3 k hk h0).1, (g3 k hk h0).2.1, .inl ⟨(g3 k hk h0).2.2.1, g2.lt hk h0⟩, (g3 k hk h0).2.2.2⟩⟩
 refine (hk F hF s w b _ m (fun k h => h.2) hA (h2 ▸ hKP) (by have := h1.room; omega)).mono ?_
 rintro e w' ⟨rfl, hS⟩
 refine ⟨rfl, _, c + F.runCost s m ts, _, ?_, (run_c0 F ts s m hp).trans h2, by omega, h4⟩
 obtain ⟨cs', r1, r2, r3, r4⟩ := hS.blk
 refine ⟨hS.inv, fun q hq ho => h1.own q hq (hS.own q (Nat.lt_of_lt_of_le hq h1.only.size) ho), by have := h1.room; have := hS.room; omega, hS.no, h1.only.trans hS.only ?_, hS.typed, cs', r1, r2, r3, fun j fs hj => ?_⟩
 ·intro i hi hs
  rcases hs with hs | hs | hs
  ·exact .inl (h1.own i hi hs)
  ·exact .inr (.inl hs)
  ·rcases hs.1 with ha | ha
   ·exact .inr (.inr ha)
   ·omega
 ·obtain ⟨hf, sv, g1, g2, g3⟩ := r4 j fs hj
  refine ⟨hf, sv, g1, g2, fun k hk h0 => ⟨(g3 k hk h0).1, (g3 k hk h0).2.1, ?_, (g3 k hk h0).2.2.2⟩⟩
  rcases (g3 k hk h0).2.2.1 with hA | hA
  ·exact hA.1
  ·exact .inr (Nat.le_trans h1.only.size hA)
theorem Stand.most (h : Stand F s0 w0 b A K C sF mF (.most :: ts) w) : ∃ x : Int, w.cell? ⟨b, 6, none⟩ = some (.int .i64 x) ∧ (F.Good → F.room s0 + C ≤ cap →
  Calls Try.prog (F.k 0) #[F.v, .pointer (some ⟨b, 7, none⟩), .int .i64 (if 1 < x then x else 1), .int .i64 128] w.drew (fun e w' => e = .returned (.tuple #[]) ∧ Stand F s0 w0 b A K C sF mF ts w' ∧ w'.cell? ⟨b, 6, none⟩ = some (.int .i64 x))) := by
 obtain ⟨s, c, m, h1, h2, h3, h4⟩ := h
 obtain ⟨x, hx⟩ := h1.typed 6 rfl
 refine ⟨x, by rw [← hx]; exact (h1.kind rfl).1, fun hF hr => ?_⟩
 obtain ⟨y, hy⟩ := h1.typed 7 rfl
 have h1' := h1.drew hF
 obtain ⟨cs, k1, k2, k3, _⟩ := h1'.blk
 have := hF.num_c s w.drew b 7 cs _ y (if 1 < x then x else 1) 128 h1'.inv h1'.no (by have := h1'.room; simp only [Form.runCost, Form.stepCost] at h3; omega) k2 (by rw [← hy]; exact k3 7 rfl)
 refine this.mono ?_
 rintro e w' ⟨rfl, hS⟩
 have hR := h1'.rowDid (i := 7) (fs := [.num (if 1 < x then x else 1) 128]) rfl (d := 8) (w1 := w') (by simpa [zaq, hy, Form.row, Form.fld, zbt] using hS)
 refine ⟨rfl, ⟨_, _, _, hR, (zkp (by omega)).trans h2, ?_, ?_⟩, ?_⟩
 ·rw [← h3]; simp only [Form.runCost, Form.stepCost, Form.step, hx, zgd]; omega
 ·rw [← h4]; simp only [Form.run, Form.step, hx, zgd]
 ·rw [(hR.kind (i := 6) rfl).1]
  simp only [Form.rowM, zdy]
  rw [if_neg (by omega), hx]
def ziv : List Step := [.row 4 posF, .row 6 [.num 1 128], .most, .lst 8 zat 8, .lst 9 zau 8]
theorem part_c : zdv 67 ziv (fun _ => True) := by
 intro F hF s w b A m hAl h _ hr
 have hmf : ∀ (fn : Fn) (first cap : Array Value) (w : World), (Instr.makeFunc fn first cap).run Try.prog w = .ok (.func fn first cap) w := fun _ _ _ _ => rfl
 have HA := hF.ahead 0 "meridian/wire.num" (by decide) rfl
 have HM := hF.method 0 "meridian/wire.num" (by decide) rfl
 have HE := hF.enter 0 (by decide)
 obtain ⟨cs0, hb0⟩ : ∃ cs0, w.heap[b]? = some (.cells cs0 35 (0, 0)) := let ⟨cs, _, h2, _⟩ := h.blk; ⟨cs, h2⟩
 have HGb := aK (show w.heap.size ≠ b from fun e => by have := zad hb0; omega)
 have HGA := aK (show ¬ A w.heap.size from fun e => by have := hAl _ e; omega)
 have HGo := aK (show ¬ F.own (w.alloc (.cells #[.iface F.ty F.v] 114)).heap w.heap.size from fun e => by have := hF.lt h.inv (zbn hF h.inv _ _ e); omega)
 have cg0 : (w.alloc (.cells #[.iface F.ty F.v] 114)).cell? ⟨w.heap.size, 0, none⟩ = some (.iface F.ty F.v) := by rw [World.cell?_alloc_at _ _ _ _ rfl]; rfl
 have S0 := aK (Stand.start (h.alloc hF (.cells #[.iface F.ty F.v] 114)) ziv)
 have HCg := aK cg0
 have HR := aK hr
 have HG := aK hF
 suffices hsuf : Calls Try.prog 67 #[.iface F.ty F.v, .pointer (some ⟨b, 0, none⟩)] w (MOn F s (w.alloc (.cells #[.iface F.ty F.v] 114)) b A (F.run s m ziv).1 (F.runCost s m ziv) (F.run s m ziv).2) from hsuf.mono (fun e w' H => H.unalloc hF h.inv)
 generalize (F.run s m ziv).1 = sF at *
 generalize (F.run s m ziv).2 = mF at *
 generalize F.runCost s m ziv = C at *
 generalize m.c 0 = K at *
 clear h hr hF hAl hb0 cs0
 have C1 := aK (S0.out.rowC HG.out HR.out zhy rfl (by omega))
 go_enter Try.func67, Try.ntmps67
 go_wp2
 go_region_held3 (fun W => W.cell? ⟨w.heap.size, 0, none⟩ = some (.iface F.ty F.v)) (go_keep) (((with_reducible refine C1.out.mono ?_); rintro e w1 ⟨rfl, H⟩; have cg1 := H.cell HGo.out HGb.out HGA.out HCg.out; have S1 := aK H; clear H))
 have C2 := aK (S1.out.num HG.out HR.out rfl (by omega))
 go_wp2
 go_region_held3 (fun W => W.cell? ⟨w.heap.size, 0, none⟩ = some (.iface F.ty F.v)) (go_keep) (((with_reducible refine C2.out.mono ?_); rintro e w2 ⟨rfl, H⟩; have cg2 := H.cell HGo.out HGb.out HGA.out HCg.out; have S2 := aK H; clear H))
 obtain ⟨x, cx, CM⟩ := S2.out.most
 have C3t := CM HG.out HR.out
 obtain ⟨y, hy⟩ : ∃ y : Int, (if 1 < x then x else 1) = y := ⟨_, rfl⟩
 rw [hy] at C3t
 have C3 := aK C3t
 clear C3t
 have cx' : w2.drew.cell? ⟨b, 6, none⟩ = some (.int .i64 x) := cx
 clear CM
 go_wp2
 go_region_held3 (fun W => W.cell? ⟨w.heap.size, 0, none⟩ = some (.iface F.ty F.v) ∧ W.cell? ⟨b, 6, none⟩ = some (.int .i64 x)) (go_keep) (((with_reducible refine C3.out.mono ?_); rintro e w3 ⟨rfl, H, cx3⟩; have cg3 := H.cell HGo.out HGb.out HGA.out HCg.out; have S3 := aK H; clear H))
 all_goals
  have C4 := aK (S3.out.lst HG.out HR.out listP_c (by omega) (by simp [zah]) HGo.out HGb.out HGA.out HCg.out)
  go_wp2
  go_region_held3 (fun W => W.cell? ⟨w.heap.size, 0, none⟩ = some (.iface F.ty F.v)) (go_keep) (((with_reducible refine C4.out.mono ?_); rintro e w4 ⟨rfl, H⟩; have cg4 := H.cell HGo.out HGb.out HGA.out HCg.out; have S4 := aK H; clear H))
  have C5 := aK (S4.out.lst HG.out HR.out listS_c (by omega) (by simp [zah]) HGo.out HGb.out HGA.out HCg.out)
  go_wp2
  go_region_held3 (fun W => W.cell? ⟨w.heap.size, 0, none⟩ = some (.iface F.ty F.v)) (go_keep) (((with_reducible refine C5.out.mono ?_); rintro e w5 ⟨rfl, H⟩; have cg5 := H.cell HGo.out HGb.out HGA.out HCg.out; have S5 := aK H; clear H))
  go_wp2
  go_end0
  exact S5.out.done
def zal (n : Int) : List Step :=
 if n = 1 then [.lst 3 zak 8] else if n = 2 then [.row 11 posF] else if n = 3 then ziv ++ [] else if n = 4 then [.lst 10 zaj 64] else if n = 5 then [.row 11 posF, .row 13 [.flag]]
 else if n = 7 then whoS ++ [.row 16 [.text 64], .row 19 posF] else if n = 8 then whoS ++ [.row 16 [.text 64], .row 17 [.flag], .row 18 [.text 1024], .row 19 posF]
 else if n = 9 then whoS ++ (zhm ++ [.row 22 zdm, .row 11 posF, .row 19 posF]) else if n = 10 then whoS ++ (zhm ++ [.row 4 posF, .row 19 posF]) else []
theorem zrq : zdv 41 (zal 1) (fun v => v = .int .i64 1) := by
 intro F hF s w b A m hAl h hK hr
 have hmf : ∀ (fn : Fn) (first cap : Array Value) (w : World), (Instr.makeFunc fn first cap).run Try.prog w = .ok (.func fn first cap) w := fun _ _ _ _ => rfl
 obtain ⟨cs0, hb0⟩ : ∃ cs0, w.heap[b]? = some (.cells cs0 35 (0, 0)) := let ⟨cs, _, h2, _⟩ := h.blk; ⟨cs, h2⟩
 have HGb := aK (show w.heap.size ≠ b from fun e => by have := zad hb0; omega)
 have HGA := aK (show ¬ A w.heap.size from fun e => by have := hAl _ e; omega)
 have HGo := aK (show ¬ F.own (w.alloc (.cells #[.iface F.ty F.v] 114)).heap w.heap.size from fun e => by have := hF.lt h.inv (zbn hF h.inv _ _ e); omega)
 have cg0 : (w.alloc (.cells #[.iface F.ty F.v] 114)).cell? ⟨w.heap.size, 0, none⟩ = some (.iface F.ty F.v) := by rw [World.cell?_alloc_at _ _ _ _ rfl]; rfl
 have S0 := aK (Stand.start (h.alloc hF (.cells #[.iface F.ty F.v] 114)) (zal 1))
 rw [hK] at S0
 have HCg := aK cg0
 have HR := aK hr
 have HG := aK hF
 have ck0 := S0.out.kind
 have HBl := aK (zad hb0)
 have ck00 : w.cell? ⟨b, 0, none⟩ = some (.int .i64 1) := ((World.cell?_alloc_past _ _ _ HBl.out).symm.trans ck0)
 suffices hsuf : Calls Try.prog 41 #[.iface F.ty F.v, .pointer (some ⟨b, 0, none⟩)] w (MOn F s (w.alloc (.cells #[.iface F.ty F.v] 114)) b A (F.run s m (zal 1)).1 (F.runCost s m (zal 1)) (F.run s m (zal 1)).2) from hsuf.mono (fun e w' H => H.unalloc hF h.inv)
 generalize (F.run s m (zal 1)).1 = sF at *
 generalize (F.run s m (zal 1)).2 = mF at *
 generalize F.runCost s m (zal 1) = C at *
 clear h hr hF hAl hb0 cs0 hK
 have S0 := aK (show Stand F s (w.alloc (.cells #[.iface F.ty F.v] 114)) b A (.int .i64 1) C sF mF [.lst 3 zak 8] (w.alloc (.cells #[.iface F.ty F.v] 114)) from S0.out)
 go_enter Try.func41, Try.ntmps41
 have C0 := aK (S0.out.lst HG.out HR.out listE_c (by omega) (by simp [zah]) HGo.out HGb.out HGA.out HCg.out)
 go_wp2
 go_region_held3 (fun W => W.cell? ⟨w.heap.size, 0, none⟩ = some (.iface F.ty F.v)) (go_keep) (((with_reducible refine C0.out.mono ?_); rintro e w1 ⟨rfl, H⟩; have cg1 := H.cell HGo.out HGb.out HGA.out HCg.out; have ck1 := H.kind; have S1 := aK H; clear H))
 go_wp2
 go_end0
 exact S1.out.done
theorem zrr : zdv 41 (zal 2) (fun v => v = .int .i64 2) := by
 intro F hF s w b A m hAl h hK hr
 have hmf : ∀ (fn : Fn) (first cap : Array Value) (w : World), (Instr.makeFunc fn first cap).run Try.prog w = .ok (.func fn first cap) w := fun _ _ _ _ => rfl
 obtain ⟨cs0, hb0⟩ : ∃ cs0, w.heap[b]? = some (.cells cs0 35 (0, 0)) := let ⟨cs, _, h2, _⟩ := h.blk; ⟨cs, h2⟩
 have HGb := aK (show w.heap.size ≠ b from fun e => by have := zad hb0; omega)
 have HGA := aK (show ¬ A w.heap.size from fun e => by have := hAl _ e; omega)
 have HGo := aK (show ¬ F.own (w.alloc (.cells #[.iface F.ty F.v] 114)).heap w.heap.size from fun e => by have := hF.lt h.inv (zbn hF h.inv _ _ e); omega)
 have cg0 : (w.alloc (.cells #[.iface F.ty F.v] 114)).cell? ⟨w.heap.size, 0, none⟩ = some (.iface F.ty F.v) := by rw [World.cell?_alloc_at _ _ _ _ rfl]; rfl
 have S0 := aK (Stand.start (h.alloc hF (.cells #[.iface F.ty F.v] 114)) (zal 2))
 rw [hK] at S0
 have HCg := aK cg0
 have HR := aK hr
 have HG := aK hF
 have ck0 := S0.out.kind
 have HBl := aK (zad hb0)
 have ck00 : w.cell? ⟨b, 0, none⟩ = some (.int .i64 2) := ((World.cell?_alloc_past _ _ _ HBl.out).symm.trans ck0)
 suffices hsuf : Calls Try.prog 41 #[.iface F.ty F.v, .pointer (some ⟨b, 0, none⟩)] w (MOn F s (w.alloc (.cells #[.iface F.ty F.v] 114)) b A (F.run s m (zal 2)).1 (F.runCost s m (zal 2)) (F.run s m (zal 2)).2) from hsuf.mono (fun e w' H => H.unalloc hF h.inv)
 generalize (F.run s m (zal 2)).1 = sF at *
 generalize (F.run s m (zal 2)).2 = mF at *
 generalize F.runCost s m (zal 2) = C at *
 clear h hr hF hAl hb0 cs0 hK
 have S0 := aK (show Stand F s (w.alloc (.cells #[.iface F.ty F.v] 114)) b A (.int .i64 2) C sF mF [.row 11 posF] (w.alloc (.cells #[.iface F.ty F.v] 114)) from S0.out)
 go_enter Try.func41, Try.ntmps41
 have C0 := aK (S0.out.rowC HG.out HR.out zhy rfl (by omega))
 go_wp2
 go_region_held3 (fun W => W.cell? ⟨w.heap.size, 0, none⟩ = some (.iface F.ty F.v)) (go_keep) (((with_reducible refine C0.out.mono ?_); rintro e w1 ⟨rfl, H⟩; have cg1 := H.cell HGo.out HGb.out HGA.out HCg.out; have ck1 := H.kind; have S1 := aK H; clear H))
 go_wp2
 go_end0
 exact S1.out.done
theorem zrs (n : Int) (hn : n < 1 ∨ n = 6 ∨ 10 < n) : zdv 41 (zal n) (fun v => v = .int .i64 n) := by
 have eS : zal n = [] := by unfold zal; repeat (first | rw [if_neg (by omega)])
 have t1 : (n == 1) = false := by simp; omega
 have t2 : (n == 2) = false := by simp; omega
 have t3 : (n == 3) = false := by simp; omega
 have t4 : (n == 4) = false := by simp; omega
 have t5 : (n == 5) = false := by simp; omega
 have t7 : (n == 7) = false := by simp; omega
 have t8 : (n == 8) = false := by simp; omega
 have t9 : (n == 9) = false := by simp; omega
 have t10 : (n == 10) = false := by simp; omega
 intro F hF s w b A m hAl h hK hr
 have hmf : ∀ (fn : Fn) (first cap : Array Value) (w : World), (Instr.makeFunc fn first cap).run Try.prog w = .ok (.func fn first cap) w := fun _ _ _ _ => rfl
 obtain ⟨cs0, hb0⟩ : ∃ cs0, w.heap[b]? = some (.cells cs0 35 (0, 0)) := let ⟨cs, _, h2, _⟩ := h.blk; ⟨cs, h2⟩
 have HGb := aK (show w.heap.size ≠ b from fun e => by have := zad hb0; omega)
 have HGA := aK (show ¬ A w.heap.size from fun e => by have := hAl _ e; omega)
 have HGo := aK (show ¬ F.own (w.alloc (.cells #[.iface F.ty F.v] 114)).heap w.heap.size from fun e => by have := hF.lt h.inv (zbn hF h.inv _ _ e); omega)
 have cg0 : (w.alloc (.cells #[.iface F.ty F.v] 114)).cell? ⟨w.heap.size, 0, none⟩ = some (.iface F.ty F.v) := by rw [World.cell?_alloc_at _ _ _ _ rfl]; rfl
 have S0 := aK (Stand.start (h.alloc hF (.cells #[.iface F.ty F.v] 114)) (zal n))
 rw [hK] at S0
 have HCg := aK cg0
 have HR := aK hr
 have HG := aK hF
 have ck0 := S0.out.kind
 have HBl := aK (zad hb0)
 have ck00 : w.cell? ⟨b, 0, none⟩ = some (.int .i64 n) := ((World.cell?_alloc_past _ _ _ HBl.out).symm.trans ck0)
 suffices hsuf : Calls Try.prog 41 #[.iface F.ty F.v, .pointer (some ⟨b, 0, none⟩)] w (MOn F s (w.alloc (.cells #[.iface F.ty F.v] 114)) b A (F.run s m (zal n)).1 (F.runCost s m (zal n)) (F.run s m (zal n)).2) from hsuf.mono (fun e w' H => H.unalloc hF h.inv)
 generalize (F.run s m (zal n)).1 = sF at *
 generalize (F.run s m (zal n)).2 = mF at *
 generalize F.runCost s m (zal n) = C at *
 clear h hr hF hAl hb0 cs0 hK
 rw [eS] at S0
 clear eS
 go_enter Try.func41, Try.ntmps41
 go_wp2
 go_end0
 exact S0.out.done
theorem zrt : zdv 41 (zal 9) (fun v => v = .int .i64 9) := by
 intro F hF s w b A m hAl h hK hr
 have hmf : ∀ (fn : Fn) (first cap : Array Value) (w : World), (Instr.makeFunc fn first cap).run Try.prog w = .ok (.func fn first cap) w := fun _ _ _ _ => rfl
 obtain ⟨cs0, hb0⟩ : ∃ cs0, w.heap[b]? = some (.cells cs0 35 (0, 0)) := let ⟨cs, _, h2, _⟩ := h.blk; ⟨cs, h2⟩
 have HGb := aK (show w.heap.size ≠ b from fun e => by have := zad hb0; omega)
 have HGA := aK (show ¬ A w.heap.size from fun e => by have := hAl _ e; omega)
 have HGo := aK (show ¬ F.own (w.alloc (.cells #[.iface F.ty F.v] 114)).heap w.heap.size from fun e => by have := hF.lt h.inv (zbn hF h.inv _ _ e); omega)
 have cg0 : (w.alloc (.cells #[.iface F.ty F.v] 114)).cell? ⟨w.heap.size, 0, none⟩ = some (.iface F.ty F.v) := by rw [World.cell?_alloc_at _ _ _ _ rfl]; rfl
 have S0 := aK (Stand.start (h.alloc hF (.cells #[.iface F.ty F.v] 114)) (zal 9))
 rw [hK] at S0
 have HCg := aK cg0
 have HR := aK hr
 have HG := aK hF
 have ck0 := S0.out.kind
 have HBl := aK (zad hb0)
 have ck00 : w.cell? ⟨b, 0, none⟩ = some (.int .i64 9) := ((World.cell?_alloc_past _ _ _ HBl.out).symm.trans ck0)
 suffices hsuf : Calls Try.prog 41 #[.iface F.ty F.v, .pointer (some ⟨b, 0, none⟩)] w (MOn F s (w.alloc (.cells #[.iface F.ty F.v] 114)) b A (F.run s m (zal 9)).1 (F.runCost s m (zal 9)) (F.run s m (zal 9)).2) from hsuf.mono (fun e w' H => H.unalloc hF h.inv)
 generalize (F.run s m (zal 9)).1 = sF at *
 generalize (F.run s m (zal 9)).2 = mF at *
 generalize F.runCost s m (zal 9) = C at *
 clear h hr hF hAl hb0 cs0 hK
 have S0 := aK (show Stand F s (w.alloc (.cells #[.iface F.ty F.v] 114)) b A (.int .i64 9) C sF mF (whoS ++ (zhm ++ [.row 22 zdm, .row 11 posF, .row 19 posF])) (w.alloc (.cells #[.iface F.ty F.v] 114)) from S0.out)
 go_enter Try.func41, Try.ntmps41
 have C0 := aK (Stand.whole' who_c S0.out HG.out HR.out trivial rfl)
 go_wp2_with (go_at_call 70; (with_reducible refine C0.out.mono ?_); rintro e w1 ⟨rfl, H⟩; have cg1 := H.cell HGo.out HGb.out HGA.out HCg.out; have ck1 := H.kind; have S1 := aK H; clear H)
 have C1 := aK (Stand.whole' zrp S1.out HG.out HR.out trivial rfl)
 go_wp2_with (go_at_call 71; (with_reducible refine C1.out.mono ?_); rintro e w2 ⟨rfl, H⟩; have cg2 := H.cell HGo.out HGb.out HGA.out HCg.out; have ck2 := H.kind; have S2 := aK H; clear H)
 have C2 := aK (S2.out.rowC HG.out HR.out zrl rfl (by omega))
 go_region_held3 (fun W => W.cell? ⟨w.heap.size, 0, none⟩ = some (.iface F.ty F.v)) (go_keep) (((with_reducible refine C2.out.mono ?_); rintro e w3 ⟨rfl, H⟩; have cg3 := H.cell HGo.out HGb.out HGA.out HCg.out; have ck3 := H.kind; have S3 := aK H; clear H))
 have C3 := aK (S3.out.rowC HG.out HR.out zhy rfl (by omega))
 go_wp2
 go_region_held3 (fun W => W.cell? ⟨w.heap.size, 0, none⟩ = some (.iface F.ty F.v)) (go_keep) (((with_reducible refine C3.out.mono ?_); rintro e w4 ⟨rfl, H⟩; have cg4 := H.cell HGo.out HGb.out HGA.out HCg.out; have ck4 := H.kind; have S4 := aK H; clear H))
 have C4 := aK (S4.out.rowC HG.out HR.out zhy rfl (by omega))
 go_wp2
 go_region_held3 (fun W => W.cell? ⟨w.heap.size, 0, none⟩ = some (.iface F.ty F.v)) (go_keep) (((with_reducible refine C4.out.mono ?_); rintro e w5 ⟨rfl, H⟩; have cg5 := H.cell HGo.out HGb.out HGA.out HCg.out; have ck5 := H.kind; have S5 := aK H; clear H))
 go_wp2
 go_end0
 exact S5.out.done
theorem zpz : zdv 41 (zal 10) (fun v => v = .int .i64 10) := by
 intro F hF s w b A m hAl h hK hr
 have hmf : ∀ (fn : Fn) (first cap : Array Value) (w : World), (Instr.makeFunc fn first cap).run Try.prog w = .ok (.func fn first cap) w := fun _ _ _ _ => rfl
 obtain ⟨cs0, hb0⟩ : ∃ cs0, w.heap[b]? = some (.cells cs0 35 (0, 0)) := let ⟨cs, _, h2, _⟩ := h.blk; ⟨cs, h2⟩
 have HGb := aK (show w.heap.size ≠ b from fun e => by have := zad hb0; omega)
 have HGA := aK (show ¬ A w.heap.size from fun e => by have := hAl _ e; omega)
 have HGo := aK (show ¬ F.own (w.alloc (.cells #[.iface F.ty F.v] 114)).heap w.heap.size from fun e => by have := hF.lt h.inv (zbn hF h.inv _ _ e); omega)
 have cg0 : (w.alloc (.cells #[.iface F.ty F.v] 114)).cell? ⟨w.heap.size, 0, none⟩ = some (.iface F.ty F.v) := by rw [World.cell?_alloc_at _ _ _ _ rfl]; rfl
 have S0 := aK (Stand.start (h.alloc hF (.cells #[.iface F.ty F.v] 114)) (zal 10))
 rw [hK] at S0
 have HCg := aK cg0
 have HR := aK hr
 have HG := aK hF
 have ck0 := S0.out.kind
 have HBl := aK (zad hb0)
 have ck00 : w.cell? ⟨b, 0, none⟩ = some (.int .i64 10) := ((World.cell?_alloc_past _ _ _ HBl.out).symm.trans ck0)
 suffices hsuf : Calls Try.prog 41 #[.iface F.ty F.v, .pointer (some ⟨b, 0, none⟩)] w (MOn F s (w.alloc (.cells #[.iface F.ty F.v] 114)) b A (F.run s m (zal 10)).1 (F.runCost s m (zal 10)) (F.run s m (zal 10)).2) from hsuf.mono (fun e w' H => H.unalloc hF h.inv)
 generalize (F.run s m (zal 10)).1 = sF at *
 generalize (F.run s m (zal 10)).2 = mF at *
 generalize F.runCost s m (zal 10) = C at *
 clear h hr hF hAl hb0 cs0 hK
 have S0 := aK (show Stand F s (w.alloc (.cells #[.iface F.ty F.v] 114)) b A (.int .i64 10) C sF mF (whoS ++ (zhm ++ [.row 4 posF, .row 19 posF])) (w.alloc (.cells #[.iface F.ty F.v] 114)) from S0.out)
 go_enter Try.func41, Try.ntmps41
 have C0 := aK (Stand.whole' who_c S0.out HG.out HR.out trivial rfl)
 go_wp2_with (go_at_call 70; (with_reducible refine C0.out.mono ?_); rintro e w1 ⟨rfl, H⟩; have cg1 := H.cell HGo.out HGb.out HGA.out HCg.out; have ck1 := H.kind; have S1 := aK H; clear H)
 have C1 := aK (Stand.whole' zrp S1.out HG.out HR.out trivial rfl)
 go_wp2_with (go_at_call 71; (with_reducible refine C1.out.mono ?_); rintro e w2 ⟨rfl, H⟩; have cg2 := H.cell HGo.out HGb.out HGA.out HCg.out; have ck2 := H.kind; have S2 := aK H; clear H)
 have C2 := aK (S2.out.rowC HG.out HR.out zhy rfl (by omega))
 go_region_held3 (fun W => W.cell? ⟨w.heap.size, 0, none⟩ = some (.iface F.ty F.v)) (go_keep) (((with_reducible refine C2.out.mono ?_); rintro e w3 ⟨rfl, H⟩; have cg3 := H.cell HGo.out HGb.out HGA.out HCg.out; have ck3 := H.kind; have S3 := aK H; clear H))
 have C3 := aK (S3.out.rowC HG.out HR.out zhy rfl (by omega))
 go_wp2
 go_region_held3 (fun W => W.cell? ⟨w.heap.size, 0, none⟩ = some (.iface F.ty F.v)) (go_keep) (((with_reducible refine C3.out.mono ?_); rintro e w4 ⟨rfl, H⟩; have cg4 := H.cell HGo.out HGb.out HGA.out HCg.out; have ck4 := H.kind; have S4 := aK H; clear H))
 go_wp2
 go_end0
 exact S4.out.done
abbrev OSt := List Int × Bool × Bool
def OInv (g : Nat) (s : OSt) (w : World) : Prop := ∃ v, WrAt w g 83 [.bool s.2.2] v s.1 s.2.1
def OOwn (g : Nat) (h : Array Obj) (k : Nat) : Prop := k = g ∨ ∃ cs T, h[g]? = some (.cells cs T (0, 0)) ∧ ∃ v, cs[0]? = some v ∧ v.ownBlock = some k
theorem OOwn.of {g : Nat} {w : World} {T : TypeId} {r : List Value} {v : Value} {xs : List Int} {bad : Bool} (h : WrAt w g T r v xs bad) (k : Nat) : OOwn g w.heap k ↔ WS g v k := by
 have e : ([v, .bool bad] ++ r).toArray[0]? = some v := by simp
 constructor
 ·rintro (e' | ⟨cs, T', hb, v', hv, hk⟩)
  ·exact .inl e'
  ·rw [h.1] at hb
   injection hb with hb
   injection hb with hb
   subst hb
   rw [e] at hv
   injection hv with hv
   subst hv
   exact .inr hk
 ·rintro (e' | hk)
  ·exact .inl e'
  ·exact .inr ⟨_, _, h.1, v, e, hk⟩
theorem WrAt.third {w : World} {g T : Nat} {o : Bool} {v : Value} {xs : List Int} {bad : Bool} (h : WrAt w g T [.bool o] v xs bad) (o' : Bool) : WrAt (w.setCell ⟨g, 2, none⟩ (.bool o')) g T [.bool o'] v xs bad :=
 ⟨by rw [zcm h.1]; simp, zgg h.2.1 (p := ⟨g, 2, none⟩) (Ne.symm h.2.2) _, h.2.2⟩
theorem WrAt.cell2 {w : World} {g T : Nat} {o : Bool} {v : Value} {xs : List Int} {bad : Bool} (h : WrAt w g T [.bool o] v xs bad) : w.cell? ⟨g, 2, none⟩ = some (.bool o) := by rw [zab h.1]; rfl
def onum (s : OSt) (n lo hi : Int) : OSt := ((wnum n s.1 s.2.1).1, (wnum n s.1 s.2.1).2, s.2.2 || decide (n < lo) || decide (hi < n))
def oflag (s : OSt) (x : Bool) : OSt := ((zev x s.1 s.2.1).1, (zev x s.1 s.2.1).2, s.2.2)
def zru (s : OSt) (x : ByteArray) (most : Int) : OSt := ((zcv x s.1 s.2.1).1, (zcv x s.1 s.2.1).2, s.2.2 || decide (most < (x.size : Int)))
def zhn (s : OSt) (n most : Int) : OSt := ((wnum n s.1 s.2.1).1, (wnum n s.1 s.2.1).2, s.2.2 || decide (most < n))
def zar (g : Nat) : Form where
 ty := 77
 v := .pointer (some ⟨g, 0, none⟩)
 k := fun n => if n = 0 then 39 else if n = 1 then 103 else if n = 2 then 104 else 102
 σ := OSt
 Inv := OInv g
 own := OOwn g
 room := fun s => s.1.length
 num := fun s n lo hi => (onum s n lo hi, n)
 flag := fun s x => (oflag s x, x)
 text := fun s x most => (zru s x most, x)
 count := fun s n most => (zhn s n most, n)
theorem OStep {g b i : Nat} {s s' : OSt} {cs : Array Value} {T : TypeId} {u : Value} {w w' : World} {d : Nat} {v v' : Value} (h : WrAt w g 83 [.bool s.2.2] v s.1 s.2.1) (hb : w.heap[b]? = some (.cells cs T (0, 0))) (hc : cs[i]? = some u) (ho : ¬ OOwn g w.heap b)
  (h' : WrAt w' g 83 [.bool s'.2.2] v' s'.1 s'.2.1) (hN : NewRow w v v') (hO : Only (WS g v) w w') (hr : s'.1.length ≤ s.1.length + d) : Stepped (zar g) s s' [(⟨b, i, none⟩, u)] d w w' := by
 refine ⟨⟨v', h'⟩, fun k hk ho' => (OOwn.of h k).2 (WS.step hN hk ((OOwn.of h' k).1 ho')), ?_, hr⟩
 refine ⟨hO.os, hO.tape, hO.output, hO.size, fun k hk hn => ?_⟩
 rw [hO.block k hk (fun hs => hn ((OOwn.of h k).2 hs))]
 exact (zlv hb hc k).symm
theorem OStep0 {g : Nat} {s s' : OSt} {w w' : World} {d : Nat} {v v' : Value} (h : WrAt w g 83 [.bool s.2.2] v s.1 s.2.1)
  (h' : WrAt w' g 83 [.bool s'.2.2] v' s'.1 s'.2.1) (hN : NewRow w v v') (hO : Only (WS g v) w w') (hr : s'.1.length ≤ s.1.length + d) : Stepped (zar g) s s' [] d w w' :=
 ⟨⟨v', h'⟩, fun k hk ho' => (OOwn.of h k).2 (WS.step hN hk ((OOwn.of h' k).1 ho')), ⟨hO.os, hO.tape, hO.output, hO.size, fun k hk hn => hO.block k hk (fun hs => hn ((OOwn.of h k).2 hs))⟩, hr⟩
theorem OStep.of {g b i : Nat} {s s' : OSt} {cs : Array Value} {T : TypeId} {u : Value} {w w' : World} {d : Nat} {v : Value} {e : Ending} (h : WrAt w g 83 [.bool s.2.2] v s.1 s.2.1) (hb : w.heap[b]? = some (.cells cs T (0, 0))) (hc : cs[i]? = some u) (ho : ¬ OOwn g w.heap b)
  (h' : IsWr g 83 [.bool s'.2.2] v s'.1 s'.2.1 w e w') (hr : s'.1.length ≤ s.1.length + d) : Did (zar g) s s' [(⟨b, i, none⟩, u)] d w e w' := by
 obtain ⟨v', rfl, h1, h2, h3⟩ := h'
 exact ⟨rfl, OStep h hb hc ho h1 h2 h3 hr⟩
theorem IsWr.undrew {g T : Nat} {r : List Value} {v : Value} {xs : List Int} {bad : Bool} {w w' : World} {e : Ending} (h : IsWr g T r v xs bad w.drew e w') : IsWr g T r v xs bad w e w' := by
 obtain ⟨v', rfl, h1, h2, h3⟩ := h
 exact ⟨v', rfl, h1, h2, h3.os, h3.tape, h3.output, h3.size, h3.block⟩
theorem zkq {g b i T0 : Nat} {r : List Value} {bad : Bool} {xs : List Int} {cs : Array Value} {T : TypeId} {u : Value} {w : World} {v : Value} (h : WrAt w g T0 r v xs bad) (hb : w.heap[b]? = some (.cells cs T (0, 0))) (hc : cs[i]? = some u) (ho : ¬ OOwn g w.heap b) :
  ∀ w' : World, Only (WS g v) w w' → w'.cell? ⟨b, i, none⟩ = some u := fun w' hO => hO.cell ((zab hb i).trans hc) (fun hs => ho ((OOwn.of h b).2 hs))
theorem wtext_le (x : ByteArray) (xs : List Int) (bad : Bool) : (zcv x xs bad).1.length ≤ xs.length + (8 + x.size) := by
 have h := zed (x.size : Int) xs bad
 unfold zcv
 split
 ·dsimp only; omega
 ·rw [List.length_append, show (zbq x).length = x.size by simp [zbq]]; omega
theorem oflag_c (g b i : Nat) (s : OSt) (w : World) (cs : Array Value) (T : TypeId) (x : Bool) (hI : OInv g s w) (ho : ¬ OOwn g w.heap b) (hr : s.1.length + 8 ≤ cap) (hb : w.heap[b]? = some (.cells cs T (0, 0))) (hc : cs[i]? = some (.bool x)) :
  Calls Try.prog 103 #[.pointer (some ⟨g, 0, none⟩), .pointer (some ⟨b, i, none⟩)] w (Did (zar g) s (oflag s x) [(⟨b, i, none⟩, .bool x)] 8 w) := by
 obtain ⟨v, hW⟩ := hI
 suffices hs : Calls Try.prog 103 #[.pointer (some ⟨g, 0, none⟩), .pointer (some ⟨b, i, none⟩)] w (IsWr g 83 [.bool s.2.2] v (zev x s.1 s.2.1).1 (zev x s.1 s.2.1).2 w) from hs.mono fun e w' h' => OStep.of (s' := oflag s x) hW hb hc ho h' (zed _ _ _)
 have C := aK (wFlag_c x g 83 [.bool s.2.2] v s.1 s.2.1 w.drew hW (by unfold cap at hr; omega))
 have HK := aK (zkq hW hb hc ho)
 have c0 : w.cell? ⟨b, i, none⟩ = some (.bool x) := (zab hb i).trans hc
 generalize zev x s.1 s.2.1 = R at *
 clear hW hb hc ho hr
 go_enter Try.func103, Try.ntmps103
 go_region_held3 (fun W => W.cell? ⟨b, i, none⟩ = some (.bool x)) (go_keep) ((go_at_call 101; (with_reducible refine C.out.mono ?_); rintro e w' ⟨v2, rfl, hW2, hN2, hO2⟩; have H := aK (show IsWr g 83 [.bool s.2.2] v R.1 R.2 w.drew (.returned (.tuple #[])) w' from ⟨v2, rfl, hW2, hN2, hO2⟩); have cc := HK.out w' ⟨hO2.os, hO2.tape, hO2.output, hO2.size, hO2.block⟩; clear hW2 hN2 hO2))
 go_wp2
 go_end0
 exact IsWr.undrew H.out
theorem IsWr.unset {g : Nat} {o o' : Bool} {v : Value} {xs ys : List Int} {bad bad' : Bool} {w w' : World} {e : Ending} (h0 : WrAt w g 83 [.bool o] v ys bad') (h : IsWr g 83 [.bool o'] v xs bad (w.setCell ⟨g, 2, none⟩ (.bool o')).drew e w') : IsWr g 83 [.bool o'] v xs bad w e w' := by
 obtain ⟨v', rfl, h1, h2, h3⟩ := IsWr.undrew h
 refine ⟨v', rfl, h1, ?_, ((Only.refl (WS g v) w).set (.inr (.inl rfl)) _).then_ h3⟩
 rcases h2 with h2 | ⟨b, h2, h4⟩
 ·exact .inl h2
 ·exact .inr ⟨b, h2, by rwa [World.size_setCell] at h4⟩
theorem OOwn.set {g b : Nat} {w : World} {T : TypeId} {o : Bool} {v : Value} {xs : List Int} {bad : Bool} (h : WrAt w g T [.bool o] v xs bad) (ho : ¬ OOwn g w.heap b) (o' : Bool) : ¬ OOwn g (w.setCell ⟨g, 2, none⟩ (.bool o')).heap b :=
 fun h' => ho ((OOwn.of h b).2 ((OOwn.of (WrAt.third h o') b).1 h'))
theorem onum_c (g b i : Nat) (s : OSt) (w : World) (cs : Array Value) (T : TypeId) (n lo hi : Int) (hI : OInv g s w) (ho : ¬ OOwn g w.heap b) (hr : s.1.length + 8 ≤ cap) (hb : w.heap[b]? = some (.cells cs T (0, 0))) (hc : cs[i]? = some (.int .i64 n)) :
  Calls Try.prog 39 #[.pointer (some ⟨g, 0, none⟩), .pointer (some ⟨b, i, none⟩), .int .i64 lo, .int .i64 hi] w (Did (zar g) s (onum s n lo hi) [(⟨b, i, none⟩, .int .i64 n)] 8 w) := by
 obtain ⟨v, hW⟩ := hI
 obtain ⟨xs, bad, o⟩ := s
 dsimp only at hW hr
 obtain ⟨o', ho'⟩ : ∃ o', o' = (o || decide (n < lo) || decide (hi < n)) := ⟨_, rfl⟩
 suffices hs : Calls Try.prog 39 #[.pointer (some ⟨g, 0, none⟩), .pointer (some ⟨b, i, none⟩), .int .i64 lo, .int .i64 hi] w (IsWr g 83 [.bool o'] v (wnum n xs bad).1 (wnum n xs bad).2 w) from hs.mono fun e w' h' => OStep.of (s := (xs, bad, o)) (s' := onum (xs, bad, o) n lo hi) hW hb hc ho (by rw [ho'] at h'; exact h') (zed _ _ _)
 have C := aK (fun o' => zlo n g 83 [.bool o'] v xs bad (w.setCell ⟨g, 2, none⟩ (.bool o')).drew (WrAt.third hW o') (by unfold cap at hr; omega))
 have hgb : b ≠ g := fun e => ho (.inl e)
 have hb' : ∀ o', (w.setCell ⟨g, 2, none⟩ (.bool o')).heap[b]? = some (.cells cs T (0, 0)) := fun o' => (Below.heap_setCell _ _ _ _ hgb).trans hb
 have HK := aK (fun o' => zkq (WrAt.third hW o') (hb' o') hc (OOwn.set hW ho o'))
 have c0 : w.cell? ⟨b, i, none⟩ = some (.int .i64 n) := (zab hb i).trans hc
 have HC1 := aK (fun o' => (zab (hb' o') i).trans hc)
 have cg2 := WrAt.cell2 hW
 have fg2 := hW.frozen 2
 have HW := aK hW
 generalize wnum n xs bad = R at *
 clear hW hb hb' hc ho hr
 cases o
 ·by_cases h1 : n < lo
  ·skip
   obtain rfl : o' = true := by rw [ho']; simp [h1]
   clear ho'
   have C' := aK (C.out true)
   have HK' := aK (HK.out true)
   have c1 := HC1.out true
   go_enter Try.func39, Try.ntmps39
   go_wp2
   go_region_held3 (fun W => W.cell? ⟨b, i, none⟩ = some (.int .i64 n)) (go_keep) ((go_at_call 62; (with_reducible refine C'.out.mono ?_); rintro e w' ⟨v2, rfl, hW2, hN2, hO2⟩; have H := aK (show IsWr g 83 [.bool true] v R.1 R.2 (w.setCell ⟨g, 2, none⟩ (.bool true)).drew (.returned (.tuple #[])) w' from ⟨v2, rfl, hW2, hN2, hO2⟩); have cc := HK'.out w' ⟨hO2.os, hO2.tape, hO2.output, hO2.size, hO2.block⟩; clear hW2 hN2 hO2))
   go_wp2
   go_end0
   exact IsWr.unset HW.out H.out
  ·by_cases h2 : hi < n
   ·skip
    obtain rfl : o' = true := by rw [ho']; simp [h2]
    clear ho'
    have C' := aK (C.out true)
    have HK' := aK (HK.out true)
    have c1 := HC1.out true
    go_enter Try.func39, Try.ntmps39
    go_wp2
    go_region_held3 (fun W => W.cell? ⟨b, i, none⟩ = some (.int .i64 n)) (go_keep) ((go_at_call 62; (with_reducible refine C'.out.mono ?_); rintro e w' ⟨v2, rfl, hW2, hN2, hO2⟩; have H := aK (show IsWr g 83 [.bool true] v R.1 R.2 (w.setCell ⟨g, 2, none⟩ (.bool true)).drew (.returned (.tuple #[])) w' from ⟨v2, rfl, hW2, hN2, hO2⟩); have cc := HK'.out w' ⟨hO2.os, hO2.tape, hO2.output, hO2.size, hO2.block⟩; clear hW2 hN2 hO2))
    go_wp2
    go_end0
    exact IsWr.unset HW.out H.out
   ·skip
    obtain rfl : o' = false := by rw [ho']; simp [Int.not_lt.1 h1, Int.not_lt.1 h2]
    clear ho'
    have C' := aK (C.out false)
    have HK' := aK (HK.out false)
    have c1 := HC1.out false
    go_enter Try.func39, Try.ntmps39
    go_wp2
    go_region_held3 (fun W => W.cell? ⟨b, i, none⟩ = some (.int .i64 n)) (go_keep) ((go_at_call 62; (with_reducible refine C'.out.mono ?_); rintro e w' ⟨v2, rfl, hW2, hN2, hO2⟩; have H := aK (show IsWr g 83 [.bool false] v R.1 R.2 (w.setCell ⟨g, 2, none⟩ (.bool false)).drew (.returned (.tuple #[])) w' from ⟨v2, rfl, hW2, hN2, hO2⟩); have cc := HK'.out w' ⟨hO2.os, hO2.tape, hO2.output, hO2.size, hO2.block⟩; clear hW2 hN2 hO2))
    go_wp2
    go_end0
    exact IsWr.unset HW.out H.out
 ·skip
  obtain rfl : o' = true := by rw [ho']; simp []
  clear ho'
  have C' := aK (C.out true)
  have HK' := aK (HK.out true)
  have c1 := HC1.out true
  go_enter Try.func39, Try.ntmps39
  go_wp2
  go_region_held3 (fun W => W.cell? ⟨b, i, none⟩ = some (.int .i64 n)) (go_keep) ((go_at_call 62; (with_reducible refine C'.out.mono ?_); rintro e w' ⟨v2, rfl, hW2, hN2, hO2⟩; have H := aK (show IsWr g 83 [.bool true] v R.1 R.2 (w.setCell ⟨g, 2, none⟩ (.bool true)).drew (.returned (.tuple #[])) w' from ⟨v2, rfl, hW2, hN2, hO2⟩); have cc := HK'.out w' ⟨hO2.os, hO2.tape, hO2.output, hO2.size, hO2.block⟩; clear hW2 hN2 hO2))
  go_wp2
  go_end0
  exact IsWr.unset HW.out H.out
theorem ocount_c (g : Nat) (s : OSt) (w : World) (n hi : Int) (hI : OInv g s w) (hr : s.1.length + 8 ≤ cap) :
  Calls Try.prog 102 #[.pointer (some ⟨g, 0, none⟩), .int .i64 n, .int .i64 hi] w (fun e w' => e = .returned (.int .i64 n) ∧ Stepped (zar g) s (zhn s n hi) [] 8 w w') := by
 obtain ⟨v, hW⟩ := hI
 obtain ⟨xs, bad, o⟩ := s
 dsimp only at hW hr
 obtain ⟨o', ho'⟩ : ∃ o', o' = (o || decide (hi < n)) := ⟨_, rfl⟩
 suffices hs : Calls Try.prog 102 #[.pointer (some ⟨g, 0, none⟩), .int .i64 n, .int .i64 hi] w (fun e w' => e = .returned (.int .i64 n) ∧ IsWr g 83 [.bool o'] v (wnum n xs bad).1 (wnum n xs bad).2 w (.returned (.tuple #[])) w') from hs.mono fun e w' h' => by
  obtain ⟨he, v', _, h1, h2, h3⟩ := h'
  refine ⟨he, OStep0 (s' := zhn (xs, bad, o) n hi) hW (by rw [ho'] at h1; exact h1) h2 h3 (zed _ _ _)⟩
 have C := aK (fun o' => zlo n g 83 [.bool o'] v xs bad (w.setCell ⟨g, 2, none⟩ (.bool o')) (WrAt.third hW o') (by unfold cap at hr; omega))
 have cg2 := WrAt.cell2 hW
 have fg2 := hW.frozen 2
 have HW := aK hW
 generalize wnum n xs bad = R at *
 clear hW hr
 cases o
 ·by_cases h2 : hi < n
  ·skip
   obtain rfl : o' = true := by rw [ho']; simp [h2]
   clear ho'
   have C' := aK (C.out true)
   go_enter Try.func102, Try.ntmps102
   go_wp2_with (go_at_call 62; (with_reducible refine C'.out.mono ?_); rintro e w' ⟨v2, rfl, hW2, hN2, hO2⟩; have H := aK (show IsWr g 83 [.bool true] v R.1 R.2 (w.setCell ⟨g, 2, none⟩ (.bool true)).drew (.returned (.tuple #[])) w' from ⟨v2, rfl, hW2, hN2.imp id id, hO2.os, hO2.tape, hO2.output, hO2.size, hO2.block⟩); clear hW2 hN2 hO2)
   go_ret
   exact ⟨rfl, IsWr.unset HW.out H.out⟩
  ·skip
   obtain rfl : o' = false := by rw [ho']; simp [Int.not_lt.1 h2]
   clear ho'
   have C' := aK (C.out false)
   go_enter Try.func102, Try.ntmps102
   go_wp2_with (go_at_call 62; (with_reducible refine C'.out.mono ?_); rintro e w' ⟨v2, rfl, hW2, hN2, hO2⟩; have H := aK (show IsWr g 83 [.bool false] v R.1 R.2 (w.setCell ⟨g, 2, none⟩ (.bool false)).drew (.returned (.tuple #[])) w' from ⟨v2, rfl, hW2, hN2.imp id id, hO2.os, hO2.tape, hO2.output, hO2.size, hO2.block⟩); clear hW2 hN2 hO2)
   go_ret
   exact ⟨rfl, IsWr.unset HW.out H.out⟩
 ·skip
  obtain rfl : o' = true := by rw [ho']; simp []
  clear ho'
  have C' := aK (C.out true)
  go_enter Try.func102, Try.ntmps102
  go_wp2_with (go_at_call 62; (with_reducible refine C'.out.mono ?_); rintro e w' ⟨v2, rfl, hW2, hN2, hO2⟩; have H := aK (show IsWr g 83 [.bool true] v R.1 R.2 (w.setCell ⟨g, 2, none⟩ (.bool true)).drew (.returned (.tuple #[])) w' from ⟨v2, rfl, hW2, hN2.imp id id, hO2.os, hO2.tape, hO2.output, hO2.size, hO2.block⟩); clear hW2 hN2 hO2)
  go_ret
  exact ⟨rfl, IsWr.unset HW.out H.out⟩
theorem otext_c (g b i : Nat) (s : OSt) (w : World) (cs : Array Value) (T : TypeId) (x : ByteArray) (hi : Int) (hI : OInv g s w) (ho : ¬ OOwn g w.heap b) (hr : s.1.length + 8 + x.size ≤ cap) (hb : w.heap[b]? = some (.cells cs T (0, 0))) (hc : cs[i]? = some (.string x)) :
  Calls Try.prog 104 #[.pointer (some ⟨g, 0, none⟩), .pointer (some ⟨b, i, none⟩), .int .i64 hi] w (Did (zar g) s (zru s x hi) [(⟨b, i, none⟩, .string x)] (8 + x.size) w) := by
 obtain ⟨v, hW⟩ := hI
 obtain ⟨xs, bad, o⟩ := s
 dsimp only at hW hr
 obtain ⟨o', ho'⟩ : ∃ o', o' = (o || decide (hi < (x.size : Int))) := ⟨_, rfl⟩
 suffices hs : Calls Try.prog 104 #[.pointer (some ⟨g, 0, none⟩), .pointer (some ⟨b, i, none⟩), .int .i64 hi] w (IsWr g 83 [.bool o'] v (zcv x xs bad).1 (zcv x xs bad).2 w) from hs.mono fun e w' h' => OStep.of (s := (xs, bad, o)) (s' := zru (xs, bad, o) x hi) hW hb hc ho (by rw [ho'] at h'; exact h') (wtext_le _ _ _)
 have C := aK (fun o' => wText_c x g 83 [.bool o'] v xs bad (w.setCell ⟨g, 2, none⟩ (.bool o')).drew (WrAt.third hW o') (by unfold cap at hr; omega))
 have hgb : b ≠ g := fun e => ho (.inl e)
 have hb' : ∀ o', (w.setCell ⟨g, 2, none⟩ (.bool o')).heap[b]? = some (.cells cs T (0, 0)) := fun o' => (Below.heap_setCell _ _ _ _ hgb).trans hb
 have HK := aK (fun o' => zkq (WrAt.third hW o') (hb' o') hc (OOwn.set hW ho o'))
 have c0 : w.cell? ⟨b, i, none⟩ = some (.string x) := (zab hb i).trans hc
 have HC1 := aK (fun o' => (zab (hb' o') i).trans hc)
 have cg2 := WrAt.cell2 hW
 have fg2 := hW.frozen 2
 have HW := aK hW
 have hx : (x.size : Int) ≤ 9223372036854775807 := by unfold cap at hr; omega
 generalize zcv x xs bad = R at *
 clear hW hb hb' hc ho hr
 cases o
 ·by_cases h2 : hi < (x.size : Int)
  ·skip
   obtain rfl : o' = true := by rw [ho']; simp [h2]
   clear ho'
   have C' := aK (C.out true)
   have HK' := aK (HK.out true)
   have c1 := HC1.out true
   go_enter Try.func104, Try.ntmps104
   go_wp2
   go_region_held3 (fun W => W.cell? ⟨b, i, none⟩ = some (.string x)) (go_keep) ((go_at_call 105; (with_reducible refine C'.out.mono ?_); rintro e w' ⟨v2, rfl, hW2, hN2, hO2⟩; have H := aK (show IsWr g 83 [.bool true] v R.1 R.2 (w.setCell ⟨g, 2, none⟩ (.bool true)).drew (.returned (.tuple #[])) w' from ⟨v2, rfl, hW2, hN2, hO2⟩); have cc := HK'.out w' ⟨hO2.os, hO2.tape, hO2.output, hO2.size, hO2.block⟩; clear hW2 hN2 hO2))
   go_wp2
   go_end0
   exact IsWr.unset HW.out H.out
  ·skip
   obtain rfl : o' = false := by rw [ho']; simp [Int.not_lt.1 h2]
   clear ho'
   have C' := aK (C.out false)
   have HK' := aK (HK.out false)
   have c1 := HC1.out false
   go_enter Try.func104, Try.ntmps104
   go_wp2
   go_region_held3 (fun W => W.cell? ⟨b, i, none⟩ = some (.string x)) (go_keep) ((go_at_call 105; (with_reducible refine C'.out.mono ?_); rintro e w' ⟨v2, rfl, hW2, hN2, hO2⟩; have H := aK (show IsWr g 83 [.bool false] v R.1 R.2 (w.setCell ⟨g, 2, none⟩ (.bool false)).drew (.returned (.tuple #[])) w' from ⟨v2, rfl, hW2, hN2, hO2⟩); have cc := HK'.out w' ⟨hO2.os, hO2.tape, hO2.output, hO2.size, hO2.block⟩; clear hW2 hN2 hO2))
   go_wp2
   go_end0
   exact IsWr.unset HW.out H.out
 ·skip
  obtain rfl : o' = true := by rw [ho']; simp []
  clear ho'
  have C' := aK (C.out true)
  have HK' := aK (HK.out true)
  have c1 := HC1.out true
  go_enter Try.func104, Try.ntmps104
  go_wp2
  go_region_held3 (fun W => W.cell? ⟨b, i, none⟩ = some (.string x)) (go_keep) ((go_at_call 105; (with_reducible refine C'.out.mono ?_); rintro e w' ⟨v2, rfl, hW2, hN2, hO2⟩; have H := aK (show IsWr g 83 [.bool true] v R.1 R.2 (w.setCell ⟨g, 2, none⟩ (.bool true)).drew (.returned (.tuple #[])) w' from ⟨v2, rfl, hW2, hN2, hO2⟩); have cc := HK'.out w' ⟨hO2.os, hO2.tape, hO2.output, hO2.size, hO2.block⟩; clear hW2 hN2 hO2))
  go_wp2
  go_end0
  exact IsWr.unset HW.out H.out
theorem oGood (g : Nat) : (zar g).Good where
 lt := fun {s w k} hI ho => by
  obtain ⟨v, hW⟩ := hI
  rcases (OOwn.of hW k).1 ho with rfl | hk
  ·exact zad hW.1
  ·exact zjn hW.2.1 k hk
 move := fun {s w w'} hI hm _ => by
  obtain ⟨v, hW⟩ := hI
  exact ⟨v, hW.move fun k hk => hm k ((OOwn.of hW k).2 hk)⟩
 own_move := fun {s w w'} hI hm k hk => by
  obtain ⟨v, hW⟩ := hI
  exact (OOwn.of hW k).2 ((OOwn.of (hW.move fun k hk => hm k ((OOwn.of hW k).2 hk)) k).1 hk)
 ahead := fun n m hn hm w => by
  obtain rfl | rfl | rfl | rfl : n = 0 ∨ n = 1 ∨ n = 2 ∨ n = 3 := by omega
  all_goals subst hm; rfl
 method := fun n m hn hm w => by
  obtain rfl | rfl | rfl | rfl : n = 0 ∨ n = 1 ∨ n = 2 ∨ n = 3 := by omega
  all_goals subst hm; rfl
 enter := fun n hn args w => by
  obtain rfl | rfl | rfl | rfl : n = 0 ∨ n = 1 ∨ n = 2 ∨ n = 3 := by omega
  all_goals rfl
 num_c := fun s w b i cs T n lo hi hI ho hr hb hc => onum_c g b i s w cs T n lo hi hI ho hr hb hc
 flag_c := fun s w b i cs T x hI ho hr hb hc => oflag_c g b i s w cs T x hI ho hr hb hc
 text_c := fun s w b i cs T x most hI ho hr hb hc => otext_c g b i s w cs T x most hI ho hr hb hc
 count_c := fun s w n most hI hr _ _ => ocount_c g s w n most hI hr
 count_lim := fun s n most hn _ => ⟨hn, .inl rfl⟩
abbrev ISt := List Int × Bool × Bool
structure IInv (g r q : Nat) (s : ISt) (w : World) : Prop where
 blk : w.heap[g]? = some (.cells #[.pointer (some ⟨r, 0, none⟩), .bool s.2.2] 110 (0, 0))
 rd : RdAt w r q s.1 s.2.1
 bytes : ∀ x ∈ s.1, IsB x
 ner : g ≠ r
 neq : g ≠ q
def IOwn (g r q : Nat) (_ : Array Obj) (k : Nat) : Prop := k = g ∨ k = r ∨ k = q
variable {g r q b i : Nat} {s : ISt} {w w' : World} {cs : Array Value} {T : TypeId} {u v : Value} {bs : List Int} {bad o : Bool}
theorem IInv.lt (h : IInv g r q s w) {k : Nat} (hk : IOwn g r q w.heap k) : k < w.heap.size := by
 rcases hk with rfl | rfl | rfl
 ·exact zad h.blk
 ·obtain ⟨off, c, hb, _⟩ := h.rd; exact zad hb
 ·obtain ⟨off, c, hb, _, _, _, hq, _⟩ := h.rd; exact hq
theorem IInv.move (h : IInv g r q s w) (hm : ∀ k, IOwn g r q w.heap k → w'.heap[k]? = w.heap[k]?) : IInv g r q s w' :=
 ⟨(hm g (.inl rfl)).trans h.blk, h.rd.move fun k hk => hm k (.inr hk), h.bytes, h.ner, h.neq⟩
def inum (s : ISt) (lo hi : Int) : ISt := ((rnum s.1 s.2.1).2.1, (rnum s.1 s.2.1).2.2, s.2.2 || decide ((rnum s.1 s.2.1).1 < lo) || decide (hi < (rnum s.1 s.2.1).1))
def iflag (s : ISt) : ISt := ((zem s.1 s.2.1).2.1, (zem s.1 s.2.1).2.2, s.2.2)
def itext (s : ISt) (most : Int) : ISt := ((zeq most s.1 s.2.1).2.1, (zeq most s.1 s.2.1).2.2, s.2.2)
def zho (s : ISt) (most : Int) : ISt := ((zbw most s.1 s.2.1).2.1, (zbw most s.1 s.2.1).2.2, s.2.2)
def zbc (g r q : Nat) : Form where
 ty := 106
 v := .pointer (some ⟨g, 0, none⟩)
 k := fun n => if n = 0 then 59 else if n = 1 then 108 else if n = 2 then 109 else 107
 σ := ISt
 Inv := IInv g r q
 own := IOwn g r q
 room := fun _ => 0
 num := fun s _ lo hi => (inum s lo hi, (rnum s.1 s.2.1).1)
 flag := fun s _ => (iflag s, (zem s.1 s.2.1).1)
 text := fun s _ most => (itext s most, strOfNums (zeq most s.1 s.2.1).1)
 count := fun s _ most => (zho s most, (zbw most s.1 s.2.1).1)
theorem drop_mem {bs : List Int} {p : Int → Prop} (h : ∀ x ∈ bs, p x) (m : Nat) : ∀ x ∈ bs.drop m, p x := fun x hx => h x (List.mem_of_mem_drop hx)
theorem zrv {bs : List Int} {bad : Bool} {p : Int → Prop} (h : ∀ x ∈ bs, p x) : ∀ x ∈ (zem bs bad).2.1, p x := by
 unfold zem
 split
 ·exact h
 ·split
  ·intro x hx; nomatch hx
  ·rename_i c t
   split
   ·exact fun x hx => h x (.tail _ hx)
   ·exact fun x hx => h x (.tail _ hx)
theorem zrw {most : Int} {bs : List Int} {bad : Bool} {p : Int → Prop} (h : ∀ x ∈ bs, p x) : ∀ x ∈ (zeq most bs bad).2.1, p x := by
 unfold zeq
 split
 ·exact zgs h
 ·exact drop_mem (zgs h) _
theorem zqa {most : Int} {bs : List Int} {bad : Bool} {p : Int → Prop} (h : ∀ x ∈ bs, p x) : ∀ x ∈ (zbw most bs bad).2.1, p x := by
 unfold zbw
 split
 ·exact zgs h
 ·exact zgs h
theorem IStep (h : IInv g r q s w) (hb : w.heap[b]? = some (.cells cs T (0, 0))) (ho : ¬ IOwn g r q w.heap b) (hR : RdAt w' r q bs bad) (hB : ∀ x ∈ bs, IsB x) (hO : Only (· = r) w w') (u : Value) :
  Stepped (zbc g r q) s (bs, bad, s.2.2) [(⟨b, i, none⟩, u)] 8 w (w'.setCell ⟨b, i, none⟩ u) := by
 have hg : w'.heap[g]? = w.heap[g]? := hO.block g (zad h.blk) h.ner
 have hbg : g ≠ b := fun e => ho (.inl e.symm)
 refine ⟨⟨(Below.heap_setCell _ _ _ _ hbg).trans (hg.trans h.blk), hR.move fun k hk => Below.heap_setCell _ _ _ _ (fun e => ho (.inr (by have e' : k = b := e; rw [← e']; exact hk))), hB, h.ner, h.neq⟩, fun k _ hk => hk, ⟨hO.os, hO.tape, hO.output, by rw [World.size_setCell]; exact hO.size, fun k hk hn => zew (hO.block k hk (fun e => hn (.inr (.inl e)))) _ _⟩, Nat.zero_le _⟩
theorem IStep2 (h : IInv g r q s w) (hb : w.heap[b]? = some (.cells cs T (0, 0))) (ho : ¬ IOwn g r q w.heap b) (hR : RdAt w' r q bs bad) (hB : ∀ x ∈ bs, IsB x) (hO : Only (· = r) w w') (u : Value) (o : Bool) :
  Stepped (zbc g r q) s (bs, bad, o) [(⟨b, i, none⟩, u)] 8 w ((w'.setCell ⟨b, i, none⟩ u).setCell ⟨g, 1, none⟩ (.bool o)) := by
 have K := IStep (i := i) h hb ho hR hB hO u
 refine ⟨⟨by rw [zcm K.inv.blk]; rfl, K.inv.rd.move fun k hk => Below.heap_setCell _ _ _ _ (fun e => ?_), hB, h.ner, h.neq⟩, fun k _ hk => hk, ⟨K.wrote.os, K.wrote.tape, K.wrote.output, by rw [World.size_setCell]; exact K.wrote.size, fun k hk hn => (Below.heap_setCell _ _ _ _ (fun e => hn (.inl e))).trans (K.wrote.block k hk hn)⟩, Nat.zero_le _⟩
 have e' : k = g := e
 rcases hk with hk | hk
 ·exact h.ner (e'.symm.trans hk)
 ·exact h.neq (e'.symm.trans hk)
theorem IStep0 (h : IInv g r q s w) (hR : RdAt w' r q bs bad) (hB : ∀ x ∈ bs, IsB x) (hO : Only (· = r) w w') : Stepped (zbc g r q) s (bs, bad, s.2.2) [] 8 w w' :=
 ⟨⟨(hO.block g (zad h.blk) h.ner).trans h.blk, hR, hB, h.ner, h.neq⟩, fun k _ hk => hk, ⟨hO.os, hO.tape, hO.output, hO.size, fun k hk hn => hO.block k hk (fun e => hn (.inr (.inl e)))⟩, Nat.zero_le _⟩
theorem IKeep (h : IInv g r q s w) (hb : w.heap[b]? = some (.cells cs T (0, 0))) (hc : cs[i]? = some v) (ho : ¬ IOwn g r q w.heap b) :
  ∀ w' : World, Only (· = r) w w' → w'.cell? ⟨b, i, none⟩ = some v ∧ w'.frozen? ⟨b, i, none⟩ = false ∧ w'.cell? ⟨g, 1, none⟩ = some (.bool s.2.2) ∧ w'.frozen? ⟨g, 1, none⟩ = false := fun w' hO => by
 have h1 := hO.blk hb (fun e => ho (.inr (.inl e)))
 have h2 := hO.blk h.blk h.ner
 exact ⟨(zab h1 i).trans hc, zbg h1 i, (zab h2 1).trans rfl, zbg h2 1⟩
theorem iflag_c (g r q b i : Nat) (s : ISt) (w : World) (cs : Array Value) (T : TypeId) (x : Bool) (hI : IInv g r q s w) (ho : ¬ IOwn g r q w.heap b) (hb : w.heap[b]? = some (.cells cs T (0, 0))) (hc : cs[i]? = some (.bool x)) :
  Calls Try.prog 108 #[.pointer (some ⟨g, 0, none⟩), .pointer (some ⟨b, i, none⟩)] w (Did (zbc g r q) s (iflag s) [(⟨b, i, none⟩, .bool (zem s.1 s.2.1).1)] 8 w) := by
 have C := aK (rFlag_c r q s.1 s.2.1 w hI.rd hI.bytes)
 have HK := aK (IKeep hI hb hc ho)
 have HS := aK (fun (w' : World) (bs : List Int) (bad : Bool) (hR : RdAt w' r q bs bad) (hB : ∀ x ∈ bs, IsB x) (hO : Only (· = r) w w') (u : Value) => IStep (i := i) hI hb ho hR hB hO u)
 have HM := aK (zrv (bad := s.2.1) hI.bytes)
 have cg : w.cell? ⟨g, 0, none⟩ = some (.pointer (some ⟨r, 0, none⟩)) := (zab hI.blk 0).trans rfl
 have e : iflag s = ((zem s.1 s.2.1).2.1, (zem s.1 s.2.1).2.2, s.2.2) := rfl
 rw [e]
 clear e
 generalize zem s.1 s.2.1 = R at *
 clear hI hb hc ho
 go_enter Try.func108, Try.ntmps108
 go_wp2_with (go_at_call 106; (with_reducible refine C.out.mono ?_); rintro e w' ⟨rfl, hR, hO⟩; obtain ⟨k1, k2, k3, k4⟩ := HK.out w' hO; have HR := aK hR; have HO := aK hO; clear hR hO)
 go_end0
 exact ⟨rfl, HS.out _ _ _ HR.out HM.out HO.out _⟩
theorem itext_c (g r q b i : Nat) (s : ISt) (w : World) (cs : Array Value) (T : TypeId) (x : ByteArray) (most : Int) (hI : IInv g r q s w) (ho : ¬ IOwn g r q w.heap b) (hb : w.heap[b]? = some (.cells cs T (0, 0))) (hc : cs[i]? = some (.string x)) :
  Calls Try.prog 109 #[.pointer (some ⟨g, 0, none⟩), .pointer (some ⟨b, i, none⟩), .int .i64 most] w (Did (zbc g r q) s (itext s most) [(⟨b, i, none⟩, .string (strOfNums (zeq most s.1 s.2.1).1))] 8 w) := by
 have C := aK (rText_c most r q s.1 s.2.1 w hI.rd hI.bytes)
 have HK := aK (IKeep hI hb hc ho)
 have HS := aK (fun (w' : World) (bs : List Int) (bad : Bool) (hR : RdAt w' r q bs bad) (hB : ∀ x ∈ bs, IsB x) (hO : Only (· = r) w w') (u : Value) => IStep (i := i) hI hb ho hR hB hO u)
 have HM := aK (zrw (most := most) (bad := s.2.1) hI.bytes)
 have cg : w.cell? ⟨g, 0, none⟩ = some (.pointer (some ⟨r, 0, none⟩)) := (zab hI.blk 0).trans rfl
 have e : itext s most = ((zeq most s.1 s.2.1).2.1, (zeq most s.1 s.2.1).2.2, s.2.2) := rfl
 rw [e]
 clear e
 generalize zeq most s.1 s.2.1 = R at *
 clear hI hb hc ho
 go_enter Try.func109, Try.ntmps109
 go_wp2_with (go_at_call 111; (with_reducible refine C.out.mono ?_); rintro e w' ⟨rfl, hR, hO⟩; obtain ⟨k1, k2, k3, k4⟩ := HK.out w' hO; have HR := aK hR; have HO := aK hO; clear hR hO)
 go_end0
 exact ⟨rfl, HS.out _ _ _ HR.out HM.out HO.out _⟩
theorem icount_c (g r q : Nat) (s : ISt) (w : World) (n most : Int) (hI : IInv g r q s w) :
  Calls Try.prog 107 #[.pointer (some ⟨g, 0, none⟩), .int .i64 n, .int .i64 most] w (fun e w' => e = .returned (.int .i64 (zbw most s.1 s.2.1).1) ∧ Stepped (zbc g r q) s (zho s most) [] 8 w w') := by
 have C := aK (rCount_c most r q s.1 s.2.1 w hI.rd hI.bytes)
 have HS := aK (fun (w' : World) (bs : List Int) (bad : Bool) (hR : RdAt w' r q bs bad) (hB : ∀ x ∈ bs, IsB x) (hO : Only (· = r) w w') => IStep0 hI hR hB hO)
 have HM := aK (zqa (most := most) (bad := s.2.1) hI.bytes)
 have cg : w.cell? ⟨g, 0, none⟩ = some (.pointer (some ⟨r, 0, none⟩)) := (zab hI.blk 0).trans rfl
 have e : zho s most = ((zbw most s.1 s.2.1).2.1, (zbw most s.1 s.2.1).2.2, s.2.2) := rfl
 rw [e]
 clear e
 generalize zbw most s.1 s.2.1 = R at *
 clear hI
 go_enter Try.func107, Try.ntmps107
 go_wp2_with (go_at_call 110; (with_reducible refine C.out.mono ?_); rintro e w' ⟨rfl, hR, hO⟩; have HR := aK hR; have HO := aK hO; clear hR hO)
 go_ret
 exact ⟨rfl, HS.out _ _ _ HR.out HM.out HO.out⟩
theorem inum_c (g r q b i : Nat) (s : ISt) (w : World) (cs : Array Value) (T : TypeId) (n lo hi : Int) (hI : IInv g r q s w) (ho : ¬ IOwn g r q w.heap b) (hb : w.heap[b]? = some (.cells cs T (0, 0))) (hc : cs[i]? = some (.int .i64 n)) :
  Calls Try.prog 59 #[.pointer (some ⟨g, 0, none⟩), .pointer (some ⟨b, i, none⟩), .int .i64 lo, .int .i64 hi] w (Did (zbc g r q) s (inum s lo hi) [(⟨b, i, none⟩, .int .i64 (rnum s.1 s.2.1).1)] 8 w) := by
 have C := aK (rNum_c r q s.1 s.2.1 w hI.rd hI.bytes)
 have HK := aK (IKeep hI hb hc ho)
 have HS := aK (fun (w' : World) (bs : List Int) (bad : Bool) (hR : RdAt w' r q bs bad) (hB : ∀ x ∈ bs, IsB x) (hO : Only (· = r) w w') (u : Value) (o : Bool) => IStep2 (i := i) hI hb ho hR hB hO u o)
 have HM := aK (zgs (bad := s.2.1) hI.bytes)
 have cg : w.cell? ⟨g, 0, none⟩ = some (.pointer (some ⟨r, 0, none⟩)) := (zab hI.blk 0).trans rfl
 have hbg : b ≠ g := fun e => ho (.inl e)
 have e : inum s lo hi = ((rnum s.1 s.2.1).2.1, (rnum s.1 s.2.1).2.2, s.2.2 || decide ((rnum s.1 s.2.1).1 < lo) || decide (hi < (rnum s.1 s.2.1).1)) := rfl
 rw [e]
 clear e
 generalize rnum s.1 s.2.1 = R at *
 clear hI hb hc ho
 obtain ⟨bs, bad, o⟩ := s
 dsimp only at *
 obtain ⟨n', R2⟩ := R
 dsimp only at *
 obtain ⟨o', ho'⟩ : ∃ o', (o || decide (n' < lo) || decide (hi < n')) = o' := ⟨_, rfl⟩
 rw [ho']
 cases o
 ·by_cases h1 : n' < lo
  ·skip
   obtain rfl : o' = true := by rw [← ho']; simp [h1]
   clear ho'
   go_enter Try.func59, Try.ntmps59
   go_wp2_with (go_at_call 75; (with_reducible refine C.out.mono ?_); rintro e w' ⟨rfl, hR, hO⟩; obtain ⟨k1, k2, k3, k4⟩ := HK.out w' hO; have k5 := k3; have HR := aK hR; have HO := aK hO; clear hR hO)
   go_end0
   exact ⟨rfl, HS.out _ _ _ HR.out HM.out HO.out _ _⟩
  ·by_cases h2 : hi < n'
   ·skip
    obtain rfl : o' = true := by rw [← ho']; simp [h2]
    clear ho'
    go_enter Try.func59, Try.ntmps59
    go_wp2_with (go_at_call 75; (with_reducible refine C.out.mono ?_); rintro e w' ⟨rfl, hR, hO⟩; obtain ⟨k1, k2, k3, k4⟩ := HK.out w' hO; have k5 := k3; have HR := aK hR; have HO := aK hO; clear hR hO)
    go_end0
    exact ⟨rfl, HS.out _ _ _ HR.out HM.out HO.out _ _⟩
   ·skip
    obtain rfl : o' = false := by rw [← ho']; simp [Int.not_lt.1 h1, Int.not_lt.1 h2]
    clear ho'
    have d1 : decide (n' < lo) = false := decide_eq_false h1
    have d2 : decide (hi < n') = false := decide_eq_false h2
    go_enter Try.func59, Try.ntmps59
    go_wp2_with (go_at_call 75; (with_reducible refine C.out.mono ?_); rintro e w' ⟨rfl, hR, hO⟩; obtain ⟨k1, k2, k3, k4⟩ := HK.out w' hO; have k5 := k3; have HR := aK hR; have HO := aK hO; clear hR hO)
    go_end0
    exact ⟨rfl, HS.out _ _ _ HR.out HM.out HO.out _ _⟩
 ·skip
  obtain rfl : o' = true := by rw [← ho']; simp []
  clear ho'
  go_enter Try.func59, Try.ntmps59
  go_wp2_with (go_at_call 75; (with_reducible refine C.out.mono ?_); rintro e w' ⟨rfl, hR, hO⟩; obtain ⟨k1, k2, k3, k4⟩ := HK.out w' hO; have k5 := k3; have HR := aK hR; have HO := aK hO; clear hR hO)
  go_end0
  exact ⟨rfl, HS.out _ _ _ HR.out HM.out HO.out _ _⟩
theorem zjt (bs : List Int) (bad : Bool) (most : Int) (hm : 0 ≤ most) : 0 ≤ (zbw most bs bad).1 ∧ (zbw most bs bad).1 ≤ most := by
 have h0 := zip bs bad
 unfold zbw
 split
 ·exact ⟨Int.le_refl _, hm⟩
 ·exact ⟨h0, by omega⟩
theorem iGood (g r q : Nat) : (zbc g r q).Good where
 lt := fun {s w k} hI ho => IInv.lt hI ho
 move := fun {s w w'} hI hm _ => IInv.move hI hm
 own_move := fun {s w w'} hI hm k hk => hk
 ahead := fun n m hn hm w => by
  obtain rfl | rfl | rfl | rfl : n = 0 ∨ n = 1 ∨ n = 2 ∨ n = 3 := by omega
  all_goals subst hm; rfl
 method := fun n m hn hm w => by
  obtain rfl | rfl | rfl | rfl : n = 0 ∨ n = 1 ∨ n = 2 ∨ n = 3 := by omega
  all_goals subst hm; rfl
 enter := fun n hn args w => by
  obtain rfl | rfl | rfl | rfl : n = 0 ∨ n = 1 ∨ n = 2 ∨ n = 3 := by omega
  all_goals rfl
 num_c := fun s w b i cs T n lo hi hI ho _ hb hc => inum_c g r q b i s w cs T n lo hi hI ho hb hc
 flag_c := fun s w b i cs T x hI ho _ hb hc => iflag_c g r q b i s w cs T x hI ho hb hc
 text_c := fun s w b i cs T x most hI ho _ hb hc => (itext_c g r q b i s w cs T x most hI ho hb hc).mono fun e w' h => ⟨h.1, h.2.inv, h.2.own, h.2.wrote, Nat.zero_le _⟩
 count_c := fun s w n most hI _ _ _ => icount_c g r q s w n most hI
 count_lim := fun s n most hn hm => ⟨(zjt s.1 s.2.1 most hm).1, .inr (zjt s.1 s.2.1 most hm).2⟩
structure Form.Tame (F : Form) (J : F.σ → Prop) (N : Nat) : Prop where
 num : ∀ {s n lo hi}, J s → J (F.num s n lo hi).1
 flag : ∀ {s x}, J s → J (F.flag s x).1
 text : ∀ {s x most}, J s → x.size ≤ N → J (F.text s x most).1 ∧ (F.text s x most).2.size ≤ N
 count : ∀ {s n most}, J s → J (F.count s n most).1
def Lite (N : Nat) (v : Value) : Prop := ∀ x, v = .string x → x.size ≤ N
def Lites (N : Nat) (vs : List Value) : Prop := ∀ v, v ∈ vs → Lite N v
def ziw (N : Nat) (m : M) : Prop := (∀ i, Lite N (m.c i)) ∧ ∀ j r, r ∈ m.L j → Lites N r
theorem Lite.cost {N : Nat} {v : Value} (h : Lite N v) : zbr v ≤ 8 + N := by
 unfold zbr
 split
 ·have := h _ rfl; omega
 ·omega
theorem Lites.cost {N : Nat} : ∀ {vs : List Value}, Lites N vs → cost vs ≤ vs.length * (8 + N)
 | [], _ => by simp [Wr.cost]
 | v :: vs, h => by
  have h1 := (h v (.head _)).cost
  have h2 := Lites.cost (vs := vs) (fun u hu => h u (.tail _ hu))
  simp only [Wr.cost, List.length_cons, Nat.add_mul]
  omega
variable {F : Form} {J : F.σ → Prop} {N : Nat}
theorem Form.Tame.fld (hT : F.Tame J N) {s : F.σ} {f : Fld} {v : Value} (hs : J s) (hv : Lite N v) : J (F.fld s f v).1 ∧ Lite N (F.fld s f v).2 := by
 unfold Form.fld
 split
 ·exact ⟨hT.num hs, fun x hx => by simp at hx⟩
 ·exact ⟨hT.flag hs, fun x hx => by simp at hx⟩
 ·refine ⟨(hT.text hs (hv _ rfl)).1, fun x hx => ?_⟩
  injection hx with hx
  exact hx ▸ (hT.text hs (hv _ rfl)).2
 ·exact ⟨hs, hv⟩
theorem Form.Tame.row (hT : F.Tame J N) : ∀ {fs : List Fld} {vs : List Value} {s : F.σ}, J s → Lites N vs → J (F.row s fs vs).1 ∧ Lites N (F.row s fs vs).2
 | [], vs, s, hs, hv => by cases vs <;> exact ⟨hs, hv⟩
 | f :: fs, [], s, hs, hv => ⟨hs, hv⟩
 | f :: fs, v :: vs, s, hs, hv => by
  have h1 := hT.fld (f := f) hs (hv v (.head _))
  have h2 := hT.row (fs := fs) (vs := vs) h1.1 (fun u hu => hv u (.tail _ hu))
  refine ⟨h2.1, fun u hu => ?_⟩
  simp only [Form.row] at hu
  rcases List.mem_cons.1 hu with rfl | hu
  ·exact h1.2
  ·exact h2.2 u hu
theorem Form.Tame.rows (hT : F.Tame J N) {fs : List Fld} : ∀ {rs : List (List Value)} {s : F.σ}, J s → (∀ r, r ∈ rs → Lites N r) → J (F.rows fs s rs).1 ∧ ∀ r, r ∈ (F.rows fs s rs).2 → Lites N r
 | [], s, hs, hv => ⟨hs, fun r hr => nomatch hr⟩
 | r :: rs, s, hs, hv => by
  have h1 := hT.row (fs := fs) hs (hv r (.head _))
  have h2 := hT.rows (fs := fs) (rs := rs) h1.1 (fun u hu => hv u (.tail _ hu))
  refine ⟨h2.1, fun u hu => ?_⟩
  simp only [Form.rows] at hu
  rcases List.mem_cons.1 hu with rfl | hu
  ·exact h1.2
  ·exact h2.2 u hu
theorem zqb (fs : List Fld) : Lites N (zao fs) := fun v hv x hx => by
 obtain ⟨f, _, rfl⟩ := List.mem_map.1 hv
 cases f <;> simp [Fld.zero] at hx
 subst hx
 exact Nat.zero_le _
theorem zju {fs : List Fld} {s : F.σ} {most : Nat} {rows : List (List Value)} (h : ∀ r, r ∈ rows → Lites N r) : ∀ r, r ∈ F.listR fs s most rows → Lites N r := fun r hr => by
 unfold Form.listR at hr
 split at hr
 ·rw [(List.mem_replicate.1 hr).2]; exact zqb fs
 ·exact h r hr
theorem Form.Tame.list (hT : F.Tame J N) {fs : List Fld} {most : Nat} {rows : List (List Value)} {s : F.σ} (hs : J s) (h : ∀ r, r ∈ rows → Lites N r) : J (F.list fs s most rows).1 ∧ ∀ r, r ∈ (F.list fs s most rows).2 → Lites N r := by
 have hR := zju (F := F) (fs := fs) (s := s) (most := most) h
 have h1 := hT.rows (fs := fs) (rs := (F.listR fs s most rows).take (F.listM s most rows.length)) (hT.count (n := rows.length) (most := most) hs) (fun r hr => hR r (List.mem_of_mem_take hr))
 refine ⟨h1.1, fun r hr => ?_⟩
 unfold Form.list at hr
 rcases List.mem_append.1 hr with hr | hr
 ·exact h1.2 r hr
 ·exact hR r (List.mem_of_mem_drop hr)
theorem zhg {c : Nat → Value} (h : ∀ i, Lite N (c i)) : ∀ (n i : Nat), Lites N (zaq c i n)
 | 0, i => fun v hv => nomatch hv
 | n + 1, i => fun v hv => by
  simp only [zaq] at hv
  rcases List.mem_cons.1 hv with rfl | hv
  ·exact h i
  ·exact zhg h n (i + 1) v hv
theorem Form.Tame.rowM (hT : F.Tame J N) {s : F.σ} {m : M} {i : Nat} {fs : List Fld} (hs : J s) (hm : ziw N m) : J (F.rowM s m i fs).1 ∧ ziw N (F.rowM s m i fs).2 := by
 have h1 := hT.row (fs := fs) hs (zhg hm.1 fs.length i)
 refine ⟨h1.1, fun k => ?_, hm.2⟩
 simp only [Form.rowM, zdy]
 split
 ·cases hv : (F.row s fs (zaq m.c i fs.length)).2[k - i]? with
  | none => exact hm.1 k
  | some v => exact h1.2 v (List.mem_of_getElem? hv)
 ·exact hm.1 k
theorem Form.Tame.step (hT : F.Tame J N) {s : F.σ} {m : M} {t : Step} (hs : J s) (hm : ziw N m) : J (F.step s m t).1 ∧ ziw N (F.step s m t).2 := by
 cases t with
 | row i fs => exact hT.rowM hs hm
 | most => exact hT.rowM hs hm
 | lst j fs n =>
  have h1 := hT.list (fs := fs) (most := n) hs (hm.2 j)
  refine ⟨h1.1, hm.1, fun k r hr => ?_⟩
  simp only [Form.step, Form.lstM, upL] at hr
  split at hr
  ·exact h1.2 r hr
  ·exact hm.2 k r hr
def Step.few : Step → Bool
 | .row _ fs => decide (fs.length ≤ 8)
 | .most => true
 | .lst _ fs n => decide (fs.length ≤ 8) && decide (n ≤ 64)
theorem zix : ∀ {rs : List (List Value)} {b : Nat}, (∀ r, r ∈ rs → cost r ≤ b) → zbd rs ≤ rs.length * b
 | [], b, _ => by simp [zbd]
 | r :: rs, b, h => by
  have h1 := h r (.head _)
  have h2 := zix (rs := rs) (b := b) (fun q hq => h q (.tail _ hq))
  simp only [zbd, List.length_cons, Nat.add_mul]
  omega
def zng (N : Nat) : Nat := 8 + 512 * (8 + N)
theorem znh {s : F.σ} {m : M} {t : Step} (hm : ziw N m) (ht : t.few = true) (hl : ∀ j r, r ∈ m.L j → r.length ≤ 8) : F.stepCost s m t ≤ zng N := by
 unfold zng
 cases t with
 | row i fs =>
  simp only [Step.few, decide_eq_true_eq] at ht
  have h1 := (zhg hm.1 fs.length i).cost
  rw [zdi] at h1
  have := Nat.mul_le_mul_right (8 + N) ht
  simp only [Form.stepCost]
  omega
 | most => simp only [Form.stepCost]; omega
 | lst j fs n =>
  simp only [Step.few, Bool.and_eq_true, decide_eq_true_eq] at ht
  simp only [Form.stepCost, Form.lstCost]
  have hR := zju (F := F) (fs := fs) (s := s) (most := n) (hm.2 j)
  have h1 : zbd ((F.listR fs s n (m.L j)).take (F.listM s n (m.L j).length)) ≤ ((F.listR fs s n (m.L j)).take (F.listM s n (m.L j).length)).length * (8 * (8 + N)) := by
   refine zix fun r hr => ?_
   have hr' := List.mem_of_mem_take hr
   refine Nat.le_trans (hR r hr').cost (Nat.mul_le_mul_right _ ?_)
   unfold Form.listR at hr'
   split at hr'
   ·rw [(List.mem_replicate.1 hr').2]; simpa [zao] using ht.1
   ·exact hl j r hr'
  have h2 : ((F.listR fs s n (m.L j)).take (F.listM s n (m.L j).length)).length ≤ 64 := by
   rw [List.length_take]; unfold Form.listM; omega
  have h3 := Nat.mul_le_mul_right (8 * (8 + N)) h2
  omega
def Wide (m : M) : Prop := ∀ j r, r ∈ m.L j → r.length ≤ 8
theorem Wide.step {s : F.σ} {m : M} {t : Step} (hm : Wide m) (ht : t.few = true) : Wide (F.step s m t).2 := by
 cases t with
 | row i fs => exact hm
 | most => exact hm
 | lst j fs n =>
  simp only [Step.few, Bool.and_eq_true, decide_eq_true_eq] at ht
  intro k r hr
  simp only [Form.step, Form.lstM, upL] at hr
  split at hr
  ·have hR : ∀ r, r ∈ F.listR fs s n (m.L j) → r.length ≤ 8 := fun r hr' => by
    unfold Form.listR at hr'
    split at hr'
    ·rw [(List.mem_replicate.1 hr').2]; simpa [zao] using ht.1
    ·exact hm j r hr'
   have key : ∀ (rs : List (List Value)) (s : F.σ), (∀ r, r ∈ rs → r.length ≤ 8) → ∀ r, r ∈ (F.rows fs s rs).2 → r.length ≤ 8 := by
    intro rs
    induction rs with
    | nil => intro s _ r hr; nomatch hr
    | cons q rs ih =>
     intro s h r hr
     simp only [Form.rows] at hr
     rcases List.mem_cons.1 hr with rfl | hr
     ·rw [zfw]; exact h q (.head _)
     ·exact ih _ (fun r hr => h r (.tail _ hr)) r hr
   unfold Form.list at hr
   rcases List.mem_append.1 hr with hr | hr
   ·exact key _ _ (fun r hr => hR r (List.mem_of_mem_take hr)) r hr
   ·exact hR r (List.mem_of_mem_drop hr)
  ·exact hm k r hr
theorem zjv (hT : F.Tame J N) : ∀ {ts : List Step} {s : F.σ} {m : M}, J s → ziw N m → Wide m → ts.all Step.few = true → F.runCost s m ts ≤ ts.length * zng N
 | [], s, m, _, _, _, _ => by simp [Form.runCost]
 | t :: ts, s, m, hs, hm, hw, h => by
  simp only [List.all_cons, Bool.and_eq_true] at h
  have h1 := znh (F := F) (s := s) hm h.1 hw
  have h2 := hT.step (t := t) hs hm
  have h3 := zjv hT (ts := ts) h2.1 h2.2 (hw.step h.1) h.2
  simp only [Form.runCost, List.length_cons, Nat.add_mul]
  omega
theorem zrx (hT : F.Tame J N) : ∀ {ts : List Step} {s : F.σ} {m : M}, J s → ziw N m → J (F.run s m ts).1 ∧ ziw N (F.run s m ts).2
 | [], s, m, hs, hm => ⟨hs, hm⟩
 | t :: ts, s, m, hs, hm => zrx hT (ts := ts) (hT.step hs hm).1 (hT.step hs hm).2
theorem oTame (g N : Nat) : (zar g).Tame (fun _ => True) N := ⟨fun _ => trivial, fun _ => trivial, fun _ h => ⟨trivial, h⟩, fun _ => trivial⟩
theorem zni (bs : List Int) (bad : Bool) : (rnum bs bad).2.1.length ≤ bs.length := by
 obtain ⟨m, e⟩ := ziq bs bad
 rw [e, List.length_drop]; omega
theorem zqc (xs : List Int) : (strOfNums xs).size = xs.length := strOfNums_size xs
theorem iTame (g r q N : Nat) : (zbc g r q).Tame (fun s => s.1.length ≤ N) N := by
 refine ⟨fun {s n lo hi} h => Nat.le_trans (zni _ _) h, fun {s x} h => ?_, fun {s x most} h _ => ?_, fun {s n most} h => ?_⟩
 ·refine Nat.le_trans ?_ h
  show (zem s.1 s.2.1).2.1.length ≤ _
  unfold zem
  split
  ·exact Nat.le_refl _
  ·split
   ·exact Nat.zero_le _
   ·rename_i c t e
    rw [e]; split <;> simp
 ·have h1 := zni s.1 s.2.1
  constructor
  ·refine Nat.le_trans ?_ h
   show (zeq most s.1 s.2.1).2.1.length ≤ _
   unfold zeq
   split
   ·exact h1
   ·simp only [List.length_drop]; omega
  ·show (strOfNums (zeq most s.1 s.2.1).1).size ≤ N
   rw [zqc]
   unfold zeq
   split
   ·exact Nat.zero_le _
   ·simp only [List.length_take]; omega
 ·refine Nat.le_trans ?_ h
  show (zbw most s.1 s.2.1).2.1.length ≤ _
  unfold zbw
  split <;> exact zni _ _
theorem oFld (g : Nat) (s : (zar g).σ) (f : Fld) (v : Value) : ((zar g).fld s f v).2 = v := by
 cases f <;> cases v <;> first | rfl | (rename_i k x; cases k <;> rfl)
theorem oRow (g : Nat) : ∀ (fs : List Fld) (vs : List Value) (s : (zar g).σ), ((zar g).row s fs vs).2 = vs
 | [], vs, s => by cases vs <;> rfl
 | f :: fs, [], s => rfl
 | f :: fs, v :: vs, s => by
  simp only [Form.row]
  rw [oFld, oRow g fs vs]
theorem oRows (g : Nat) (fs : List Fld) : ∀ (rs : List (List Value)) (s : (zar g).σ), ((zar g).rows fs s rs).2 = rs
 | [], s => rfl
 | r :: rs, s => by
  simp only [Form.rows]
  rw [oRow, oRows g fs rs]
theorem oListR (g : Nat) (fs : List Fld) (s : (zar g).σ) (most : Nat) (rows : List (List Value)) : (zar g).listR fs s most rows = rows := by
 unfold Form.listR
 rw [if_neg]
 show ¬ rows.length < (rows.length : Int).toNat
 omega
theorem oList (g : Nat) (fs : List Fld) (s : (zar g).σ) (most : Nat) (rows : List (List Value)) : ((zar g).list fs s most rows).2 = rows := by
 unfold Form.list
 simp only [oListR, oRows, List.take_append_drop]
theorem zfy (c : Nat → Value) (i : Nat) : ∀ n, zdy c i (zaq c i n) = c := fun n => by
 funext k
 unfold zdy
 split
 ·cases hv : (zaq c i n)[k - i]? with
  | none => rfl
  | some v =>
   rw [Option.getD_some, zfx c n i (k - i) v hv, show i + (k - i) = k by omega]
 ·rfl
theorem zoh (L : Nat → List (List Value)) (j : Nat) : upL L j (L j) = L := by
 funext k
 unfold upL
 split
 ·rename_i e; rw [e]
 ·rfl
theorem zry (g : Nat) (s : (zar g).σ) (m : M) (i : Nat) (fs : List Fld) : ((zar g).rowM s m i fs).2 = m := by
 unfold Form.rowM
 simp only [oRow, zfy]
theorem oStep (g : Nat) (s : (zar g).σ) (m : M) (t : Step) : ((zar g).step s m t).2 = m := by
 cases t with
 | row i fs => exact zry g s m i fs
 | most => exact zry g s m 7 _
 | lst j fs n =>
  simp only [Form.step, Form.lstM, oList, zoh]
theorem oRun_m (g : Nat) : ∀ (ts : List Step) (s : (zar g).σ) (m : M), ((zar g).run s m ts).2 = m
 | [], s, m => rfl
 | t :: ts, s, m => by
  simp only [Form.run]
  rw [oRun_m g ts, oStep]
theorem zmc (g h : Nat) : ∀ (fs : List Fld) (vs : List Value) (s : OSt), ((zar g).row s fs vs).1 = ((zar h).row s fs vs).1
 | [], vs, s => by cases vs <;> rfl
 | f :: fs, [], s => rfl
 | f :: fs, v :: vs, s => zmc g h fs vs ((zar g).fld s f v).1
theorem zrz (g h : Nat) (fs : List Fld) : ∀ (rs : List (List Value)) (s : OSt), ((zar g).rows fs s rs).1 = ((zar h).rows fs s rs).1
 | [], s => rfl
 | r :: rs, s => (zrz g h fs rs ((zar g).row s fs r).1).trans (congrArg (fun s' : OSt => ((zar h).rows fs s' rs).1) (zmc g h fs r s))
theorem oList_g (g h : Nat) (fs : List Fld) (s : OSt) (most : Nat) (rows : List (List Value)) : ((zar g).list fs s most rows).1 = ((zar h).list fs s most rows).1 := zrz g h fs _ _
theorem oStep_g (g h : Nat) (s : OSt) (m : M) (t : Step) : ((zar g).step s m t).1 = ((zar h).step s m t).1 := by
 cases t with
 | row i fs => exact zmc g h fs _ s
 | most => exact zmc g h _ _ s
 | lst j fs n => exact oList_g g h fs s n _
theorem oRun_g (g h : Nat) : ∀ (ts : List Step) (s : OSt) (m : M), ((zar g).run s m ts).1 = ((zar h).run s m ts).1
 | [], s, m => rfl
 | t :: ts, s, m => by
  have e1 := oStep g s m t
  have e2 := oStep h s m t
  have e3 := oStep_g g h s m t
  show ((zar g).run ((zar g).step s m t).1 ((zar g).step s m t).2 ts).1 = ((zar h).run ((zar h).step s m t).1 ((zar h).step s m t).2 ts).1
  rw [e1, e2]
  exact (oRun_g g h ts _ m).trans (congrArg (fun s' : OSt => ((zar h).run s' m ts).1) e3)
def msgC (c sv : Nat → Value) : Array Value := #[c 0, c 1, c 2, sv 3, c 4, c 5, c 6, c 7, sv 8, sv 9, sv 10, c 11, c 12, c 13, c 14, c 15, c 16, c 17, c 18, c 19, c 20, c 21, c 22, c 23, c 24, c 25]
def msgV (c sv : Nat → Value) : Value := .agg (msgC c sv)
def zbh (m : M) : Prop := ∀ i, scalar i = true → (zck i).fits (m.c i)
def Fit (m : M) : Prop := ∀ j fs, (j, fs) ∈ zah → ∀ r, r ∈ m.L j → fits fs r
structure MsgRd (w : World) (v : Value) (m : M) (sv : Nat → Value) : Prop where
 eq : v = msgV m.c sv
 typed : zbh m
 fit : Fit m
 rd : ∀ j fs, (j, fs) ∈ zah → ListRd w (sv j) fs.length (m.L j)
theorem fitl {fs : List Fld} {j : Nat} {m : M} (h : Fit m) (hj : (j, fs) ∈ zah) : ∀ r, r ∈ m.L j → r.length = fs.length := fun r hr => zax (h j fs hj r hr)
theorem zsa {fs : List Fld} {j : Nat} (h : (j, fs) ∈ zah) : 0 < fs.length := by
 simp only [zah, List.mem_cons, Prod.mk.injEq, List.not_mem_nil, or_false] at h
 rcases h with ⟨_, rfl⟩ | ⟨_, rfl⟩ | ⟨_, rfl⟩ | ⟨_, rfl⟩ <;> simp [zak, zat, zau, zaj]
theorem MsgRd.below {w w' : World} {v : Value} {m : M} {sv : Nat → Value} (h : MsgRd w v m sv) (hB : Below w.heap.size w w') : MsgRd w' v m sv :=
 ⟨h.eq, h.typed, h.fit, fun j fs hj => (h.rd j fs hj).below (zsa hj) (fitl h.fit hj) hB⟩
structure Small (m : M) : Prop where
 lite : ziw 1048576 m
 few : ∀ j, (m.L j).length ≤ 1048576
 wide : Wide m
theorem Fit.wide {m : M} (h : Fit m) (hn : ∀ j, (∀ fs, (j, fs) ∉ zah) → m.L j = []) : Wide m := fun j r hr => by
 by_cases hj : ∃ fs, (j, fs) ∈ zah
 ·obtain ⟨fs, hj⟩ := hj
  rw [fitl h hj r hr]
  simp only [zah, List.mem_cons, Prod.mk.injEq, List.not_mem_nil, or_false] at hj
  rcases hj with ⟨_, rfl⟩ | ⟨_, rfl⟩ | ⟨_, rfl⟩ | ⟨_, rfl⟩ <;> simp [zak, zat, zau, zaj]
 ·rw [hn j (fun fs h => hj ⟨fs, h⟩)] at hr
  nomatch hr
theorem zaz {B : Nat} {S : Nat → Prop} {a w w' : World} (h : Below B a w) (ho : Only S w w') (hB : B ≤ w.heap.size) (hs : ∀ k, S k → B ≤ k) : Below B a w' :=
 ⟨ho.os.trans h.os, ho.tape.trans h.tape, ho.output.trans h.output, Nat.le_trans h.size ho.size, fun k hk => (ho.block k (by omega) (fun s => by have := hs k s; omega)).trans (h.block k hk)⟩
theorem zez (g : Nat) : ∀ (vs : List Value) (o : Nat) (w : World) (k : Nat), k ≠ g → (w.setCells g o vs).heap[k]? = w.heap[k]?
 | [], o, w, k, _ => rfl
 | v :: vs, o, w, k, hk => (zez g vs (o + 1) _ k hk).trans (Below.heap_setCell w ⟨g, o, none⟩ v k hk)
theorem zfa (g : Nat) : ∀ (vs : List Value) (o : Nat) (w : World), (w.setCells g o vs).heap.size = w.heap.size
 | [], o, w => rfl
 | v :: vs, o, w => (zfa g vs (o + 1) _).trans (World.size_setCell _ _ _)
theorem zfb (g : Nat) (vs : List Value) (o : Nat) (W : World) : Only (· = g) W (W.setCells g o vs) := by
 have key : ∀ (vs : List Value) (o : Nat) (w : World), (w.setCells g o vs).os = w.os ∧ (w.setCells g o vs).tape = w.tape ∧ (w.setCells g o vs).output = w.output := by
  intro vs
  induction vs with
  | nil => intro o w; exact ⟨rfl, rfl, rfl⟩
  | cons v vs ih => intro o w; exact ih (o + 1) _
 exact ⟨(key _ _ _).1, (key _ _ _).2.1, (key _ _ _).2.2, by rw [zfa]; exact Nat.le_refl _, fun k _ hk => zez g vs o W k hk⟩
def zhh (cs : Array Value) : Nat → List Value → Array Value
 | _, [] => cs
 | o, v :: vs => zhh (cs.setIfInBounds o v) (o + 1) vs
theorem zsb (vs : List Value) : ∀ (cs : Array Value) (o j : Nat), o + vs.length ≤ cs.size → (zhh cs o vs)[j]? = if o ≤ j ∧ j < o + vs.length then vs[j - o]? else cs[j]? := by
 induction vs with
 | nil => intro cs o j _; rw [if_neg (by simp)]; rfl
 | cons v vs ih =>
  intro cs o j h
  simp only [List.length_cons] at h ⊢
  simp only [zhh]
  rw [ih _ _ _ (by simp; omega)]
  by_cases h1 : o = j
  ·subst h1
   rw [if_neg (by omega), if_pos (by omega), Nat.sub_self, List.getElem?_cons_zero, Array.getElem?_setIfInBounds_self_of_lt (by omega)]
  ·by_cases h2 : o + 1 ≤ j ∧ j < o + 1 + vs.length
   ·rw [if_pos h2, if_pos (by omega), show j - o = (j - (o + 1)) + 1 by omega, List.getElem?_cons_succ]
   ·rw [if_neg h2, if_neg (by omega), Array.getElem?_setIfInBounds_ne h1]
theorem zmd {cs : Array Value} {vs : List Value} (h : vs.length = cs.size) : zhh cs 0 vs = vs.toArray := by
 apply Array.ext_getElem?
 intro j
 rw [zsb vs cs 0 j (by omega)]
 split
 ·rw [Nat.sub_zero]; simp
 ·rw [Array.getElem?_eq_none (by omega)]; simp; omega
theorem zej {g : Nat} {T : TypeId} : ∀ (vs : List Value) (o : Nat) (w : World) (cs : Array Value), w.heap[g]? = some (.cells cs T (0, 0)) → (w.setCells g o vs).heap[g]? = some (.cells (zhh cs o vs) T (0, 0))
 | [], o, w, cs, h => h
 | v :: vs, o, w, cs, h => zej vs (o + 1) _ _ (zcm h o v)
def zdj (cells : Array Value) : Prop := cells.toList.all (·.oneCell') = true
section
variable {P : Program} {ops : Array Oper} {rest : List Oper} {o : Oper} {a : Act} {Q : Exit → Act → World → Prop} {W : World}
theorem zbf (hgd : o.guard = none) (T : TypeId) (x : Operand) (ho : o.op = .box T x) (cells : Array Value) (hx : a.eval x = .agg cells)
  (h : ∀ g w1, g = W.heap.size → w1.heap[g]? = some (.cells cells T (0, 0)) → Below W.heap.size W w1 → wpList P ops Q rest (a.put o.dst (.pointer (some ⟨g, 0, none⟩))) w1) : wpList P ops Q (o :: rest) a W := by
 refine Kd.event_run hgd (v := .pointer (some ⟨W.heap.size, 0, none⟩)) (w1 := W.alloc (.cells cells T (0, 0))) ?_ (h _ _ rfl (zkg W _) (zaa (Below.refl _ _) _))
 unfold execOp
 simp only [ho, hx]
 rfl
theorem zbe (hgd : o.guard = none) (T : TypeId) (ho : o.op = .alloc T) (zs : Array Value) (hz : (zeroValue T).run P W = .ok (.agg zs) W)
  (h : ∀ g w1, g = W.heap.size → w1.heap[g]? = some (.cells zs T (0, 0)) → Below W.heap.size W w1 → wpList P ops Q rest (a.put o.dst (.pointer (some ⟨g, 0, none⟩))) w1) : wpList P ops Q (o :: rest) a W := by
 refine Kd.event_run hgd (v := .pointer (some ⟨W.heap.size, 0, none⟩)) (w1 := W.alloc (.cells zs T (0, 0))) ?_ (h _ _ rfl (zkg W _) (zaa (Below.refl _ _) _))
 unfold execOp
 simp only [ho, Instr.alloc, Sem.run_bind, hz, Result.andThen_ok]
 rfl
theorem zbl (hgd : o.guard = none) (T : TypeId) (x : Operand) (ho : o.op = .load T x) (g : Nat) (hx : a.eval x = .pointer (some ⟨g, 0, none⟩)) (cells : Array Value) (T' : TypeId) (hb : W.heap[g]? = some (.cells cells T' (0, 0)))
  (d : TypeDesc) (hu : P.underlying T = some d) (hd : d.isRow = true) (hi : (P.info? T).map (·.size) = some cells.size) (h : wpList P ops Q rest (a.put o.dst (.agg cells)) W) : wpList P ops Q (o :: rest) a W := by
 refine wpList_load_mid hgd T x ho g 0 hx cells.toList d (fun j v hj => ?_) hu hd (by simpa using hi) (by simpa using h)
 rw [Nat.zero_add]
 exact (zab hb j).trans (by simpa using hj)
theorem zbk (hgd : o.guard = none) (T : TypeId) (x y : Operand) (ho : o.op = .store T x y) (g : Nat) (hx : a.eval x = .pointer (some ⟨g, 0, none⟩)) (cells cs : Array Value) (hy : a.eval y = .agg cells) (T' : TypeId) (hb : W.heap[g]? = some (.cells cs T' (0, 0)))
  (hs : cells.size = cs.size) (hi : (P.info? T).map (·.size) = some cells.size) (h1 : zdj cells)
  (h : ∀ w1, w1.heap[g]? = some (.cells cells T' (0, 0)) → Only (· = g) W w1 → wpList P ops Q rest (a.put o.dst undef) w1) : wpList P ops Q (o :: rest) a W := by
 refine wpList_store_mid hgd T x y ho g 0 cells hx hy (fun j hj => ?_) hi (by unfold zdj at h1; rw [← Array.all_toList]; exact h1) (h _ ?_ ?_)
 ·rw [Nat.zero_add]
  refine ⟨?_, zbg hb j⟩
  rw [zab hb j, Array.getElem?_eq_getElem (by omega)]
  rfl
 ·have := zej cells.toList 0 W cs hb
  rw [zmd (by simpa using hs)] at this
  simpa using this
 ·have ho' : (W.setCells g 0 cells.toList).os = W.os ∧ (W.setCells g 0 cells.toList).tape = W.tape ∧ (W.setCells g 0 cells.toList).output = W.output := by
   have key : ∀ (vs : List Value) (o : Nat) (w : World), (w.setCells g o vs).os = w.os ∧ (w.setCells g o vs).tape = w.tape ∧ (w.setCells g o vs).output = w.output := by
    intro vs
    induction vs with
    | nil => intro o w; exact ⟨rfl, rfl, rfl⟩
    | cons v vs ih => intro o w; exact ih (o + 1) _
   exact key _ _ _
  exact ⟨ho'.1, ho'.2.1, ho'.2.2, by rw [zfa]; exact Nat.le_refl _, fun k _ hk => zez g _ 0 W k hk⟩
end
theorem zsc : zdv 41 (zal 3) (fun v => v = .int .i64 3) := by
 intro F hF s w b A m hAl h hK hr
 have hmf : ∀ (fn : Fn) (first cap : Array Value) (w : World), (Instr.makeFunc fn first cap).run Try.prog w = .ok (.func fn first cap) w := fun _ _ _ _ => rfl
 obtain ⟨cs0, hb0⟩ : ∃ cs0, w.heap[b]? = some (.cells cs0 35 (0, 0)) := let ⟨cs, _, h2, _⟩ := h.blk; ⟨cs, h2⟩
 have HGb := aK (show w.heap.size ≠ b from fun e => by have := zad hb0; omega)
 have HGA := aK (show ¬ A w.heap.size from fun e => by have := hAl _ e; omega)
 have HGo := aK (show ¬ F.own (w.alloc (.cells #[.iface F.ty F.v] 114)).heap w.heap.size from fun e => by have := hF.lt h.inv (zbn hF h.inv _ _ e); omega)
 have cg0 : (w.alloc (.cells #[.iface F.ty F.v] 114)).cell? ⟨w.heap.size, 0, none⟩ = some (.iface F.ty F.v) := by rw [World.cell?_alloc_at _ _ _ _ rfl]; rfl
 have S0 := aK (Stand.start (h.alloc hF (.cells #[.iface F.ty F.v] 114)) (zal 3))
 rw [hK] at S0
 have HCg := aK cg0
 have HR := aK hr
 have HG := aK hF
 have ck0 := S0.out.kind
 have HBl := aK (zad hb0)
 have ck00 : w.cell? ⟨b, 0, none⟩ = some (.int .i64 3) := ((World.cell?_alloc_past _ _ _ HBl.out).symm.trans ck0)
 suffices hsuf : Calls Try.prog 41 #[.iface F.ty F.v, .pointer (some ⟨b, 0, none⟩)] w (MOn F s (w.alloc (.cells #[.iface F.ty F.v] 114)) b A (F.run s m (zal 3)).1 (F.runCost s m (zal 3)) (F.run s m (zal 3)).2) from hsuf.mono (fun e w' H => H.unalloc hF h.inv)
 generalize (F.run s m (zal 3)).1 = sF at *
 generalize (F.run s m (zal 3)).2 = mF at *
 generalize F.runCost s m (zal 3) = C at *
 clear h hr hF hAl hb0 cs0 hK
 have S0 := aK (show Stand F s (w.alloc (.cells #[.iface F.ty F.v] 114)) b A (.int .i64 3) C sF mF (ziv ++ []) (w.alloc (.cells #[.iface F.ty F.v] 114)) from S0.out)
 go_enter Try.func41, Try.ntmps41
 have C0 := aK (Stand.whole' part_c S0.out HG.out HR.out trivial rfl)
 go_wp2_with (go_at_call 67; (with_reducible refine C0.out.mono ?_); rintro e w1 ⟨rfl, H⟩; have cg1 := H.cell HGo.out HGb.out HGA.out HCg.out; have ck1 := H.kind; have S1 := aK H; clear H)
 go_end0
 exact S1.out.done
theorem zsd : zdv 41 (zal 4) (fun v => v = .int .i64 4) := by
 intro F hF s w b A m hAl h hK hr
 have hmf : ∀ (fn : Fn) (first cap : Array Value) (w : World), (Instr.makeFunc fn first cap).run Try.prog w = .ok (.func fn first cap) w := fun _ _ _ _ => rfl
 obtain ⟨cs0, hb0⟩ : ∃ cs0, w.heap[b]? = some (.cells cs0 35 (0, 0)) := let ⟨cs, _, h2, _⟩ := h.blk; ⟨cs, h2⟩
 have HGb := aK (show w.heap.size ≠ b from fun e => by have := zad hb0; omega)
 have HGA := aK (show ¬ A w.heap.size from fun e => by have := hAl _ e; omega)
 have HGo := aK (show ¬ F.own (w.alloc (.cells #[.iface F.ty F.v] 114)).heap w.heap.size from fun e => by have := hF.lt h.inv (zbn hF h.inv _ _ e); omega)
 have cg0 : (w.alloc (.cells #[.iface F.ty F.v] 114)).cell? ⟨w.heap.size, 0, none⟩ = some (.iface F.ty F.v) := by rw [World.cell?_alloc_at _ _ _ _ rfl]; rfl
 have S0 := aK (Stand.start (h.alloc hF (.cells #[.iface F.ty F.v] 114)) (zal 4))
 rw [hK] at S0
 have HCg := aK cg0
 have HR := aK hr
 have HG := aK hF
 have ck0 := S0.out.kind
 have HBl := aK (zad hb0)
 have ck00 : w.cell? ⟨b, 0, none⟩ = some (.int .i64 4) := ((World.cell?_alloc_past _ _ _ HBl.out).symm.trans ck0)
 suffices hsuf : Calls Try.prog 41 #[.iface F.ty F.v, .pointer (some ⟨b, 0, none⟩)] w (MOn F s (w.alloc (.cells #[.iface F.ty F.v] 114)) b A (F.run s m (zal 4)).1 (F.runCost s m (zal 4)) (F.run s m (zal 4)).2) from hsuf.mono (fun e w' H => H.unalloc hF h.inv)
 generalize (F.run s m (zal 4)).1 = sF at *
 generalize (F.run s m (zal 4)).2 = mF at *
 generalize F.runCost s m (zal 4) = C at *
 clear h hr hF hAl hb0 cs0 hK
 have S0 := aK (show Stand F s (w.alloc (.cells #[.iface F.ty F.v] 114)) b A (.int .i64 4) C sF mF [.lst 10 zaj 64] (w.alloc (.cells #[.iface F.ty F.v] 114)) from S0.out)
 go_enter Try.func41, Try.ntmps41
 have C0 := aK (S0.out.lst HG.out HR.out listT_c (by omega) (by simp [zah]) HGo.out HGb.out HGA.out HCg.out)
 go_wp2
 go_region_held3 (fun W => W.cell? ⟨w.heap.size, 0, none⟩ = some (.iface F.ty F.v)) (go_keep) (((with_reducible refine C0.out.mono ?_); rintro e w1 ⟨rfl, H⟩; have cg1 := H.cell HGo.out HGb.out HGA.out HCg.out; have ck1 := H.kind; have S1 := aK H; clear H))
 go_wp2
 go_end0
 exact S1.out.done
theorem zse : zdv 41 (zal 5) (fun v => v = .int .i64 5) := by
 intro F hF s w b A m hAl h hK hr
 have hmf : ∀ (fn : Fn) (first cap : Array Value) (w : World), (Instr.makeFunc fn first cap).run Try.prog w = .ok (.func fn first cap) w := fun _ _ _ _ => rfl
 have HA1 := hF.ahead 1 "meridian/wire.flag" (by decide) rfl
 have HM1 := hF.method 1 "meridian/wire.flag" (by decide) rfl
 have HE1 := hF.enter 1 (by decide)
 obtain ⟨cs0, hb0⟩ : ∃ cs0, w.heap[b]? = some (.cells cs0 35 (0, 0)) := let ⟨cs, _, h2, _⟩ := h.blk; ⟨cs, h2⟩
 have HGb := aK (show w.heap.size ≠ b from fun e => by have := zad hb0; omega)
 have HGA := aK (show ¬ A w.heap.size from fun e => by have := hAl _ e; omega)
 have HGo := aK (show ¬ F.own (w.alloc (.cells #[.iface F.ty F.v] 114)).heap w.heap.size from fun e => by have := hF.lt h.inv (zbn hF h.inv _ _ e); omega)
 have cg0 : (w.alloc (.cells #[.iface F.ty F.v] 114)).cell? ⟨w.heap.size, 0, none⟩ = some (.iface F.ty F.v) := by rw [World.cell?_alloc_at _ _ _ _ rfl]; rfl
 have S0 := aK (Stand.start (h.alloc hF (.cells #[.iface F.ty F.v] 114)) (zal 5))
 rw [hK] at S0
 have HCg := aK cg0
 have HR := aK hr
 have HG := aK hF
 have ck0 := S0.out.kind
 have HBl := aK (zad hb0)
 have ck00 : w.cell? ⟨b, 0, none⟩ = some (.int .i64 5) := ((World.cell?_alloc_past _ _ _ HBl.out).symm.trans ck0)
 suffices hsuf : Calls Try.prog 41 #[.iface F.ty F.v, .pointer (some ⟨b, 0, none⟩)] w (MOn F s (w.alloc (.cells #[.iface F.ty F.v] 114)) b A (F.run s m (zal 5)).1 (F.runCost s m (zal 5)) (F.run s m (zal 5)).2) from hsuf.mono (fun e w' H => H.unalloc hF h.inv)
 generalize (F.run s m (zal 5)).1 = sF at *
 generalize (F.run s m (zal 5)).2 = mF at *
 generalize F.runCost s m (zal 5) = C at *
 clear h hr hF hAl hb0 cs0 hK
 have S0 := aK (show Stand F s (w.alloc (.cells #[.iface F.ty F.v] 114)) b A (.int .i64 5) C sF mF [.row 11 posF, .row 13 [.flag]] (w.alloc (.cells #[.iface F.ty F.v] 114)) from S0.out)
 go_enter Try.func41, Try.ntmps41
 have C0 := aK (S0.out.rowC HG.out HR.out zhy rfl (by omega))
 go_wp2
 go_region_held3 (fun W => W.cell? ⟨w.heap.size, 0, none⟩ = some (.iface F.ty F.v)) (go_keep) (((with_reducible refine C0.out.mono ?_); rintro e w1 ⟨rfl, H⟩; have cg1 := H.cell HGo.out HGb.out HGA.out HCg.out; have ck1 := H.kind; have S1 := aK H; clear H))
 have C1 := aK (S1.out.flag HG.out HR.out rfl (by omega))
 go_wp2
 go_region_held3 (fun W => W.cell? ⟨w.heap.size, 0, none⟩ = some (.iface F.ty F.v)) (go_keep) (((with_reducible refine C1.out.mono ?_); rintro e w2 ⟨rfl, H⟩; have cg2 := H.cell HGo.out HGb.out HGA.out HCg.out; have ck2 := H.kind; have S2 := aK H; clear H))
 go_wp2
 go_end0
 exact S2.out.done
theorem zsf : zdv 41 (zal 7) (fun v => v = .int .i64 7) := by
 intro F hF s w b A m hAl h hK hr
 have hmf : ∀ (fn : Fn) (first cap : Array Value) (w : World), (Instr.makeFunc fn first cap).run Try.prog w = .ok (.func fn first cap) w := fun _ _ _ _ => rfl
 have HA2 := hF.ahead 2 "meridian/wire.text" (by decide) rfl
 have HM2 := hF.method 2 "meridian/wire.text" (by decide) rfl
 have HE2 := hF.enter 2 (by decide)
 obtain ⟨cs0, hb0⟩ : ∃ cs0, w.heap[b]? = some (.cells cs0 35 (0, 0)) := let ⟨cs, _, h2, _⟩ := h.blk; ⟨cs, h2⟩
 have HGb := aK (show w.heap.size ≠ b from fun e => by have := zad hb0; omega)
 have HGA := aK (show ¬ A w.heap.size from fun e => by have := hAl _ e; omega)
 have HGo := aK (show ¬ F.own (w.alloc (.cells #[.iface F.ty F.v] 114)).heap w.heap.size from fun e => by have := hF.lt h.inv (zbn hF h.inv _ _ e); omega)
 have cg0 : (w.alloc (.cells #[.iface F.ty F.v] 114)).cell? ⟨w.heap.size, 0, none⟩ = some (.iface F.ty F.v) := by rw [World.cell?_alloc_at _ _ _ _ rfl]; rfl
 have S0 := aK (Stand.start (h.alloc hF (.cells #[.iface F.ty F.v] 114)) (zal 7))
 rw [hK] at S0
 have HCg := aK cg0
 have HR := aK hr
 have HG := aK hF
 have ck0 := S0.out.kind
 have HBl := aK (zad hb0)
 have ck00 : w.cell? ⟨b, 0, none⟩ = some (.int .i64 7) := ((World.cell?_alloc_past _ _ _ HBl.out).symm.trans ck0)
 suffices hsuf : Calls Try.prog 41 #[.iface F.ty F.v, .pointer (some ⟨b, 0, none⟩)] w (MOn F s (w.alloc (.cells #[.iface F.ty F.v] 114)) b A (F.run s m (zal 7)).1 (F.runCost s m (zal 7)) (F.run s m (zal 7)).2) from hsuf.mono (fun e w' H => H.unalloc hF h.inv)
 generalize (F.run s m (zal 7)).1 = sF at *
 generalize (F.run s m (zal 7)).2 = mF at *
 generalize F.runCost s m (zal 7) = C at *
 clear h hr hF hAl hb0 cs0 hK
 have S0 := aK (show Stand F s (w.alloc (.cells #[.iface F.ty F.v] 114)) b A (.int .i64 7) C sF mF (whoS ++ [.row 16 [.text 64], .row 19 posF]) (w.alloc (.cells #[.iface F.ty F.v] 114)) from S0.out)
 go_enter Try.func41, Try.ntmps41
 have C0 := aK (Stand.whole' who_c S0.out HG.out HR.out trivial rfl)
 go_wp2_with (go_at_call 70; (with_reducible refine C0.out.mono ?_); rintro e w1 ⟨rfl, H⟩; have cg1 := H.cell HGo.out HGb.out HGA.out HCg.out; have ck1 := H.kind; have S1 := aK H; clear H)
 have C1 := aK (S1.out.text HG.out HR.out rfl (by omega))
 go_region_held3 (fun W => W.cell? ⟨w.heap.size, 0, none⟩ = some (.iface F.ty F.v)) (go_keep) (((with_reducible refine C1.out.mono ?_); rintro e w2 ⟨rfl, H⟩; have cg2 := H.cell HGo.out HGb.out HGA.out HCg.out; have ck2 := H.kind; have S2 := aK H; clear H))
 have C2 := aK (S2.out.rowC HG.out HR.out zhy rfl (by omega))
 go_wp2
 go_region_held3 (fun W => W.cell? ⟨w.heap.size, 0, none⟩ = some (.iface F.ty F.v)) (go_keep) (((with_reducible refine C2.out.mono ?_); rintro e w3 ⟨rfl, H⟩; have cg3 := H.cell HGo.out HGb.out HGA.out HCg.out; have ck3 := H.kind; have S3 := aK H; clear H))
 go_wp2
 go_end0
 exact S3.out.done
theorem zsg : zdv 41 (zal 8) (fun v => v = .int .i64 8) := by
 intro F hF s w b A m hAl h hK hr
 have hmf : ∀ (fn : Fn) (first cap : Array Value) (w : World), (Instr.makeFunc fn first cap).run Try.prog w = .ok (.func fn first cap) w := fun _ _ _ _ => rfl
 have HA1 := hF.ahead 1 "meridian/wire.flag" (by decide) rfl
 have HM1 := hF.method 1 "meridian/wire.flag" (by decide) rfl
 have HE1 := hF.enter 1 (by decide)
 have HA2 := hF.ahead 2 "meridian/wire.text" (by decide) rfl
 have HM2 := hF.method 2 "meridian/wire.text" (by decide) rfl
 have HE2 := hF.enter 2 (by decide)
 obtain ⟨cs0, hb0⟩ : ∃ cs0, w.heap[b]? = some (.cells cs0 35 (0, 0)) := let ⟨cs, _, h2, _⟩ := h.blk; ⟨cs, h2⟩
 have HGb := aK (show w.heap.size ≠ b from fun e => by have := zad hb0; omega)
 have HGA := aK (show ¬ A w.heap.size from fun e => by have := hAl _ e; omega)
 have HGo := aK (show ¬ F.own (w.alloc (.cells #[.iface F.ty F.v] 114)).heap w.heap.size from fun e => by have := hF.lt h.inv (zbn hF h.inv _ _ e); omega)
 have cg0 : (w.alloc (.cells #[.iface F.ty F.v] 114)).cell? ⟨w.heap.size, 0, none⟩ = some (.iface F.ty F.v) := by rw [World.cell?_alloc_at _ _ _ _ rfl]; rfl
 have S0 := aK (Stand.start (h.alloc hF (.cells #[.iface F.ty F.v] 114)) (zal 8))
 rw [hK] at S0
 have HCg := aK cg0
 have HR := aK hr
 have HG := aK hF
 have ck0 := S0.out.kind
 have HBl := aK (zad hb0)
 have ck00 : w.cell? ⟨b, 0, none⟩ = some (.int .i64 8) := ((World.cell?_alloc_past _ _ _ HBl.out).symm.trans ck0)
 suffices hsuf : Calls Try.prog 41 #[.iface F.ty F.v, .pointer (some ⟨b, 0, none⟩)] w (MOn F s (w.alloc (.cells #[.iface F.ty F.v] 114)) b A (F.run s m (zal 8)).1 (F.runCost s m (zal 8)) (F.run s m (zal 8)).2) from hsuf.mono (fun e w' H => H.unalloc hF h.inv)
 generalize (F.run s m (zal 8)).1 = sF at *
 generalize (F.run s m (zal 8)).2 = mF at *
 generalize F.runCost s m (zal 8) = C at *
 clear h hr hF hAl hb0 cs0 hK
 have S0 := aK (show Stand F s (w.alloc (.cells #[.iface F.ty F.v] 114)) b A (.int .i64 8) C sF mF (whoS ++ [.row 16 [.text 64], .row 17 [.flag], .row 18 [.text 1024], .row 19 posF]) (w.alloc (.cells #[.iface F.ty F.v] 114)) from S0.out)
 go_enter Try.func41, Try.ntmps41
 have C0 := aK (Stand.whole' who_c S0.out HG.out HR.out trivial rfl)
 go_wp2_with (go_at_call 70; (with_reducible refine C0.out.mono ?_); rintro e w1 ⟨rfl, H⟩; have cg1 := H.cell HGo.out HGb.out HGA.out HCg.out; have ck1 := H.kind; have S1 := aK H; clear H)
 have C1 := aK (S1.out.text HG.out HR.out rfl (by omega))
 go_region_held3 (fun W => W.cell? ⟨w.heap.size, 0, none⟩ = some (.iface F.ty F.v)) (go_keep) (((with_reducible refine C1.out.mono ?_); rintro e w2 ⟨rfl, H⟩; have cg2 := H.cell HGo.out HGb.out HGA.out HCg.out; have ck2 := H.kind; have S2 := aK H; clear H))
 have C2 := aK (S2.out.flag HG.out HR.out rfl (by omega))
 go_wp2
 go_region_held3 (fun W => W.cell? ⟨w.heap.size, 0, none⟩ = some (.iface F.ty F.v)) (go_keep) (((with_reducible refine C2.out.mono ?_); rintro e w3 ⟨rfl, H⟩; have cg3 := H.cell HGo.out HGb.out HGA.out HCg.out; have ck3 := H.kind; have S3 := aK H; clear H))
 have C3 := aK (S3.out.text HG.out HR.out rfl (by omega))
 go_wp2
 go_region_held3 (fun W => W.cell? ⟨w.heap.size, 0, none⟩ = some (.iface F.ty F.v)) (go_keep) (((with_reducible refine C3.out.mono ?_); rintro e w4 ⟨rfl, H⟩; have cg4 := H.cell HGo.out HGb.out HGA.out HCg.out; have ck4 := H.kind; have S4 := aK H; clear H))
 have C4 := aK (S4.out.rowC HG.out HR.out zhy rfl (by omega))
 go_wp2
 go_region_held3 (fun W => W.cell? ⟨w.heap.size, 0, none⟩ = some (.iface F.ty F.v)) (go_keep) (((with_reducible refine C4.out.mono ?_); rintro e w5 ⟨rfl, H⟩; have cg5 := H.cell HGo.out HGb.out HGA.out HCg.out; have ck5 := H.kind; have S5 := aK H; clear H))
 go_wp2
 go_end0
 exact S5.out.done
theorem zoi (n : Int) : zdv 41 (zal n) (fun v => v = .int .i64 n) := by
 by_cases h : n < 1 ∨ n = 6 ∨ 10 < n
 ·exact zrs n h
 ·have : n = 1 ∨ n = 2 ∨ n = 3 ∨ n = 4 ∨ n = 5 ∨ n = 7 ∨ n = 8 ∨ n = 9 ∨ n = 10 := by omega
  rcases this with rfl | rfl | rfl | rfl | rfl | rfl | rfl | rfl | rfl
  ·exact zrq
  ·exact zrr
  ·exact zsc
  ·exact zsd
  ·exact zse
  ·exact zsf
  ·exact zsg
  ·exact zrt
  ·exact zpz
def zbu (n : Int) : List Step := zgt n ++ (zal n ++ [])
theorem zoj (n : Int) : (zgt n).all Step.pos = true := by
 unfold zgt
 split
 ·rfl
 ·split <;> rfl
theorem zjw (n : Int) : (zal n).all Step.pos = true := by
 unfold zal
 repeat' split
 all_goals rfl
theorem zjx (n : Int) : (zbu n).all Step.few = true := by
 unfold zbu zgt zal
 simp only [List.all_append, Bool.and_eq_true]
 refine ⟨?_, ?_, rfl⟩
 ·repeat' split
  all_goals rfl
 ·repeat' split
  all_goals rfl
theorem zqd (n : Int) : (zbu n).length ≤ 16 := by
 unfold zbu zgt zal
 simp only [List.length_append]
 repeat' split
 all_goals simp [ziv, whoS, zhm]
def zbs (m : M) : Int := match m.c 0 with | .int .i64 n => n | _ => 0
def Form.all (F : Form) (s : F.σ) (m : M) : F.σ × M := F.run (F.rowM s m 0 [.num 1 10]).1 (F.rowM s m 0 [.num 1 10]).2 (zbu (zbs (F.rowM s m 0 [.num 1 10]).2))
def Form.allCost (F : Form) (s : F.σ) (m : M) : Nat := 8 + F.runCost (F.rowM s m 0 [.num 1 10]).1 (F.rowM s m 0 [.num 1 10]).2 (zbu (zbs (F.rowM s m 0 [.num 1 10]).2))
theorem zjy {F : Form} {J : F.σ → Prop} {N : Nat} (hT : F.Tame J N) {s : F.σ} {m : M} (hs : J s) (hm : ziw N m) (hw : Wide m) : F.allCost s m ≤ 8 + 16 * zng N := by
 have h1 := hT.rowM (i := 0) (fs := [.num 1 10]) hs hm
 have h2 := zjv hT (ts := zbu (zbs (F.rowM s m 0 [.num 1 10]).2)) h1.1 h1.2 (show Wide (F.rowM s m 0 [.num 1 10]).2 from hw) (zjx _)
 have h3 := Nat.mul_le_mul_right (zng N) (zqd (zbs (F.rowM s m 0 [.num 1 10]).2))
 unfold Form.allCost
 omega
variable {F : Form} {s : F.σ} {w : World} {b : Nat} {A : Nat → Prop} {m : M}
theorem kind_c (hF : F.Good) (h : MAt F s w b A s 0 m w) (hr : F.room s + F.allCost s m ≤ cap) :
  Calls Try.prog (F.k 0) #[F.v, .pointer (some ⟨b, 0, none⟩), .int .i64 1, .int .i64 10] w (zey F s w b A (.int .i64 (zbs (F.rowM s m 0 [.num 1 10]).2)) (F.allCost s m) (F.all s m).1 (F.all s m).2 (zbu (zbs (F.rowM s m 0 [.num 1 10]).2))) := by
 obtain ⟨x, hx⟩ : ∃ x, m.c 0 = .int .i64 x := h.typed 0 rfl
 obtain ⟨cs, h1, h2, h3, h4⟩ := h.blk
 refine (hF.num_c s w b 0 cs _ x 1 10 h.inv h.no (by unfold Form.allCost at hr; omega) h2 ((h3 0 rfl).trans (by rw [hx]))).mono ?_
 rintro e w' ⟨rfl, hS⟩
 have hR := h.rowDid (i := 0) (fs := [.num 1 10]) rfl (d := 8) (w1 := w') (by simpa [zaq, hx, Form.row, Form.fld, zbt] using hS)
 refine ⟨rfl, _, _, _, hR, ?_, ?_, rfl⟩
 ·obtain ⟨y, hy⟩ : ∃ y, (F.rowM s m 0 [.num 1 10]).2.c 0 = .int .i64 y := hR.typed 0 rfl
  unfold zbs
  rw [hy]
 ·unfold Form.allCost; omega
def nils : Nat → Value := fun _ => .slice none 0 0
def zdu : Nat → Value := fun i => match zck i with | .num _ _ => .int .i64 0 | .flag => .bool false | .text _ => .string ⟨#[]⟩
theorem zci (W : World) : (zeroValue 35).run Try.prog W = .ok (.agg (msgC zdu nils)) W := (zero_of_info (n := 26) (by kernel_rfl)).1 W
theorem zay : (Try.prog.info? 35).map (·.size) = some 26 := by kernel_rfl
theorem zfc (c sv : Nat → Value) : ∀ i, scalar i = true → (msgC c sv)[i]? = some (c i) := fun i hi => by
 have h : i < 26 := by unfold scalar at hi; simp only [Bool.and_eq_true, decide_eq_true_eq] at hi; exact hi.1
 have h3 : i ≠ 3 := fun e => by subst e; cases hi
 have h8 : i ≠ 8 := fun e => by subst e; cases hi
 have h9 : i ≠ 9 := fun e => by subst e; cases hi
 have h10 : i ≠ 10 := fun e => by subst e; cases hi
 have : i = 0 ∨ i = 1 ∨ i = 2 ∨ i = 4 ∨ i = 5 ∨ i = 6 ∨ i = 7 ∨ i = 11 ∨ i = 12 ∨ i = 13 ∨ i = 14 ∨ i = 15 ∨ i = 16 ∨ i = 17 ∨ i = 18 ∨ i = 19 ∨ i = 20 ∨ i = 21 ∨ i = 22 ∨ i = 23 ∨ i = 24 ∨ i = 25 := by omega
 rcases this with rfl | rfl | rfl | rfl | rfl | rfl | rfl | rfl | rfl | rfl | rfl | rfl | rfl | rfl | rfl | rfl | rfl | rfl | rfl | rfl | rfl | rfl <;> rfl
theorem zeg (c sv : Nat → Value) {j : Nat} {fs : List Fld} (h : (j, fs) ∈ zah) : (msgC c sv)[j]? = some (sv j) := by
 simp only [zah, List.mem_cons, Prod.mk.injEq, List.not_mem_nil, or_false] at h
 rcases h with ⟨rfl, _⟩ | ⟨rfl, _⟩ | ⟨rfl, _⟩ | ⟨rfl, _⟩ <;> rfl
theorem zce (c sv : Nat → Value) : (msgC c sv).size = 26 := rfl
theorem MAt.made {F : Form} {s : F.σ} {w : World} {b : Nat} {m : M} {sv : Nat → Value} {A : Nat → Prop} (hI : F.Inv s w) (hno : ¬ F.own w.heap b) (hb : w.heap[b]? = some (.cells (msgC m.c sv) 35 (0, 0)))
  (ht : zbh m) (hf : Fit m) (hn : ∀ j, (m.L j).length ≤ 1048576) (hl : ∀ j fs, (j, fs) ∈ zah → ListAt w (sv j) fs.length (m.L j))
  (hr : ∀ j fs, (j, fs) ∈ zah → ∀ k, arr (sv j) = some k → m.L j ≠ [] → k ≠ b ∧ ¬ F.own w.heap k ∧ A k)
  (hd : ∀ j fs j' fs', (j, fs) ∈ zah → (j', fs') ∈ zah → j' ≠ j → ∀ k, arr (sv j) = some k → m.L j ≠ [] → m.L j' ≠ [] → arr (sv j') ≠ some k) : MAt F s w b A s 0 m w := by
 refine ⟨hI, fun _ _ h => h, Nat.le_refl _, hno, Only.refl _ _, ht, _, zce _ _, hb, zfc _ _, fun j fs hj => ⟨⟨hf j fs hj, Nat.le_trans (hn j) (by omega)⟩, sv j, zeg _ _ hj, hl j fs hj, fun k hk h0 => ⟨(hr j fs hj k hk h0).1, (hr j fs hj k hk h0).2.1, .inl (hr j fs hj k hk h0).2.2, ?_⟩⟩⟩
 intro j' fs' sv' hj' hne hs' h0' ha
 rw [zeg _ _ hj'] at hs'
 injection hs' with hs'
 subst hs'
 exact hd j fs j' fs' hj hj' hne k hk h0 h0' ha
theorem ListAt.below {w w' : World} {sv : Value} {st : Nat} {rows : List (List Value)} (h : ListAt w sv st rows) (hB : Below w.heap.size w w') : ListAt w' sv st rows :=
 h.move fun k hk h0 => hB.block k (h.lt hk h0)
theorem oAll_g (g h : Nat) (s : OSt) (m : M) : ((zar g).all s m).1 = ((zar h).all s m).1 := by
 unfold Form.all
 have e1 := zry g s m 0 [.num 1 10]
 have e2 := zry h s m 0 [.num 1 10]
 have e3 : ((zar g).rowM s m 0 [.num 1 10]).1 = ((zar h).rowM s m 0 [.num 1 10]).1 := zmc g h _ _ s
 rw [e1, e2]
 exact (oRun_g g h _ _ m).trans (congrArg (fun s' : OSt => ((zar h).run s' m (zbu (zbs m))).1) e3)
theorem oAll_m (g : Nat) (s : OSt) (m : M) : ((zar g).all s m).2 = m := (oRun_m g _ _ _).trans (zry g s m 0 _)
theorem znj {w : World} {B B' : Nat} {e : TypeId} {st : Nat} {v : Value} {n : Nat} {xs : List Value} (h : w.ownsRow B e st v n xs) (hB : B' ≤ B) : w.ownsRow B' e st v n xs :=
 ⟨h.1, h.2.imp id (fun ⟨g, cap, cur, e1, e2, e3⟩ => ⟨g, cap, cur, e1, Nat.le_trans hB e2, e3⟩)⟩
def payS (m : M) : OSt := ((zar 0).all ([], false, false) m).1
def payB (m : M) : List Int := (payS m).1
def zgu (m : M) : Bool := decide (1 ≤ zbs m) && decide (zbs m ≤ 10) && !(payS m).2.1 && !(payS m).2.2
theorem oAll_pay (g : Nat) (m : M) : ((zar g).all ([], false, false) m).1 = payS m := oAll_g g 0 _ _
def IsPay (m : M) (w : World) (e : Ending) (w' : World) : Prop :=
 Below w.heap.size w w' ∧ ∃ sv ok, e = .returned (.tuple #[sv, .bool ok]) ∧ ok = zgu m ∧ (ok = true → ∃ q c, sv = .slice (some ⟨q, 0, none⟩) (payB m).length c ∧ w'.ownsRow w.heap.size 5 1 sv (payB m).length (nums .u8 (payB m)) ∧ (payB m).length ≤ c ∧ c ≤ 9223372036854775807 ∧ w.heap.size ≤ q ∧ (payB m).length ≤ 9000000000)
theorem oNew {w : World} : OInv w.heap.size ([], false, false) (w.alloc (.cells #[.slice none 0 0, .bool false, .bool false] 83)) :=
 ⟨.slice none 0 0, zkg w _, ⟨rfl, .inl ⟨rfl, rfl⟩⟩, by simp [Value.ownBlock]⟩
theorem zkr {w : World} {k : Nat} (h : OOwn w.heap.size (w.alloc (.cells #[.slice none 0 0, .bool false, .bool false] 83)).heap k) : k = w.heap.size := by
 obtain ⟨v, hW⟩ := oNew (w := w)
 rcases (OOwn.of hW k).1 h with h | h
 ·exact h
 ·have e : v = .slice none 0 0 := by
   have := hW.1
   rw [zkg w _] at this
   injection this with this
   injection this with this
   have := congrArg (fun a : Array Value => a[0]?) this
   simpa using this.symm
  subst e
  simp [Value.ownBlock] at h
def fourS (v3 v8 v9 v10 : Value) : Nat → Value := fun j => if j = 3 then v3 else if j = 8 then v8 else if j = 9 then v9 else if j = 10 then v10 else .slice none 0 0
theorem pay_made {w8 : World} {g4 : Nat} {m : M} {v3 v8 v9 v10 : Value} {B3 B4 B5 B6 B7 : Nat} (hb : w8.heap[g4]? = some (.cells (msgC m.c (fourS v3 v8 v9 v10)) 35 (0, 0)))
  (ht : zbh m) (hf : Fit m) (hn : ∀ j, (m.L j).length ≤ 1048576) (l3 : ListAt w8 v3 7 (m.L 3)) (l8 : ListAt w8 v8 5 (m.L 8)) (l9 : ListAt w8 v9 4 (m.L 9)) (l10 : ListAt w8 v10 3 (m.L 10))
  (r3 : ∀ k, arr v3 = some k → m.L 3 ≠ [] → B3 ≤ k ∧ k < B4) (r8 : ∀ k, arr v8 = some k → m.L 8 ≠ [] → B4 ≤ k ∧ k < B5) (r9 : ∀ k, arr v9 = some k → m.L 9 ≠ [] → B5 ≤ k ∧ k < B6) (r10 : ∀ k, arr v10 = some k → m.L 10 ≠ [] → B6 ≤ k ∧ k < B7)
  (h3 : g4 < B3) (h4 : B3 ≤ B4) (h5 : B4 ≤ B5) (h6 : B5 ≤ B6) (h7 : B6 ≤ B7) (h8 : B7 ≤ w8.heap.size) :
  MAt (zar w8.heap.size) ([], false, false) (w8.alloc (.cells #[.slice none 0 0, .bool false, .bool false] 83)) g4 (fun k => B3 ≤ k ∧ k < w8.heap.size) ([], false, false) 0 m (w8.alloc (.cells #[.slice none 0 0, .bool false, .bool false] 83)) := by
 have hmv : ∀ k, k < w8.heap.size → (w8.alloc (.cells #[.slice none 0 0, .bool false, .bool false] 83)).heap[k]? = w8.heap[k]? := fun k hk => Below.heap_alloc w8 _ k hk
 have hR : ∀ j fs, (j, fs) ∈ zah → ∀ k, arr (fourS v3 v8 v9 v10 j) = some k → m.L j ≠ [] → B3 ≤ k ∧ k < B7 ∧ (j = 3 → k < B4) ∧ (j = 8 → B4 ≤ k ∧ k < B5) ∧ (j = 9 → B5 ≤ k ∧ k < B6) ∧ (j = 10 → B6 ≤ k) := by
  intro j fs hj k hk h0
  simp only [zah, List.mem_cons, Prod.mk.injEq, List.not_mem_nil, or_false] at hj
  rcases hj with ⟨rfl, _⟩ | ⟨rfl, _⟩ | ⟨rfl, _⟩ | ⟨rfl, _⟩
  ·have := r3 k hk h0; omega
  ·have := r8 k hk h0; omega
  ·have := r9 k hk h0; omega
  ·have := r10 k hk h0; omega
 refine MAt.made oNew (fun h => ?_) ((hmv g4 (by omega)).trans hb) ht hf hn ?_ ?_ ?_
 ·have := zkr h; omega
 ·intro j fs hj
  have hj' := hj
  simp only [zah, List.mem_cons, Prod.mk.injEq, List.not_mem_nil, or_false] at hj
  rcases hj with ⟨rfl, rfl⟩ | ⟨rfl, rfl⟩ | ⟨rfl, rfl⟩ | ⟨rfl, rfl⟩
  ·exact l3.below ((Below.refl _ _).alloc (Nat.le_refl _) _)
  ·exact l8.below ((Below.refl _ _).alloc (Nat.le_refl _) _)
  ·exact l9.below ((Below.refl _ _).alloc (Nat.le_refl _) _)
  ·exact l10.below ((Below.refl _ _).alloc (Nat.le_refl _) _)
 ·intro j fs hj k hk h0
  have := hR j fs hj k hk h0
  refine ⟨by omega, fun h => ?_, by omega, by omega⟩
  have := zkr h; omega
 ·intro j fs j' fs' hj hj' hne k hk h0 h0' hk'
  have a1 := hR j fs hj k hk h0
  have a2 := hR j' fs' hj' k hk' h0'
  simp only [zah, List.mem_cons, Prod.mk.injEq, List.not_mem_nil, or_false] at hj hj'
  rcases hj with ⟨rfl, _⟩ | ⟨rfl, _⟩ | ⟨rfl, _⟩ | ⟨rfl, _⟩ <;> rcases hj' with ⟨rfl, _⟩ | ⟨rfl, _⟩ | ⟨rfl, _⟩ | ⟨rfl, _⟩ <;> first | exact hne rfl | omega
theorem pay_room (g : Nat) {m : M} (hs : Small m) : (zar g).room ([], false, false) + (zar g).allCost ([], false, false) m ≤ 9000000000 := by
 have h := zjy (oTame g 1048576) (s := ([], false, false)) trivial hs.lite hs.wide
 have e : (zar g).room ([], false, false) = 0 := rfl
 rw [e]
 unfold zng at h
 omega
theorem zsh {n : Nat} (h : n ≤ 9000000000) : n ≤ cap := by unfold cap; omega
def zqe (w8 : World) (g4 B : Nat) (m : M) (C : Nat) (n : Int) (ts : List Step) (w : World) : Prop :=
 (zar w8.heap.size).room ([], false, false) + C ≤ 9000000000 ∧ Stand (zar w8.heap.size) ([], false, false) (w8.alloc (.cells #[.slice none 0 0, .bool false, .bool false] 83)) g4 (fun k => B ≤ k ∧ k < w8.heap.size) (.int .i64 n) C (payS m) m ts w
theorem pay_kind {w8 : World} {g4 B : Nat} {m : M} (h : MAt (zar w8.heap.size) ([], false, false) (w8.alloc (.cells #[.slice none 0 0, .bool false, .bool false] 83)) g4 (fun k => B ≤ k ∧ k < w8.heap.size) ([], false, false) 0 m (w8.alloc (.cells #[.slice none 0 0, .bool false, .bool false] 83))) (hs : Small m) :
  ∃ n C, Calls Try.prog 39 #[.pointer (some ⟨w8.heap.size, 0, none⟩), .pointer (some ⟨g4, 0, none⟩), .int .i64 1, .int .i64 10] (w8.alloc (.cells #[.slice none 0 0, .bool false, .bool false] 83))
   (fun e w => e = .returned (.tuple #[]) ∧ zqe w8 g4 B m C n (zbu n) w) := by
 have hr := pay_room w8.heap.size hs
 have hC := kind_c (oGood w8.heap.size) h (zsh hr)
 rw [oAll_pay, oAll_m] at hC
 exact ⟨_, _, hC.mono fun e w H => ⟨H.1, hr, H.2⟩⟩
theorem zok {w8 w : World} {g4 B : Nat} {m : M} {C : Nat} {n : Int} (h : zqe w8 g4 B m C n (zbu n) w) :
  Calls Try.prog 40 #[.iface 77 (.pointer (some ⟨w8.heap.size, 0, none⟩)), .pointer (some ⟨g4, 0, none⟩)] w (fun e w => e = .returned (.tuple #[]) ∧ zqe w8 g4 B m C n (zal n ++ []) w) :=
 (Stand.whole' (head_c n) h.2 (oGood w8.heap.size) (zsh h.1) rfl (zoj n)).mono fun e w H => ⟨H.1, h.1, H.2⟩
theorem zjz {w8 w : World} {g4 B : Nat} {m : M} {C : Nat} {n : Int} (h : zqe w8 g4 B m C n (zal n ++ []) w) :
  Calls Try.prog 41 #[.iface 77 (.pointer (some ⟨w8.heap.size, 0, none⟩)), .pointer (some ⟨g4, 0, none⟩)] w (fun e w => e = .returned (.tuple #[]) ∧ zqe w8 g4 B m C n [] w) :=
 (Stand.whole' (zoi n) h.2 (oGood w8.heap.size) (zsh h.1) rfl (zjw n)).mono fun e w H => ⟨H.1, h.1, H.2⟩
theorem zsi {w w8 w12 : World} {g4 B : Nat} {m : M} {C : Nat} {n : Int} (h0 : Below w.heap.size w w8) (h : zqe w8 g4 B m C n [] w12) (h4 : g4 < B) (hB : w.heap.size ≤ g4) : Below w.heap.size w w12 ∧ ∃ v, WrAt w12 w8.heap.size 83 [.bool (payS m).2.2] v (payS m).1 (payS m).2.1 ∧ (payS m).1.length ≤ 9000000000 := by
 have h' := h.2.done.2
 have hr : (payS m).1.length ≤ 9000000000 := Nat.le_trans h'.room h.1
 obtain ⟨v, hW⟩ := h'.inv
 refine ⟨zaz (h0.alloc h0.size _) h'.only (by have := h0.size; rw [World.size_alloc]; omega) ?_, v, hW, hr⟩
 rintro k (hk | hk | hk)
 ·have := zkr hk; have := h0.size; omega
 ·omega
 ·omega
def zcn : M := ⟨zdu, fun _ => []⟩
section
variable (g r q g' r' q' : Nat)
theorem zsj : ∀ (fs : List Fld) (vs : List Value) (s : ISt), ((zbc g r q).row s fs vs : ISt × List Value) = (zbc g' r' q').row s fs vs
 | [], vs, s => by cases vs <;> rfl
 | f :: fs, [], s => rfl
 | f :: fs, v :: vs, s => congrArg (fun p : ISt × List Value => (p.1, ((zbc g r q).fld s f v).2 :: p.2)) (zsj fs vs ((zbc g r q).fld s f v).1)
theorem zsk (fs : List Fld) : ∀ (rs : List (List Value)) (s : ISt), ((zbc g r q).rows fs s rs : ISt × List (List Value)) = (zbc g' r' q').rows fs s rs
 | [], s => rfl
 | x :: rs, s => by
  have e1 := zsj g r q g' r' q' fs x s
  have e2 := zsk fs rs ((zbc g r q).row s fs x).1
  show ((((zbc g r q).rows fs ((zbc g r q).row s fs x).1 rs).1, ((zbc g r q).row s fs x).2 :: ((zbc g r q).rows fs ((zbc g r q).row s fs x).1 rs).2) : ISt × List (List Value)) = (((zbc g' r' q').rows fs ((zbc g' r' q').row s fs x).1 rs).1, ((zbc g' r' q').row s fs x).2 :: ((zbc g' r' q').rows fs ((zbc g' r' q').row s fs x).1 rs).2)
  have e3 := congrArg Prod.fst e2
  have e4 := congrArg Prod.snd e2
  have e5 := congrArg Prod.fst e1
  have e6 := congrArg Prod.snd e1
  refine Prod.ext ?_ ?_
  ·exact e3.trans (congrArg (fun s' : ISt => (((zbc g' r' q').rows fs s' rs).1 : ISt)) e5)
  ·have e7 := e4.trans (congrArg (fun s' : ISt => ((zbc g' r' q').rows fs s' rs).2) e5)
   exact (congrArg (fun a => ((zbc g r q).row s fs x).2 :: a) e7).trans (congrArg (fun a => a :: ((zbc g' r' q').rows fs ((zbc g' r' q').row s fs x).1 rs).2) e6)
theorem iList_g (fs : List Fld) (s : ISt) (most : Nat) (rows : List (List Value)) : ((zbc g r q).list fs s most rows : ISt × List (List Value)) = (zbc g' r' q').list fs s most rows := by
 have e := zsk g r q g' r' q' fs (((zbc g r q).listR fs s most rows).take ((zbc g r q).listM s most rows.length)) ((zbc g r q).count s rows.length most).1
 have e1 := congrArg Prod.fst e
 have e2 := congrArg (fun a => a ++ ((zbc g r q).listR fs s most rows).drop ((zbc g r q).listM s most rows.length)) (congrArg Prod.snd e)
 exact Prod.ext e1 e2
theorem znk (s : ISt) (m : M) (i : Nat) (fs : List Fld) : ((zbc g r q).rowM s m i fs : ISt × M) = (zbc g' r' q').rowM s m i fs :=
 congrArg (fun p : ISt × List Value => ((p.1, { m with c := zdy m.c i p.2 }) : ISt × M)) (zsj g r q g' r' q' fs (zaq m.c i fs.length) s)
theorem iStep_g (s : ISt) (m : M) (t : Step) : ((zbc g r q).step s m t : ISt × M) = (zbc g' r' q').step s m t := by
 cases t with
 | row i fs => exact znk g r q g' r' q' s m i fs
 | most => exact znk g r q g' r' q' s m 7 _
 | lst j fs n => exact congrArg (fun p : ISt × List (List Value) => ((p.1, { m with L := upL m.L j p.2 }) : ISt × M)) (iList_g g r q g' r' q' fs s n (m.L j))
theorem iRun_g : ∀ (ts : List Step) (s : ISt) (m : M), ((zbc g r q).run s m ts : ISt × M) = (zbc g' r' q').run s m ts
 | [], s, m => rfl
 | t :: ts, s, m => by
  have e := iStep_g g r q g' r' q' s m t
  show ((zbc g r q).run ((zbc g r q).step s m t).1 ((zbc g r q).step s m t).2 ts : ISt × M) = (zbc g' r' q').run ((zbc g' r' q').step s m t).1 ((zbc g' r' q').step s m t).2 ts
  exact (iRun_g ts _ _).trans (congrArg (fun p : ISt × M => ((zbc g' r' q').run p.1 p.2 ts : ISt × M)) e)
theorem iAll_g (s : ISt) (m : M) : ((zbc g r q).all s m : ISt × M) = (zbc g' r' q').all s m := by
 have e := znk g r q g' r' q' s m 0 [.num 1 10]
 show ((zbc g r q).run ((zbc g r q).rowM s m 0 [.num 1 10]).1 ((zbc g r q).rowM s m 0 [.num 1 10]).2 (zbu (zbs ((zbc g r q).rowM s m 0 [.num 1 10]).2)) : ISt × M) = _
 exact (iRun_g g r q g' r' q' _ _ _).trans (congrArg (fun p : ISt × M => ((zbc g' r' q').run p.1 p.2 (zbu (zbs p.2)) : ISt × M)) e)
end
def rdR (xs : List Int) : ISt × M := (zbc 0 0 0).all (xs, false, false) zcn
def rdM (xs : List Int) : M := (rdR xs).2
def rdOk (xs : List Int) : Bool := (rend (rdR xs).1.1 (rdR xs).1.2.1 == 0) && !(rdR xs).1.2.2
theorem msgC_eq {cs : Array Value} {c sv : Nat → Value} (hs : cs.size = 26) (h1 : ∀ i, scalar i = true → cs[i]? = some (c i)) (h2 : ∀ j fs, (j, fs) ∈ zah → cs[j]? = some (sv j)) : cs = msgC c sv := by
 apply Array.ext_getElem?
 intro i
 rcases Nat.lt_or_ge i 26 with hi | hi
 ·cases h : scalar i with
  | true => rw [h1 i h, zfc c sv i h]
  | false =>
   have : ∃ fs, (i, fs) ∈ zah := by
    unfold scalar at h
    rw [decide_eq_true hi] at h
    have : i = 3 ∨ i = 8 ∨ i = 9 ∨ i = 10 := by
     simp only [Bool.true_and, Bool.not_eq_false', Bool.or_eq_true, beq_iff_eq] at h
     omega
    rcases this with rfl | rfl | rfl | rfl
    ·exact ⟨zak, by simp [zah]⟩
    ·exact ⟨zat, by simp [zah]⟩
    ·exact ⟨zau, by simp [zah]⟩
    ·exact ⟨zaj, by simp [zah]⟩
   obtain ⟨fs, hj⟩ := this
   rw [h2 i fs hj, zeg c sv hj]
 ·rw [Array.getElem?_eq_none (by omega), Array.getElem?_eq_none (by rw [zce]; omega)]
def IsMsg (B : Nat) (m : M) (w : World) (v : Value) : Prop := ∃ sv, MsgRd w v m sv ∧ ∀ j fs, (j, fs) ∈ zah → ∀ k, arr (sv j) = some k → m.L j ≠ [] → B ≤ k
def IsRd (xs : List Int) (w : World) (e : Ending) (w' : World) : Prop :=
 Below w.heap.size w w' ∧ ∃ v ok, e = .returned (.tuple #[v, .bool ok]) ∧ ok = rdOk xs ∧ IsMsg w.heap.size (rdM xs) w' v
theorem zea : zbh zcn := fun i hi => by
 show (zck i).fits (zdu i)
 unfold zdu
 cases zck i <;> exact ⟨_, rfl⟩
theorem zsl (N : Nat) : ziw N zcn := ⟨fun i x hx => by
 have hx' : zdu i = .string x := hx
 unfold zdu at hx'
 cases h : zck i <;> rw [h] at hx' <;> simp at hx'
 subst hx'
 exact Nat.zero_le _, fun j r hr => nomatch hr⟩
theorem zol : Fit zcn := fun _ _ _ r hr => nomatch hr
theorem zsm : Wide zcn := fun _ r hr => nomatch hr
theorem rd_room (g r q : Nat) {xs : List Int} (hn : xs.length ≤ 9000000000) : (zbc g r q).room (xs, false, false) + (zbc g r q).allCost (xs, false, false) zcn ≤ cap := by
 have h := zjy (iTame g r q 9000000000) (s := (xs, false, false)) hn (zsl _) zsm
 have e : (zbc g r q).room (xs, false, false) = 0 := rfl
 rw [e]
 unfold zng at h
 unfold cap
 omega
def zka (gi gr q gm : Nat) (w5 : World) (xs : List Int) (C : Nat) (n : Int) (ts : List Step) (w : World) : Prop :=
 (zbc gi gr q).room (xs, false, false) + C ≤ cap ∧ Stand (zbc gi gr q) (xs, false, false) w5 gm (fun _ => False) (.int .i64 n) C (rdR xs).1 (rdR xs).2 ts w
theorem rd_kind {gi gr q gm : Nat} {w5 : World} {xs : List Int} (hI : IInv gi gr q (xs, false, false) w5) (hno : ¬ IOwn gi gr q w5.heap gm) (hb : w5.heap[gm]? = some (.cells (msgC zdu nils) 35 (0, 0))) (hn : xs.length ≤ 9000000000) :
  ∃ n C, Calls Try.prog 59 #[.pointer (some ⟨gi, 0, none⟩), .pointer (some ⟨gm, 0, none⟩), .int .i64 1, .int .i64 10] w5 (fun e w => e = .returned (.tuple #[]) ∧ zka gi gr q gm w5 xs C n (zbu n) w) := by
 have hr := rd_room gi gr q hn
 have hM : MAt (zbc gi gr q) (xs, false, false) w5 gm (fun _ => False) (xs, false, false) 0 zcn w5 := MAt.made (sv := nils) hI hno hb zea zol (fun _ => Nat.zero_le _)
  (fun j fs hj => ⟨none, 0, rfl, fun h => absurd rfl h, fun _ => rfl⟩) (fun j fs hj k hk h0 => absurd rfl h0) (fun j fs j' fs' hj hj' hne k hk h0 => absurd rfl h0)
 have hC := kind_c (iGood gi gr q) hM hr
 have e := iAll_g gi gr q 0 0 0 (xs, false, false) zcn
 refine ⟨zbs ((zbc gi gr q).rowM (xs, false, false) zcn 0 [.num 1 10]).2, (zbc gi gr q).allCost (xs, false, false) zcn, hC.mono fun e' w H => ⟨H.1, hr, ?_⟩⟩
 have H2 := H.2
 rw [show ((zbc gi gr q).all (xs, false, false) zcn) = rdR xs from e] at H2
 exact H2
theorem rd_head {gi gr q gm : Nat} {w5 w : World} {xs : List Int} {C : Nat} {n : Int} (h : zka gi gr q gm w5 xs C n (zbu n) w) :
  Calls Try.prog 40 #[.iface 106 (.pointer (some ⟨gi, 0, none⟩)), .pointer (some ⟨gm, 0, none⟩)] w (fun e w => e = .returned (.tuple #[]) ∧ zka gi gr q gm w5 xs C n (zal n ++ []) w) :=
 (Stand.whole' (head_c n) h.2 (iGood gi gr q) h.1 rfl (zoj n)).mono fun e w H => ⟨H.1, h.1, H.2⟩
theorem zsn {gi gr q gm : Nat} {w5 w : World} {xs : List Int} {C : Nat} {n : Int} (h : zka gi gr q gm w5 xs C n (zal n ++ []) w) :
  Calls Try.prog 41 #[.iface 106 (.pointer (some ⟨gi, 0, none⟩)), .pointer (some ⟨gm, 0, none⟩)] w (fun e w => e = .returned (.tuple #[]) ∧ zka gi gr q gm w5 xs C n [] w) :=
 (Stand.whole' (zoi n) h.2 (iGood gi gr q) h.1 rfl (zjw n)).mono fun e w H => ⟨H.1, h.1, H.2⟩
theorem rd_end {gi gr q gm : Nat} {w5 w : World} {xs : List Int} {C : Nat} {n : Int} (h : zka gi gr q gm w5 xs C n [] w) :
  Only (fun k => k = gi ∨ k = gr ∨ k = q ∨ k = gm) w5 w ∧ IInv gi gr q (rdR xs).1 w ∧ ∃ sv, w.heap[gm]? = some (.cells (msgC (rdM xs).c sv) 35 (0, 0)) ∧ MsgRd w (.agg (msgC (rdM xs).c sv)) (rdM xs) sv ∧
   ∀ j fs, (j, fs) ∈ zah → ∀ k, arr (sv j) = some k → (rdM xs).L j ≠ [] → w5.heap.size ≤ k ∧ k < w.heap.size := by
 have h' := h.2.done.2
 obtain ⟨cs, h1, h2, h3, h4⟩ := h'.blk
 have key : ∀ j, ∃ v, ∀ fs, (j, fs) ∈ zah → cs[j]? = some v := fun j => by
  by_cases hj : ∃ fs, (j, fs) ∈ zah
  ·obtain ⟨fs, hj⟩ := hj
   obtain ⟨_, v, hv, _⟩ := h4 j fs hj
   exact ⟨v, fun _ _ => hv⟩
  ·exact ⟨undef, fun fs hj' => absurd ⟨fs, hj'⟩ hj⟩
 obtain ⟨sv, hsv⟩ := Classical.axiomOfChoice key
 have e : cs = msgC (rdM xs).c sv := msgC_eq h1 h3 (fun j fs hj => hsv j fs hj)
 subst e
 have hl : ∀ j fs, (j, fs) ∈ zah → ((∀ r, r ∈ (rdM xs).L j → fits fs r) ∧ ListAt w (sv j) fs.length ((rdM xs).L j)) ∧ ∀ k, arr (sv j) = some k → (rdM xs).L j ≠ [] → w5.heap.size ≤ k := fun j fs hj => by
  obtain ⟨hf, v, hv, hA, hk⟩ := h4 j fs hj
  rw [hsv j fs hj] at hv
  injection hv with hv
  subst hv
  refine ⟨⟨hf.1, hA⟩, fun k hk' h0 => ?_⟩
  rcases (hk k hk' h0).2.2.1 with h | h
  ·exact h.elim
  ·exact h
 refine ⟨h'.only.mono (fun k _ hk => ?_), h'.inv, sv, h2, ⟨rfl, h'.typed, fun j fs hj => (hl j fs hj).1.1, fun j fs hj => (hl j fs hj).1.2.rd⟩, fun j fs hj k hk h0 => ⟨(hl j fs hj).2 k hk h0, (hl j fs hj).1.2.lt hk h0⟩⟩
 rcases hk with (h | h | h) | h | h
 ·exact .inl h
 ·exact .inr (.inl h)
 ·exact .inr (.inr (.inl h))
 ·exact .inr (.inr (.inr h))
 ·exact h.elim
theorem zeo (d : Nat) (w : World) (x0 y0 : Int) (x1 y1 : Int) :
  (Op.equalIn (d + 2) 24 (.agg #[.int .i64 x0, .int .i64 x1]) (.agg #[.int .i64 y0, .int .i64 y1])).run Try.prog w = .ok (x0 == y0 && (x1 == y1)) w := by
 refine zjq Try.underlying24 (by kernel_rfl) ?_
 refine zcr (by rfl) (by go_simp; rfl) (by go_simp; rfl) (by go_simp) ?_
 exact zfv (by rfl) (by go_simp; rfl) (by go_simp; rfl) (by go_simp)
theorem zds (d : Nat) (w : World) (x0 y0 : Int) (x1 y1 : Int) (x2 y2 : Bool) (x3 y3 : ByteArray) :
  (Op.equalIn (d + 3) 30 (.agg #[.int .i64 x0, .int .i64 x1, .bool x2, .string x3]) (.agg #[.int .i64 y0, .int .i64 y1, .bool y2, .string y3])).run Try.prog w = .ok ((x0 == y0 && (x1 == y1)) && (x2 == y2 && (x3.toList == y3.toList))) w := by
 refine zjq Try.underlying30 (by kernel_rfl) ?_
 refine zcr (by rfl) (by go_simp) (by go_simp) (zeo (d + 0) w _ _ _ _) ?_
 refine zcr (by rfl) (by go_simp; rfl) (by go_simp; rfl) (by go_simp) ?_
 exact zfv (by rfl) (by go_simp; rfl) (by go_simp; rfl) (by go_simp)
theorem zom (d : Nat) (w : World) (x0 y0 : ByteArray) (x1 y1 : Int) (x2 y2 : Int) (x3 y3 : Bool) (x4 y4 : ByteArray) :
  (Op.equalIn (d + 4) 68 (.agg #[.string x0, .int .i64 x1, .int .i64 x2, .bool x3, .string x4]) (.agg #[.string y0, .int .i64 y1, .int .i64 y2, .bool y3, .string y4])).run Try.prog w = .ok (x0.toList == y0.toList && (((x1 == y1 && (x2 == y2)) && (x3 == y3 && (x4.toList == y4.toList))))) w := by
 refine zjq Try.underlying68 (by kernel_rfl) ?_
 refine zcr (by rfl) (by go_simp; rfl) (by go_simp; rfl) (by go_simp) ?_
 exact zfv (by rfl) (by go_simp) (by go_simp) (zds (d + 0) w _ _ _ _ _ _ _ _)
theorem zon (d : Nat) (w : World) (x0 y0 : Int) (x1 y1 : Int) (x2 y2 : Int) (x3 y3 : Int) :
  (Op.equalIn (d + 3) 70 (.agg #[.int .i64 x0, .int .i64 x1, .int .i64 x2, .int .i64 x3]) (.agg #[.int .i64 y0, .int .i64 y1, .int .i64 y2, .int .i64 y3])).run Try.prog w = .ok (x0 == y0 && (x1 == y1 && ((x2 == y2 && (x3 == y3))))) w := by
 refine zjq Try.underlying70 (by kernel_rfl) ?_
 refine zcr (by rfl) (by go_simp; rfl) (by go_simp; rfl) (by go_simp) ?_
 refine zcr (by rfl) (by go_simp; rfl) (by go_simp; rfl) (by go_simp) ?_
 exact zfv (by rfl) (by go_simp) (by go_simp) (zeo (d + 0) w _ _ _ _)
theorem zme (d : Nat) (w : World) (x0 y0 : Int) (x1 y1 : Int) (x2 y2 : Bool) :
  (Op.equalIn (d + 2) 72 (.agg #[.int .i64 x0, .int .i64 x1, .bool x2]) (.agg #[.int .i64 y0, .int .i64 y1, .bool y2])).run Try.prog w = .ok (x0 == y0 && (x1 == y1 && (x2 == y2))) w := by
 refine zjq Try.underlying72 (by kernel_rfl) ?_
 refine zcr (by rfl) (by go_simp; rfl) (by go_simp; rfl) (by go_simp) ?_
 refine zcr (by rfl) (by go_simp; rfl) (by go_simp; rfl) (by go_simp) ?_
 exact zfv (by rfl) (by go_simp; rfl) (by go_simp; rfl) (by go_simp)
theorem zmf (d : Nat) (w : World) (x0 y0 : Int) (x1 y1 : Int) (x2 y2 : Int) (x3 y3 : Int) (x4 y4 : ByteArray) (x5 y5 : Bool) (x6 y6 : ByteArray) :
  (Op.equalIn (d + 3) 66 (.agg #[.int .i64 x0, .int .i64 x1, .int .i64 x2, .int .i64 x3, .string x4, .bool x5, .string x6]) (.agg #[.int .i64 y0, .int .i64 y1, .int .i64 y2, .int .i64 y3, .string y4, .bool y5, .string y6])).run Try.prog w = .ok ((x0 == y0 && (x1 == y1)) && (x2 == y2 && (x3 == y3 && (x4.toList == y4.toList && (x5 == y5 && (x6.toList == y6.toList)))))) w := by
 refine zjq Try.underlying66 (by kernel_rfl) ?_
 refine zcr (by rfl) (by go_simp) (by go_simp) (zeo (d + 0) w _ _ _ _) ?_
 refine zcr (by rfl) (by go_simp; rfl) (by go_simp; rfl) (by go_simp) ?_
 refine zcr (by rfl) (by go_simp; rfl) (by go_simp; rfl) (by go_simp) ?_
 refine zcr (by rfl) (by go_simp; rfl) (by go_simp; rfl) (by go_simp) ?_
 refine zcr (by rfl) (by go_simp; rfl) (by go_simp; rfl) (by go_simp) ?_
 exact zfv (by rfl) (by go_simp; rfl) (by go_simp; rfl) (by go_simp)
theorem zbo {a b : ByteArray} (h : a.toList = b.toList) : a = b := by
 rw [ByteArray.toList_eq, ByteArray.toList_eq] at h
 exact ByteArray.ext (Array.ext' h)
def IsEq (p : Prop) (w : World) (e : Ending) (w' : World) : Prop := ∃ r, e = .returned (.bool r) ∧ (r = true ↔ p) ∧ Drawn0 w w'
theorem zby {w : World} {A : Option Addr} {n c st : Nat} {R : List (List Value)} {fs : List Fld} (h : ListRd w (.slice A n c) st R) (hl : R.length = n) {k : Nat} (hk : k < n) : ∃ ad r, A = some ad ∧ R[k]? = some r ∧ ∀ j v, r[j]? = some v → w.cell? (ad.add (k * st + j)) = some v := by
 obtain ⟨a, c', e, h0, h3⟩ := h
 injection e with e1 e2 e3
 subst e1
 obtain ⟨ad, rfl, h4⟩ := h3 (fun e => by subst e; simp at hl; omega)
 have hkl : k < R.length := by omega
 exact ⟨ad, R[k], rfl, List.getElem?_eq_getElem hkl, fun j v hj => h4 k _ (List.getElem?_eq_getElem hkl) j v hj⟩
theorem zcg {α : Type} {R S : List α} {k : Nat} {r : α} (h : R.take k = S.take k) (h1 : R[k]? = some r) (h2 : S[k]? = some r) : R.take (k + 1) = S.take (k + 1) := by
 rw [List.take_add_one, List.take_add_one, h, h1, h2]
theorem zfp {α : Type} {R S : List α} {k : Nat} {r s : α} (h1 : R[k]? = some r) (h2 : S[k]? = some s) (hn : r ≠ s) : R ≠ S := fun e => by
 subst e
 rw [h1] at h2
 injection h2 with h2
 exact hn h2
theorem zeb {r : List Value} (h : fits zak r) : ∃ (x0 : Int) (x1 : Int) (x2 : Int) (x3 : Int) (x4 : ByteArray) (x5 : Bool) (x6 : ByteArray), r = [.int .i64 x0, .int .i64 x1, .int .i64 x2, .int .i64 x3, .string x4, .bool x5, .string x6] := by
 obtain ⟨v0, r, rfl⟩ : ∃ v0 q, r = v0 :: q := by cases r with | nil => exact h.elim | cons a r => exact ⟨_, _, rfl⟩
 obtain ⟨⟨x0, rfl⟩, h⟩ := h
 obtain ⟨v1, r, rfl⟩ : ∃ v0 q, r = v0 :: q := by cases r with | nil => exact h.elim | cons a r => exact ⟨_, _, rfl⟩
 obtain ⟨⟨x1, rfl⟩, h⟩ := h
 obtain ⟨v2, r, rfl⟩ : ∃ v0 q, r = v0 :: q := by cases r with | nil => exact h.elim | cons a r => exact ⟨_, _, rfl⟩
 obtain ⟨⟨x2, rfl⟩, h⟩ := h
 obtain ⟨v3, r, rfl⟩ : ∃ v0 q, r = v0 :: q := by cases r with | nil => exact h.elim | cons a r => exact ⟨_, _, rfl⟩
 obtain ⟨⟨x3, rfl⟩, h⟩ := h
 obtain ⟨v4, r, rfl⟩ : ∃ v0 q, r = v0 :: q := by cases r with | nil => exact h.elim | cons a r => exact ⟨_, _, rfl⟩
 obtain ⟨⟨x4, rfl⟩, h⟩ := h
 obtain ⟨v5, r, rfl⟩ : ∃ v0 q, r = v0 :: q := by cases r with | nil => exact h.elim | cons a r => exact ⟨_, _, rfl⟩
 obtain ⟨⟨x5, rfl⟩, h⟩ := h
 obtain ⟨v6, r, rfl⟩ : ∃ v0 q, r = v0 :: q := by cases r with | nil => exact h.elim | cons a r => exact ⟨_, _, rfl⟩
 obtain ⟨⟨x6, rfl⟩, h⟩ := h
 obtain rfl : r = [] := by cases r with | nil => rfl | cons a r => exact h.elim
 exact ⟨x0, x1, x2, x3, x4, x5, x6, rfl⟩
theorem zer {r : List Value} (h : fits zat r) : ∃ (x0 : ByteArray) (x1 : Int) (x2 : Int) (x3 : Bool) (x4 : ByteArray), r = [.string x0, .int .i64 x1, .int .i64 x2, .bool x3, .string x4] := by
 obtain ⟨v0, r, rfl⟩ : ∃ v0 q, r = v0 :: q := by cases r with | nil => exact h.elim | cons a r => exact ⟨_, _, rfl⟩
 obtain ⟨⟨x0, rfl⟩, h⟩ := h
 obtain ⟨v1, r, rfl⟩ : ∃ v0 q, r = v0 :: q := by cases r with | nil => exact h.elim | cons a r => exact ⟨_, _, rfl⟩
 obtain ⟨⟨x1, rfl⟩, h⟩ := h
 obtain ⟨v2, r, rfl⟩ : ∃ v0 q, r = v0 :: q := by cases r with | nil => exact h.elim | cons a r => exact ⟨_, _, rfl⟩
 obtain ⟨⟨x2, rfl⟩, h⟩ := h
 obtain ⟨v3, r, rfl⟩ : ∃ v0 q, r = v0 :: q := by cases r with | nil => exact h.elim | cons a r => exact ⟨_, _, rfl⟩
 obtain ⟨⟨x3, rfl⟩, h⟩ := h
 obtain ⟨v4, r, rfl⟩ : ∃ v0 q, r = v0 :: q := by cases r with | nil => exact h.elim | cons a r => exact ⟨_, _, rfl⟩
 obtain ⟨⟨x4, rfl⟩, h⟩ := h
 obtain rfl : r = [] := by cases r with | nil => rfl | cons a r => exact h.elim
 exact ⟨x0, x1, x2, x3, x4, rfl⟩
theorem zes {r : List Value} (h : fits zau r) : ∃ (x0 : Int) (x1 : Int) (x2 : Int) (x3 : Int), r = [.int .i64 x0, .int .i64 x1, .int .i64 x2, .int .i64 x3] := by
 obtain ⟨v0, r, rfl⟩ : ∃ v0 q, r = v0 :: q := by cases r with | nil => exact h.elim | cons a r => exact ⟨_, _, rfl⟩
 obtain ⟨⟨x0, rfl⟩, h⟩ := h
 obtain ⟨v1, r, rfl⟩ : ∃ v0 q, r = v0 :: q := by cases r with | nil => exact h.elim | cons a r => exact ⟨_, _, rfl⟩
 obtain ⟨⟨x1, rfl⟩, h⟩ := h
 obtain ⟨v2, r, rfl⟩ : ∃ v0 q, r = v0 :: q := by cases r with | nil => exact h.elim | cons a r => exact ⟨_, _, rfl⟩
 obtain ⟨⟨x2, rfl⟩, h⟩ := h
 obtain ⟨v3, r, rfl⟩ : ∃ v0 q, r = v0 :: q := by cases r with | nil => exact h.elim | cons a r => exact ⟨_, _, rfl⟩
 obtain ⟨⟨x3, rfl⟩, h⟩ := h
 obtain rfl : r = [] := by cases r with | nil => rfl | cons a r => exact h.elim
 exact ⟨x0, x1, x2, x3, rfl⟩
theorem zec {r : List Value} (h : fits zaj r) : ∃ (x0 : Int) (x1 : Int) (x2 : Bool), r = [.int .i64 x0, .int .i64 x1, .bool x2] := by
 obtain ⟨v0, r, rfl⟩ : ∃ v0 q, r = v0 :: q := by cases r with | nil => exact h.elim | cons a r => exact ⟨_, _, rfl⟩
 obtain ⟨⟨x0, rfl⟩, h⟩ := h
 obtain ⟨v1, r, rfl⟩ : ∃ v0 q, r = v0 :: q := by cases r with | nil => exact h.elim | cons a r => exact ⟨_, _, rfl⟩
 obtain ⟨⟨x1, rfl⟩, h⟩ := h
 obtain ⟨v2, r, rfl⟩ : ∃ v0 q, r = v0 :: q := by cases r with | nil => exact h.elim | cons a r => exact ⟨_, _, rfl⟩
 obtain ⟨⟨x2, rfl⟩, h⟩ := h
 obtain rfl : r = [] := by cases r with | nil => rfl | cons a r => exact h.elim
 exact ⟨x0, x1, x2, rfl⟩
attribute [local go_sem high] zmf in
theorem zmg (w : World) (A B : Option Addr) (c d : Nat) (R S : List (List Value)) (h1 : ListRd w (.slice A R.length c) 7 R) (h2 : ListRd w (.slice B S.length d) 7 S) (hf : ∀ r, r ∈ R → fits zak r) (hg : ∀ r, r ∈ S → fits zak r) (hn : R.length ≤ 1048576) (hn2 : S.length ≤ 1048576) :
  Calls Try.prog 30 #[.slice A R.length c, .slice B S.length d] w (IsEq (R = S) w) := by
 have hu := Try.underlying66
 have H1 := aK h1
 have H2 := aK h2
 have HF := aK hf
 have HG := aK hg
 clear h1 h2 hf hg
 by_cases hl : R.length = S.length
 ·obtain ⟨n, e1⟩ : ∃ n, R.length = n := ⟨_, rfl⟩
  have e2 : S.length = n := by omega
  rw [e1] at H1 hn hl
  rw [e2] at H2 hn2 hl
  rw [e1, e2]
  have E1 := aK e1
  have E2 := aK e2
  clear e1 e2 hl hn2
  go_enter Try.func30, Try.ntmps30
  go_wp2
  go_loopg [13] n (fun g v w' => ∃ k : Nat, v = .int .i64 (k : Int) ∧ k + g = n ∧ Aside0 (R.take k = S.take k) ∧ Drawn0 w w')
  case atStart => exact ⟨0, rfl, by omega, ⟨rfl⟩, Drawn0.refl _⟩
  case round =>
   obtain ⟨k, rfl, hk, HT, ⟨m1, rfl⟩⟩ := hrel
   cases gk with
   | zero =>
    obtain rfl : k = n := by omega
    go_wp2
    go_ret
    refine ⟨true, rfl, ⟨fun _ => ?_, fun _ => rfl⟩, by repeat (first | exact Drawn0.refl _ | apply Drawn0.step)⟩
    have := HT.out
    rwa [List.take_of_length_le (by rw [E1.out]; omega), List.take_of_length_le (by rw [E2.out]; omega)] at this
   | succ g =>
    have hkn : k < n := by omega
    obtain ⟨ad, r, rfl, hr, hcx⟩ := zby (fs := zak) H1.out E1.out hkn
    obtain ⟨bd, s, rfl, hs, hcy⟩ := zby (fs := zak) H2.out E2.out hkn
    obtain ⟨x0, x1, x2, x3, x4, x5, x6, rfl⟩ := zeb (HF.out r (List.mem_of_getElem? hr))
    obtain ⟨y0, y1, y2, y3, y4, y5, y6, rfl⟩ := zeb (HG.out s (List.mem_of_getElem? hs))
    have cx0 : w.cell? (ad.add (k * 7)) = some (.int .i64 x0) := hcx 0 _ rfl
    have cx1 : w.cell? ⟨(ad.add (k * 7)).block, (ad.add (k * 7)).off + 1, none⟩ = some (.int .i64 x1) := by rw [← zai _ _ _ (by omega)]; exact hcx 1 _ rfl
    have cx2 : w.cell? ⟨(ad.add (k * 7)).block, (ad.add (k * 7)).off + 2, none⟩ = some (.int .i64 x2) := by rw [← zai _ _ _ (by omega)]; exact hcx 2 _ rfl
    have cx3 : w.cell? ⟨(ad.add (k * 7)).block, (ad.add (k * 7)).off + 3, none⟩ = some (.int .i64 x3) := by rw [← zai _ _ _ (by omega)]; exact hcx 3 _ rfl
    have cx4 : w.cell? ⟨(ad.add (k * 7)).block, (ad.add (k * 7)).off + 4, none⟩ = some (.string x4) := by rw [← zai _ _ _ (by omega)]; exact hcx 4 _ rfl
    have cx5 : w.cell? ⟨(ad.add (k * 7)).block, (ad.add (k * 7)).off + 5, none⟩ = some (.bool x5) := by rw [← zai _ _ _ (by omega)]; exact hcx 5 _ rfl
    have cx6 : w.cell? ⟨(ad.add (k * 7)).block, (ad.add (k * 7)).off + 6, none⟩ = some (.string x6) := by rw [← zai _ _ _ (by omega)]; exact hcx 6 _ rfl
    have cy0 : w.cell? (bd.add (k * 7)) = some (.int .i64 y0) := hcy 0 _ rfl
    have cy1 : w.cell? ⟨(bd.add (k * 7)).block, (bd.add (k * 7)).off + 1, none⟩ = some (.int .i64 y1) := by rw [← zai _ _ _ (by omega)]; exact hcy 1 _ rfl
    have cy2 : w.cell? ⟨(bd.add (k * 7)).block, (bd.add (k * 7)).off + 2, none⟩ = some (.int .i64 y2) := by rw [← zai _ _ _ (by omega)]; exact hcy 2 _ rfl
    have cy3 : w.cell? ⟨(bd.add (k * 7)).block, (bd.add (k * 7)).off + 3, none⟩ = some (.int .i64 y3) := by rw [← zai _ _ _ (by omega)]; exact hcy 3 _ rfl
    have cy4 : w.cell? ⟨(bd.add (k * 7)).block, (bd.add (k * 7)).off + 4, none⟩ = some (.string y4) := by rw [← zai _ _ _ (by omega)]; exact hcy 4 _ rfl
    have cy5 : w.cell? ⟨(bd.add (k * 7)).block, (bd.add (k * 7)).off + 5, none⟩ = some (.bool y5) := by rw [← zai _ _ _ (by omega)]; exact hcy 5 _ rfl
    have cy6 : w.cell? ⟨(bd.add (k * 7)).block, (bd.add (k * 7)).off + 6, none⟩ = some (.string y6) := by rw [← zai _ _ _ (by omega)]; exact hcy 6 _ rfl
    have HR := aK hr
    have HS := aK hs
    have HK := aK hk
    clear hcx hcy hr hs hk
    cases hb : (((!(x0 == y0)) || ((!(x1 == y1)))) || ((!(x2 == y2)) || ((!(x3 == y3)) || ((!(x4.toList == y4.toList)) || ((!(x5 == y5)) || ((!(x6.toList == y6.toList))))))))
    ·have HE := aK hb
     go_wp2
     repeat (go_quiet (fail); try go_wp2)
     go_roundg g
     case measure => omega
     case rel =>
      refine ⟨k + 1, by go_num, by have := HK.out; omega, ⟨?_⟩, by repeat (first | exact Drawn0.refl _ | apply Drawn0.step)⟩
      have he := HE.out
      simp only [Bool.or_eq_false_iff, Bool.not_eq_false', beq_iff_eq] at he
      obtain ⟨q0, q1, q2, q3, q4, q5, q6⟩ : x0 = y0 ∧ x1 = y1 ∧ x2 = y2 ∧ x3 = y3 ∧ x4.toList = y4.toList ∧ x5 = y5 ∧ x6.toList = y6.toList := by simpa [and_assoc] using he
      subst q0
      subst q1
      subst q2
      subst q3
      obtain rfl := zbo q4
      subst q5
      obtain rfl := zbo q6
      exact zcg HT.out HR.out HS.out
    ·have HE := aK hb
     go_wp2
     repeat (go_quiet (fail); try go_wp2)
     go_ret
     refine ⟨false, rfl, ⟨(fun h => by cases h), fun h => absurd h (zfp HR.out HS.out (fun e => ?_))⟩, by repeat (first | exact Drawn0.refl _ | apply Drawn0.step)⟩
     have he := HE.out
     simp only [List.cons.injEq, Value.int.injEq, Value.string.injEq, Value.bool.injEq, true_and, and_true] at e
     obtain ⟨rfl, rfl, rfl, rfl, rfl, rfl, rfl⟩ := e
     simp at he
 ·have b0 : ((R.length : Int) == (S.length : Int)) = false := by rw [beq_eq_false_iff_ne]; omega
  have b1 : ((R.length : Int) != (S.length : Int)) = true := by rw [bne_iff_ne]; omega
  have b2 : (R.length == S.length) = false := by simpa using hl
  have HN := aK hl
  clear hl
  go_enter Try.func30, Try.ntmps30
  go_wp2
  go_ret
  exact ⟨false, rfl, ⟨(fun h => by cases h), fun h => absurd (congrArg List.length h) HN.out⟩, Drawn0.refl _⟩
attribute [local go_sem high] zom in
theorem znl (w : World) (A B : Option Addr) (c d : Nat) (R S : List (List Value)) (h1 : ListRd w (.slice A R.length c) 5 R) (h2 : ListRd w (.slice B S.length d) 5 S) (hf : ∀ r, r ∈ R → fits zat r) (hg : ∀ r, r ∈ S → fits zat r) (hn : R.length ≤ 1048576) (hn2 : S.length ≤ 1048576) :
  Calls Try.prog 31 #[.slice A R.length c, .slice B S.length d] w (IsEq (R = S) w) := by
 have hu := Try.underlying68
 have H1 := aK h1
 have H2 := aK h2
 have HF := aK hf
 have HG := aK hg
 clear h1 h2 hf hg
 by_cases hl : R.length = S.length
 ·obtain ⟨n, e1⟩ : ∃ n, R.length = n := ⟨_, rfl⟩
  have e2 : S.length = n := by omega
  rw [e1] at H1 hn hl
  rw [e2] at H2 hn2 hl
  rw [e1, e2]
  have E1 := aK e1
  have E2 := aK e2
  clear e1 e2 hl hn2
  go_enter Try.func31, Try.ntmps31
  go_wp2
  go_loopg [13] n (fun g v w' => ∃ k : Nat, v = .int .i64 (k : Int) ∧ k + g = n ∧ Aside0 (R.take k = S.take k) ∧ Drawn0 w w')
  case atStart => exact ⟨0, rfl, by omega, ⟨rfl⟩, Drawn0.refl _⟩
  case round =>
   obtain ⟨k, rfl, hk, HT, ⟨m1, rfl⟩⟩ := hrel
   cases gk with
   | zero =>
    obtain rfl : k = n := by omega
    go_wp2
    go_ret
    refine ⟨true, rfl, ⟨fun _ => ?_, fun _ => rfl⟩, by repeat (first | exact Drawn0.refl _ | apply Drawn0.step)⟩
    have := HT.out
    rwa [List.take_of_length_le (by rw [E1.out]; omega), List.take_of_length_le (by rw [E2.out]; omega)] at this
   | succ g =>
    have hkn : k < n := by omega
    obtain ⟨ad, r, rfl, hr, hcx⟩ := zby (fs := zat) H1.out E1.out hkn
    obtain ⟨bd, s, rfl, hs, hcy⟩ := zby (fs := zat) H2.out E2.out hkn
    obtain ⟨x0, x1, x2, x3, x4, rfl⟩ := zer (HF.out r (List.mem_of_getElem? hr))
    obtain ⟨y0, y1, y2, y3, y4, rfl⟩ := zer (HG.out s (List.mem_of_getElem? hs))
    have cx0 : w.cell? (ad.add (k * 5)) = some (.string x0) := hcx 0 _ rfl
    have cx1 : w.cell? ⟨(ad.add (k * 5)).block, (ad.add (k * 5)).off + 1, none⟩ = some (.int .i64 x1) := by rw [← zai _ _ _ (by omega)]; exact hcx 1 _ rfl
    have cx2 : w.cell? ⟨(ad.add (k * 5)).block, (ad.add (k * 5)).off + 2, none⟩ = some (.int .i64 x2) := by rw [← zai _ _ _ (by omega)]; exact hcx 2 _ rfl
    have cx3 : w.cell? ⟨(ad.add (k * 5)).block, (ad.add (k * 5)).off + 3, none⟩ = some (.bool x3) := by rw [← zai _ _ _ (by omega)]; exact hcx 3 _ rfl
    have cx4 : w.cell? ⟨(ad.add (k * 5)).block, (ad.add (k * 5)).off + 4, none⟩ = some (.string x4) := by rw [← zai _ _ _ (by omega)]; exact hcx 4 _ rfl
    have cy0 : w.cell? (bd.add (k * 5)) = some (.string y0) := hcy 0 _ rfl
    have cy1 : w.cell? ⟨(bd.add (k * 5)).block, (bd.add (k * 5)).off + 1, none⟩ = some (.int .i64 y1) := by rw [← zai _ _ _ (by omega)]; exact hcy 1 _ rfl
    have cy2 : w.cell? ⟨(bd.add (k * 5)).block, (bd.add (k * 5)).off + 2, none⟩ = some (.int .i64 y2) := by rw [← zai _ _ _ (by omega)]; exact hcy 2 _ rfl
    have cy3 : w.cell? ⟨(bd.add (k * 5)).block, (bd.add (k * 5)).off + 3, none⟩ = some (.bool y3) := by rw [← zai _ _ _ (by omega)]; exact hcy 3 _ rfl
    have cy4 : w.cell? ⟨(bd.add (k * 5)).block, (bd.add (k * 5)).off + 4, none⟩ = some (.string y4) := by rw [← zai _ _ _ (by omega)]; exact hcy 4 _ rfl
    have HR := aK hr
    have HS := aK hs
    have HK := aK hk
    clear hcx hcy hr hs hk
    cases hb : ((!(x0.toList == y0.toList)) || ((((!(x1 == y1)) || ((!(x2 == y2)))) || ((!(x3 == y3)) || ((!(x4.toList == y4.toList)))))))
    ·have HE := aK hb
     go_wp2
     repeat (go_quiet (fail); try go_wp2)
     go_roundg g
     case measure => omega
     case rel =>
      refine ⟨k + 1, by go_num, by have := HK.out; omega, ⟨?_⟩, by repeat (first | exact Drawn0.refl _ | apply Drawn0.step)⟩
      have he := HE.out
      simp only [Bool.or_eq_false_iff, Bool.not_eq_false', beq_iff_eq] at he
      obtain ⟨q0, q1, q2, q3, q4⟩ : x0.toList = y0.toList ∧ x1 = y1 ∧ x2 = y2 ∧ x3 = y3 ∧ x4.toList = y4.toList := by simpa [and_assoc] using he
      obtain rfl := zbo q0
      subst q1
      subst q2
      subst q3
      obtain rfl := zbo q4
      exact zcg HT.out HR.out HS.out
    ·have HE := aK hb
     go_wp2
     repeat (go_quiet (fail); try go_wp2)
     go_ret
     refine ⟨false, rfl, ⟨(fun h => by cases h), fun h => absurd h (zfp HR.out HS.out (fun e => ?_))⟩, by repeat (first | exact Drawn0.refl _ | apply Drawn0.step)⟩
     have he := HE.out
     simp only [List.cons.injEq, Value.int.injEq, Value.string.injEq, Value.bool.injEq, true_and, and_true] at e
     obtain ⟨rfl, rfl, rfl, rfl, rfl⟩ := e
     simp at he
 ·have b0 : ((R.length : Int) == (S.length : Int)) = false := by rw [beq_eq_false_iff_ne]; omega
  have b1 : ((R.length : Int) != (S.length : Int)) = true := by rw [bne_iff_ne]; omega
  have b2 : (R.length == S.length) = false := by simpa using hl
  have HN := aK hl
  clear hl
  go_enter Try.func31, Try.ntmps31
  go_wp2
  go_ret
  exact ⟨false, rfl, ⟨(fun h => by cases h), fun h => absurd (congrArg List.length h) HN.out⟩, Drawn0.refl _⟩
attribute [local go_sem high] zon in
theorem znm (w : World) (A B : Option Addr) (c d : Nat) (R S : List (List Value)) (h1 : ListRd w (.slice A R.length c) 4 R) (h2 : ListRd w (.slice B S.length d) 4 S) (hf : ∀ r, r ∈ R → fits zau r) (hg : ∀ r, r ∈ S → fits zau r) (hn : R.length ≤ 1048576) (hn2 : S.length ≤ 1048576) :
  Calls Try.prog 32 #[.slice A R.length c, .slice B S.length d] w (IsEq (R = S) w) := by
 have hu := Try.underlying70
 have H1 := aK h1
 have H2 := aK h2
 have HF := aK hf
 have HG := aK hg
 clear h1 h2 hf hg
 by_cases hl : R.length = S.length
 ·obtain ⟨n, e1⟩ : ∃ n, R.length = n := ⟨_, rfl⟩
  have e2 : S.length = n := by omega
  rw [e1] at H1 hn hl
  rw [e2] at H2 hn2 hl
  rw [e1, e2]
  have E1 := aK e1
  have E2 := aK e2
  clear e1 e2 hl hn2
  go_enter Try.func32, Try.ntmps32
  go_wp2
  go_loopg [13] n (fun g v w' => ∃ k : Nat, v = .int .i64 (k : Int) ∧ k + g = n ∧ Aside0 (R.take k = S.take k) ∧ Drawn0 w w')
  case atStart => exact ⟨0, rfl, by omega, ⟨rfl⟩, Drawn0.refl _⟩
  case round =>
   obtain ⟨k, rfl, hk, HT, ⟨m1, rfl⟩⟩ := hrel
   cases gk with
   | zero =>
    obtain rfl : k = n := by omega
    go_wp2
    go_ret
    refine ⟨true, rfl, ⟨fun _ => ?_, fun _ => rfl⟩, by repeat (first | exact Drawn0.refl _ | apply Drawn0.step)⟩
    have := HT.out
    rwa [List.take_of_length_le (by rw [E1.out]; omega), List.take_of_length_le (by rw [E2.out]; omega)] at this
   | succ g =>
    have hkn : k < n := by omega
    obtain ⟨ad, r, rfl, hr, hcx⟩ := zby (fs := zau) H1.out E1.out hkn
    obtain ⟨bd, s, rfl, hs, hcy⟩ := zby (fs := zau) H2.out E2.out hkn
    obtain ⟨x0, x1, x2, x3, rfl⟩ := zes (HF.out r (List.mem_of_getElem? hr))
    obtain ⟨y0, y1, y2, y3, rfl⟩ := zes (HG.out s (List.mem_of_getElem? hs))
    have cx0 : w.cell? (ad.add (k * 4)) = some (.int .i64 x0) := hcx 0 _ rfl
    have cx1 : w.cell? ⟨(ad.add (k * 4)).block, (ad.add (k * 4)).off + 1, none⟩ = some (.int .i64 x1) := by rw [← zai _ _ _ (by omega)]; exact hcx 1 _ rfl
    have cx2 : w.cell? ⟨(ad.add (k * 4)).block, (ad.add (k * 4)).off + 2, none⟩ = some (.int .i64 x2) := by rw [← zai _ _ _ (by omega)]; exact hcx 2 _ rfl
    have cx3 : w.cell? ⟨(ad.add (k * 4)).block, (ad.add (k * 4)).off + 3, none⟩ = some (.int .i64 x3) := by rw [← zai _ _ _ (by omega)]; exact hcx 3 _ rfl
    have cy0 : w.cell? (bd.add (k * 4)) = some (.int .i64 y0) := hcy 0 _ rfl
    have cy1 : w.cell? ⟨(bd.add (k * 4)).block, (bd.add (k * 4)).off + 1, none⟩ = some (.int .i64 y1) := by rw [← zai _ _ _ (by omega)]; exact hcy 1 _ rfl
    have cy2 : w.cell? ⟨(bd.add (k * 4)).block, (bd.add (k * 4)).off + 2, none⟩ = some (.int .i64 y2) := by rw [← zai _ _ _ (by omega)]; exact hcy 2 _ rfl
    have cy3 : w.cell? ⟨(bd.add (k * 4)).block, (bd.add (k * 4)).off + 3, none⟩ = some (.int .i64 y3) := by rw [← zai _ _ _ (by omega)]; exact hcy 3 _ rfl
    have HR := aK hr
    have HS := aK hs
    have HK := aK hk
    clear hcx hcy hr hs hk
    cases hb : ((!(x0 == y0)) || ((!(x1 == y1)) || (((!(x2 == y2)) || ((!(x3 == y3)))))))
    ·have HE := aK hb
     go_wp2
     repeat (go_quiet (fail); try go_wp2)
     go_roundg g
     case measure => omega
     case rel =>
      refine ⟨k + 1, by go_num, by have := HK.out; omega, ⟨?_⟩, by repeat (first | exact Drawn0.refl _ | apply Drawn0.step)⟩
      have he := HE.out
      simp only [Bool.or_eq_false_iff, Bool.not_eq_false', beq_iff_eq] at he
      obtain ⟨q0, q1, q2, q3⟩ : x0 = y0 ∧ x1 = y1 ∧ x2 = y2 ∧ x3 = y3 := by simpa [and_assoc] using he
      subst q0
      subst q1
      subst q2
      subst q3
      exact zcg HT.out HR.out HS.out
    ·have HE := aK hb
     go_wp2
     repeat (go_quiet (fail); try go_wp2)
     go_ret
     refine ⟨false, rfl, ⟨(fun h => by cases h), fun h => absurd h (zfp HR.out HS.out (fun e => ?_))⟩, by repeat (first | exact Drawn0.refl _ | apply Drawn0.step)⟩
     have he := HE.out
     simp only [List.cons.injEq, Value.int.injEq, Value.string.injEq, Value.bool.injEq, true_and, and_true] at e
     obtain ⟨rfl, rfl, rfl, rfl⟩ := e
     simp at he
 ·have b0 : ((R.length : Int) == (S.length : Int)) = false := by rw [beq_eq_false_iff_ne]; omega
  have b1 : ((R.length : Int) != (S.length : Int)) = true := by rw [bne_iff_ne]; omega
  have b2 : (R.length == S.length) = false := by simpa using hl
  have HN := aK hl
  clear hl
  go_enter Try.func32, Try.ntmps32
  go_wp2
  go_ret
  exact ⟨false, rfl, ⟨(fun h => by cases h), fun h => absurd (congrArg List.length h) HN.out⟩, Drawn0.refl _⟩
attribute [local go_sem high] zme in
theorem zmh (w : World) (A B : Option Addr) (c d : Nat) (R S : List (List Value)) (h1 : ListRd w (.slice A R.length c) 3 R) (h2 : ListRd w (.slice B S.length d) 3 S) (hf : ∀ r, r ∈ R → fits zaj r) (hg : ∀ r, r ∈ S → fits zaj r) (hn : R.length ≤ 1048576) (hn2 : S.length ≤ 1048576) :
  Calls Try.prog 33 #[.slice A R.length c, .slice B S.length d] w (IsEq (R = S) w) := by
 have hu := Try.underlying72
 have H1 := aK h1
 have H2 := aK h2
 have HF := aK hf
 have HG := aK hg
 clear h1 h2 hf hg
 by_cases hl : R.length = S.length
 ·obtain ⟨n, e1⟩ : ∃ n, R.length = n := ⟨_, rfl⟩
  have e2 : S.length = n := by omega
  rw [e1] at H1 hn hl
  rw [e2] at H2 hn2 hl
  rw [e1, e2]
  have E1 := aK e1
  have E2 := aK e2
  clear e1 e2 hl hn2
  go_enter Try.func33, Try.ntmps33
  go_wp2
  go_loopg [13] n (fun g v w' => ∃ k : Nat, v = .int .i64 (k : Int) ∧ k + g = n ∧ Aside0 (R.take k = S.take k) ∧ Drawn0 w w')
  case atStart => exact ⟨0, rfl, by omega, ⟨rfl⟩, Drawn0.refl _⟩
  case round =>
   obtain ⟨k, rfl, hk, HT, ⟨m1, rfl⟩⟩ := hrel
   cases gk with
   | zero =>
    obtain rfl : k = n := by omega
    go_wp2
    go_ret
    refine ⟨true, rfl, ⟨fun _ => ?_, fun _ => rfl⟩, by repeat (first | exact Drawn0.refl _ | apply Drawn0.step)⟩
    have := HT.out
    rwa [List.take_of_length_le (by rw [E1.out]; omega), List.take_of_length_le (by rw [E2.out]; omega)] at this
   | succ g =>
    have hkn : k < n := by omega
    obtain ⟨ad, r, rfl, hr, hcx⟩ := zby (fs := zaj) H1.out E1.out hkn
    obtain ⟨bd, s, rfl, hs, hcy⟩ := zby (fs := zaj) H2.out E2.out hkn
    obtain ⟨x0, x1, x2, rfl⟩ := zec (HF.out r (List.mem_of_getElem? hr))
    obtain ⟨y0, y1, y2, rfl⟩ := zec (HG.out s (List.mem_of_getElem? hs))
    have cx0 : w.cell? (ad.add (k * 3)) = some (.int .i64 x0) := hcx 0 _ rfl
    have cx1 : w.cell? ⟨(ad.add (k * 3)).block, (ad.add (k * 3)).off + 1, none⟩ = some (.int .i64 x1) := by rw [← zai _ _ _ (by omega)]; exact hcx 1 _ rfl
    have cx2 : w.cell? ⟨(ad.add (k * 3)).block, (ad.add (k * 3)).off + 2, none⟩ = some (.bool x2) := by rw [← zai _ _ _ (by omega)]; exact hcx 2 _ rfl
    have cy0 : w.cell? (bd.add (k * 3)) = some (.int .i64 y0) := hcy 0 _ rfl
    have cy1 : w.cell? ⟨(bd.add (k * 3)).block, (bd.add (k * 3)).off + 1, none⟩ = some (.int .i64 y1) := by rw [← zai _ _ _ (by omega)]; exact hcy 1 _ rfl
    have cy2 : w.cell? ⟨(bd.add (k * 3)).block, (bd.add (k * 3)).off + 2, none⟩ = some (.bool y2) := by rw [← zai _ _ _ (by omega)]; exact hcy 2 _ rfl
    have HR := aK hr
    have HS := aK hs
    have HK := aK hk
    clear hcx hcy hr hs hk
    cases hb : ((!(x0 == y0)) || ((!(x1 == y1)) || ((!(x2 == y2)))))
    ·have HE := aK hb
     go_wp2
     repeat (go_quiet (fail); try go_wp2)
     go_roundg g
     case measure => omega
     case rel =>
      refine ⟨k + 1, by go_num, by have := HK.out; omega, ⟨?_⟩, by repeat (first | exact Drawn0.refl _ | apply Drawn0.step)⟩
      have he := HE.out
      simp only [Bool.or_eq_false_iff, Bool.not_eq_false', beq_iff_eq] at he
      obtain ⟨q0, q1, q2⟩ : x0 = y0 ∧ x1 = y1 ∧ x2 = y2 := by simpa [and_assoc] using he
      subst q0
      subst q1
      subst q2
      exact zcg HT.out HR.out HS.out
    ·have HE := aK hb
     go_wp2
     repeat (go_quiet (fail); try go_wp2)
     go_ret
     refine ⟨false, rfl, ⟨(fun h => by cases h), fun h => absurd h (zfp HR.out HS.out (fun e => ?_))⟩, by repeat (first | exact Drawn0.refl _ | apply Drawn0.step)⟩
     have he := HE.out
     simp only [List.cons.injEq, Value.int.injEq, Value.string.injEq, Value.bool.injEq, true_and, and_true] at e
     obtain ⟨rfl, rfl, rfl⟩ := e
     simp at he
 ·have b0 : ((R.length : Int) == (S.length : Int)) = false := by rw [beq_eq_false_iff_ne]; omega
  have b1 : ((R.length : Int) != (S.length : Int)) = true := by rw [bne_iff_ne]; omega
  have b2 : (R.length == S.length) = false := by simpa using hl
  have HN := aK hl
  clear hl
  go_enter Try.func33, Try.ntmps33
  go_wp2
  go_ret
  exact ⟨false, rfl, ⟨(fun h => by cases h), fun h => absurd (congrArg List.length h) HN.out⟩, Drawn0.refl _⟩
attribute [local go_sem high] zmf in
theorem zks (w : World) (A B : Option Addr) (c d : Nat) (R S : List (List Value)) (h1 : ListRd w (.slice A R.length c) 7 R) (h2 : ListRd w (.slice B S.length d) 7 S) (hf : ∀ r, r ∈ R → fits zak r) (hg : ∀ r, r ∈ S → fits zak r) (hn : R.length ≤ 1048576) (hn2 : S.length ≤ 1048576) :
  Calls Try.prog 26 #[.slice A R.length c, .slice B S.length d] w (IsEq (R = S) w) := by
 have hu := Try.underlying66
 have H1 := aK h1
 have H2 := aK h2
 have HF := aK hf
 have HG := aK hg
 clear h1 h2 hf hg
 by_cases hl : R.length = S.length
 ·obtain ⟨n, e1⟩ : ∃ n, R.length = n := ⟨_, rfl⟩
  have e2 : S.length = n := by omega
  rw [e1] at H1 hn hl
  rw [e2] at H2 hn2 hl
  rw [e1, e2]
  have E1 := aK e1
  have E2 := aK e2
  clear e1 e2 hl hn2
  go_enter Try.func26, Try.ntmps26
  go_wp2
  go_loopg [5] n (fun g v w' => ∃ k : Nat, v = .int .i64 (k : Int) ∧ k + g = n ∧ Aside0 (R.take k = S.take k) ∧ Drawn0 w w')
  case atStart => exact ⟨0, rfl, by omega, ⟨rfl⟩, Drawn0.refl _⟩
  case round =>
   obtain ⟨k, rfl, hk, HT, ⟨m1, rfl⟩⟩ := hrel
   cases gk with
   | zero =>
    obtain rfl : k = n := by omega
    go_wp2
    go_ret
    refine ⟨true, rfl, ⟨fun _ => ?_, fun _ => rfl⟩, by repeat (first | exact Drawn0.refl _ | apply Drawn0.step)⟩
    have := HT.out
    rwa [List.take_of_length_le (by rw [E1.out]; omega), List.take_of_length_le (by rw [E2.out]; omega)] at this
   | succ g =>
    have hkn : k < n := by omega
    obtain ⟨ad, r, rfl, hr, hcx⟩ := zby (fs := zak) H1.out E1.out hkn
    obtain ⟨bd, s, rfl, hs, hcy⟩ := zby (fs := zak) H2.out E2.out hkn
    obtain ⟨x0, x1, x2, x3, x4, x5, x6, rfl⟩ := zeb (HF.out r (List.mem_of_getElem? hr))
    obtain ⟨y0, y1, y2, y3, y4, y5, y6, rfl⟩ := zeb (HG.out s (List.mem_of_getElem? hs))
    have cx0 : w.cell? (ad.add (k * 7)) = some (.int .i64 x0) := hcx 0 _ rfl
    have cx1 : w.cell? ⟨(ad.add (k * 7)).block, (ad.add (k * 7)).off + 1, none⟩ = some (.int .i64 x1) := by rw [← zai _ _ _ (by omega)]; exact hcx 1 _ rfl
    have cx2 : w.cell? ⟨(ad.add (k * 7)).block, (ad.add (k * 7)).off + 2, none⟩ = some (.int .i64 x2) := by rw [← zai _ _ _ (by omega)]; exact hcx 2 _ rfl
    have cx3 : w.cell? ⟨(ad.add (k * 7)).block, (ad.add (k * 7)).off + 3, none⟩ = some (.int .i64 x3) := by rw [← zai _ _ _ (by omega)]; exact hcx 3 _ rfl
    have cx4 : w.cell? ⟨(ad.add (k * 7)).block, (ad.add (k * 7)).off + 4, none⟩ = some (.string x4) := by rw [← zai _ _ _ (by omega)]; exact hcx 4 _ rfl
    have cx5 : w.cell? ⟨(ad.add (k * 7)).block, (ad.add (k * 7)).off + 5, none⟩ = some (.bool x5) := by rw [← zai _ _ _ (by omega)]; exact hcx 5 _ rfl
    have cx6 : w.cell? ⟨(ad.add (k * 7)).block, (ad.add (k * 7)).off + 6, none⟩ = some (.string x6) := by rw [← zai _ _ _ (by omega)]; exact hcx 6 _ rfl
    have cy0 : w.cell? (bd.add (k * 7)) = some (.int .i64 y0) := hcy 0 _ rfl
    have cy1 : w.cell? ⟨(bd.add (k * 7)).block, (bd.add (k * 7)).off + 1, none⟩ = some (.int .i64 y1) := by rw [← zai _ _ _ (by omega)]; exact hcy 1 _ rfl
    have cy2 : w.cell? ⟨(bd.add (k * 7)).block, (bd.add (k * 7)).off + 2, none⟩ = some (.int .i64 y2) := by rw [← zai _ _ _ (by omega)]; exact hcy 2 _ rfl
    have cy3 : w.cell? ⟨(bd.add (k * 7)).block, (bd.add (k * 7)).off + 3, none⟩ = some (.int .i64 y3) := by rw [← zai _ _ _ (by omega)]; exact hcy 3 _ rfl
    have cy4 : w.cell? ⟨(bd.add (k * 7)).block, (bd.add (k * 7)).off + 4, none⟩ = some (.string y4) := by rw [← zai _ _ _ (by omega)]; exact hcy 4 _ rfl
    have cy5 : w.cell? ⟨(bd.add (k * 7)).block, (bd.add (k * 7)).off + 5, none⟩ = some (.bool y5) := by rw [← zai _ _ _ (by omega)]; exact hcy 5 _ rfl
    have cy6 : w.cell? ⟨(bd.add (k * 7)).block, (bd.add (k * 7)).off + 6, none⟩ = some (.string y6) := by rw [← zai _ _ _ (by omega)]; exact hcy 6 _ rfl
    have HR := aK hr
    have HS := aK hs
    have HK := aK hk
    clear hcx hcy hr hs hk
    cases hb : (((!(x0 == y0)) || ((!(x1 == y1)))) || ((!(x2 == y2)) || ((!(x3 == y3)) || ((!(x4.toList == y4.toList)) || ((!(x5 == y5)) || ((!(x6.toList == y6.toList))))))))
    ·have HE := aK hb
     go_wp2
     repeat (go_quiet (fail); try go_wp2)
     go_roundg g
     case measure => omega
     case rel =>
      refine ⟨k + 1, by go_num, by have := HK.out; omega, ⟨?_⟩, by repeat (first | exact Drawn0.refl _ | apply Drawn0.step)⟩
      have he := HE.out
      simp only [Bool.or_eq_false_iff, Bool.not_eq_false', beq_iff_eq] at he
      obtain ⟨q0, q1, q2, q3, q4, q5, q6⟩ : x0 = y0 ∧ x1 = y1 ∧ x2 = y2 ∧ x3 = y3 ∧ x4.toList = y4.toList ∧ x5 = y5 ∧ x6.toList = y6.toList := by simpa [and_assoc] using he
      subst q0
      subst q1
      subst q2
      subst q3
      obtain rfl := zbo q4
      subst q5
      obtain rfl := zbo q6
      exact zcg HT.out HR.out HS.out
    ·have HE := aK hb
     go_wp2
     repeat (go_quiet (fail); try go_wp2)
     go_ret
     refine ⟨false, rfl, ⟨(fun h => by cases h), fun h => absurd h (zfp HR.out HS.out (fun e => ?_))⟩, by repeat (first | exact Drawn0.refl _ | apply Drawn0.step)⟩
     have he := HE.out
     simp only [List.cons.injEq, Value.int.injEq, Value.string.injEq, Value.bool.injEq, true_and, and_true] at e
     obtain ⟨rfl, rfl, rfl, rfl, rfl, rfl, rfl⟩ := e
     simp at he
 ·have b0 : ((R.length : Int) == (S.length : Int)) = false := by rw [beq_eq_false_iff_ne]; omega
  have b1 : ((R.length : Int) != (S.length : Int)) = true := by rw [bne_iff_ne]; omega
  have b2 : (R.length == S.length) = false := by simpa using hl
  have HN := aK hl
  clear hl
  go_enter Try.func26, Try.ntmps26
  go_wp2
  go_ret
  exact ⟨false, rfl, ⟨(fun h => by cases h), fun h => absurd (congrArg List.length h) HN.out⟩, Drawn0.refl _⟩
attribute [local go_sem high] zom in
theorem znn (w : World) (A B : Option Addr) (c d : Nat) (R S : List (List Value)) (h1 : ListRd w (.slice A R.length c) 5 R) (h2 : ListRd w (.slice B S.length d) 5 S) (hf : ∀ r, r ∈ R → fits zat r) (hg : ∀ r, r ∈ S → fits zat r) (hn : R.length ≤ 1048576) (hn2 : S.length ≤ 1048576) :
  Calls Try.prog 27 #[.slice A R.length c, .slice B S.length d] w (IsEq (R = S) w) := by
 have hu := Try.underlying68
 have H1 := aK h1
 have H2 := aK h2
 have HF := aK hf
 have HG := aK hg
 clear h1 h2 hf hg
 by_cases hl : R.length = S.length
 ·obtain ⟨n, e1⟩ : ∃ n, R.length = n := ⟨_, rfl⟩
  have e2 : S.length = n := by omega
  rw [e1] at H1 hn hl
  rw [e2] at H2 hn2 hl
  rw [e1, e2]
  have E1 := aK e1
  have E2 := aK e2
  clear e1 e2 hl hn2
  go_enter Try.func27, Try.ntmps27
  go_wp2
  go_loopg [5] n (fun g v w' => ∃ k : Nat, v = .int .i64 (k : Int) ∧ k + g = n ∧ Aside0 (R.take k = S.take k) ∧ Drawn0 w w')
  case atStart => exact ⟨0, rfl, by omega, ⟨rfl⟩, Drawn0.refl _⟩
  case round =>
   obtain ⟨k, rfl, hk, HT, ⟨m1, rfl⟩⟩ := hrel
   cases gk with
   | zero =>
    obtain rfl : k = n := by omega
    go_wp2
    go_ret
    refine ⟨true, rfl, ⟨fun _ => ?_, fun _ => rfl⟩, by repeat (first | exact Drawn0.refl _ | apply Drawn0.step)⟩
    have := HT.out
    rwa [List.take_of_length_le (by rw [E1.out]; omega), List.take_of_length_le (by rw [E2.out]; omega)] at this
   | succ g =>
    have hkn : k < n := by omega
    obtain ⟨ad, r, rfl, hr, hcx⟩ := zby (fs := zat) H1.out E1.out hkn
    obtain ⟨bd, s, rfl, hs, hcy⟩ := zby (fs := zat) H2.out E2.out hkn
    obtain ⟨x0, x1, x2, x3, x4, rfl⟩ := zer (HF.out r (List.mem_of_getElem? hr))
    obtain ⟨y0, y1, y2, y3, y4, rfl⟩ := zer (HG.out s (List.mem_of_getElem? hs))
    have cx0 : w.cell? (ad.add (k * 5)) = some (.string x0) := hcx 0 _ rfl
    have cx1 : w.cell? ⟨(ad.add (k * 5)).block, (ad.add (k * 5)).off + 1, none⟩ = some (.int .i64 x1) := by rw [← zai _ _ _ (by omega)]; exact hcx 1 _ rfl
    have cx2 : w.cell? ⟨(ad.add (k * 5)).block, (ad.add (k * 5)).off + 2, none⟩ = some (.int .i64 x2) := by rw [← zai _ _ _ (by omega)]; exact hcx 2 _ rfl
    have cx3 : w.cell? ⟨(ad.add (k * 5)).block, (ad.add (k * 5)).off + 3, none⟩ = some (.bool x3) := by rw [← zai _ _ _ (by omega)]; exact hcx 3 _ rfl
    have cx4 : w.cell? ⟨(ad.add (k * 5)).block, (ad.add (k * 5)).off + 4, none⟩ = some (.string x4) := by rw [← zai _ _ _ (by omega)]; exact hcx 4 _ rfl
    have cy0 : w.cell? (bd.add (k * 5)) = some (.string y0) := hcy 0 _ rfl
    have cy1 : w.cell? ⟨(bd.add (k * 5)).block, (bd.add (k * 5)).off + 1, none⟩ = some (.int .i64 y1) := by rw [← zai _ _ _ (by omega)]; exact hcy 1 _ rfl
    have cy2 : w.cell? ⟨(bd.add (k * 5)).block, (bd.add (k * 5)).off + 2, none⟩ = some (.int .i64 y2) := by rw [← zai _ _ _ (by omega)]; exact hcy 2 _ rfl
    have cy3 : w.cell? ⟨(bd.add (k * 5)).block, (bd.add (k * 5)).off + 3, none⟩ = some (.bool y3) := by rw [← zai _ _ _ (by omega)]; exact hcy 3 _ rfl
    have cy4 : w.cell? ⟨(bd.add (k * 5)).block, (bd.add (k * 5)).off + 4, none⟩ = some (.string y4) := by rw [← zai _ _ _ (by omega)]; exact hcy 4 _ rfl
    have HR := aK hr
    have HS := aK hs
    have HK := aK hk
    clear hcx hcy hr hs hk
    cases hb : ((!(x0.toList == y0.toList)) || ((((!(x1 == y1)) || ((!(x2 == y2)))) || ((!(x3 == y3)) || ((!(x4.toList == y4.toList)))))))
    ·have HE := aK hb
     go_wp2
     repeat (go_quiet (fail); try go_wp2)
     go_roundg g
     case measure => omega
     case rel =>
      refine ⟨k + 1, by go_num, by have := HK.out; omega, ⟨?_⟩, by repeat (first | exact Drawn0.refl _ | apply Drawn0.step)⟩
      have he := HE.out
      simp only [Bool.or_eq_false_iff, Bool.not_eq_false', beq_iff_eq] at he
      obtain ⟨q0, q1, q2, q3, q4⟩ : x0.toList = y0.toList ∧ x1 = y1 ∧ x2 = y2 ∧ x3 = y3 ∧ x4.toList = y4.toList := by simpa [and_assoc] using he
      obtain rfl := zbo q0
      subst q1
      subst q2
      subst q3
      obtain rfl := zbo q4
      exact zcg HT.out HR.out HS.out
    ·have HE := aK hb
     go_wp2
     repeat (go_quiet (fail); try go_wp2)
     go_ret
     refine ⟨false, rfl, ⟨(fun h => by cases h), fun h => absurd h (zfp HR.out HS.out (fun e => ?_))⟩, by repeat (first | exact Drawn0.refl _ | apply Drawn0.step)⟩
     have he := HE.out
     simp only [List.cons.injEq, Value.int.injEq, Value.string.injEq, Value.bool.injEq, true_and, and_true] at e
     obtain ⟨rfl, rfl, rfl, rfl, rfl⟩ := e
     simp at he
 ·have b0 : ((R.length : Int) == (S.length : Int)) = false := by rw [beq_eq_false_iff_ne]; omega
  have b1 : ((R.length : Int) != (S.length : Int)) = true := by rw [bne_iff_ne]; omega
  have b2 : (R.length == S.length) = false := by simpa using hl
  have HN := aK hl
  clear hl
  go_enter Try.func27, Try.ntmps27
  go_wp2
  go_ret
  exact ⟨false, rfl, ⟨(fun h => by cases h), fun h => absurd (congrArg List.length h) HN.out⟩, Drawn0.refl _⟩
attribute [local go_sem high] zon in
theorem zqf (w : World) (A B : Option Addr) (c d : Nat) (R S : List (List Value)) (h1 : ListRd w (.slice A R.length c) 4 R) (h2 : ListRd w (.slice B S.length d) 4 S) (hf : ∀ r, r ∈ R → fits zau r) (hg : ∀ r, r ∈ S → fits zau r) (hn : R.length ≤ 1048576) (hn2 : S.length ≤ 1048576) :
  Calls Try.prog 28 #[.slice A R.length c, .slice B S.length d] w (IsEq (R = S) w) := by
 have hu := Try.underlying70
 have H1 := aK h1
 have H2 := aK h2
 have HF := aK hf
 have HG := aK hg
 clear h1 h2 hf hg
 by_cases hl : R.length = S.length
 ·obtain ⟨n, e1⟩ : ∃ n, R.length = n := ⟨_, rfl⟩
  have e2 : S.length = n := by omega
  rw [e1] at H1 hn hl
  rw [e2] at H2 hn2 hl
  rw [e1, e2]
  have E1 := aK e1
  have E2 := aK e2
  clear e1 e2 hl hn2
  go_enter Try.func28, Try.ntmps28
  go_wp2
  go_loopg [5] n (fun g v w' => ∃ k : Nat, v = .int .i64 (k : Int) ∧ k + g = n ∧ Aside0 (R.take k = S.take k) ∧ Drawn0 w w')
  case atStart => exact ⟨0, rfl, by omega, ⟨rfl⟩, Drawn0.refl _⟩
  case round =>
   obtain ⟨k, rfl, hk, HT, ⟨m1, rfl⟩⟩ := hrel
   cases gk with
   | zero =>
    obtain rfl : k = n := by omega
    go_wp2
    go_ret
    refine ⟨true, rfl, ⟨fun _ => ?_, fun _ => rfl⟩, by repeat (first | exact Drawn0.refl _ | apply Drawn0.step)⟩
    have := HT.out
    rwa [List.take_of_length_le (by rw [E1.out]; omega), List.take_of_length_le (by rw [E2.out]; omega)] at this
   | succ g =>
    have hkn : k < n := by omega
    obtain ⟨ad, r, rfl, hr, hcx⟩ := zby (fs := zau) H1.out E1.out hkn
    obtain ⟨bd, s, rfl, hs, hcy⟩ := zby (fs := zau) H2.out E2.out hkn
    obtain ⟨x0, x1, x2, x3, rfl⟩ := zes (HF.out r (List.mem_of_getElem? hr))
    obtain ⟨y0, y1, y2, y3, rfl⟩ := zes (HG.out s (List.mem_of_getElem? hs))
    have cx0 : w.cell? (ad.add (k * 4)) = some (.int .i64 x0) := hcx 0 _ rfl
    have cx1 : w.cell? ⟨(ad.add (k * 4)).block, (ad.add (k * 4)).off + 1, none⟩ = some (.int .i64 x1) := by rw [← zai _ _ _ (by omega)]; exact hcx 1 _ rfl
    have cx2 : w.cell? ⟨(ad.add (k * 4)).block, (ad.add (k * 4)).off + 2, none⟩ = some (.int .i64 x2) := by rw [← zai _ _ _ (by omega)]; exact hcx 2 _ rfl
    have cx3 : w.cell? ⟨(ad.add (k * 4)).block, (ad.add (k * 4)).off + 3, none⟩ = some (.int .i64 x3) := by rw [← zai _ _ _ (by omega)]; exact hcx 3 _ rfl
    have cy0 : w.cell? (bd.add (k * 4)) = some (.int .i64 y0) := hcy 0 _ rfl
    have cy1 : w.cell? ⟨(bd.add (k * 4)).block, (bd.add (k * 4)).off + 1, none⟩ = some (.int .i64 y1) := by rw [← zai _ _ _ (by omega)]; exact hcy 1 _ rfl
    have cy2 : w.cell? ⟨(bd.add (k * 4)).block, (bd.add (k * 4)).off + 2, none⟩ = some (.int .i64 y2) := by rw [← zai _ _ _ (by omega)]; exact hcy 2 _ rfl
    have cy3 : w.cell? ⟨(bd.add (k * 4)).block, (bd.add (k * 4)).off + 3, none⟩ = some (.int .i64 y3) := by rw [← zai _ _ _ (by omega)]; exact hcy 3 _ rfl
    have HR := aK hr
    have HS := aK hs
    have HK := aK hk
    clear hcx hcy hr hs hk
    cases hb : ((!(x0 == y0)) || ((!(x1 == y1)) || (((!(x2 == y2)) || ((!(x3 == y3)))))))
    ·have HE := aK hb
     go_wp2
     repeat (go_quiet (fail); try go_wp2)
     go_roundg g
     case measure => omega
     case rel =>
      refine ⟨k + 1, by go_num, by have := HK.out; omega, ⟨?_⟩, by repeat (first | exact Drawn0.refl _ | apply Drawn0.step)⟩
      have he := HE.out
      simp only [Bool.or_eq_false_iff, Bool.not_eq_false', beq_iff_eq] at he
      obtain ⟨q0, q1, q2, q3⟩ : x0 = y0 ∧ x1 = y1 ∧ x2 = y2 ∧ x3 = y3 := by simpa [and_assoc] using he
      subst q0
      subst q1
      subst q2
      subst q3
      exact zcg HT.out HR.out HS.out
    ·have HE := aK hb
     go_wp2
     repeat (go_quiet (fail); try go_wp2)
     go_ret
     refine ⟨false, rfl, ⟨(fun h => by cases h), fun h => absurd h (zfp HR.out HS.out (fun e => ?_))⟩, by repeat (first | exact Drawn0.refl _ | apply Drawn0.step)⟩
     have he := HE.out
     simp only [List.cons.injEq, Value.int.injEq, Value.string.injEq, Value.bool.injEq, true_and, and_true] at e
     obtain ⟨rfl, rfl, rfl, rfl⟩ := e
     simp at he
 ·have b0 : ((R.length : Int) == (S.length : Int)) = false := by rw [beq_eq_false_iff_ne]; omega
  have b1 : ((R.length : Int) != (S.length : Int)) = true := by rw [bne_iff_ne]; omega
  have b2 : (R.length == S.length) = false := by simpa using hl
  have HN := aK hl
  clear hl
  go_enter Try.func28, Try.ntmps28
  go_wp2
  go_ret
  exact ⟨false, rfl, ⟨(fun h => by cases h), fun h => absurd (congrArg List.length h) HN.out⟩, Drawn0.refl _⟩
attribute [local go_sem high] zme in
theorem zno (w : World) (A B : Option Addr) (c d : Nat) (R S : List (List Value)) (h1 : ListRd w (.slice A R.length c) 3 R) (h2 : ListRd w (.slice B S.length d) 3 S) (hf : ∀ r, r ∈ R → fits zaj r) (hg : ∀ r, r ∈ S → fits zaj r) (hn : R.length ≤ 1048576) (hn2 : S.length ≤ 1048576) :
  Calls Try.prog 29 #[.slice A R.length c, .slice B S.length d] w (IsEq (R = S) w) := by
 have hu := Try.underlying72
 have H1 := aK h1
 have H2 := aK h2
 have HF := aK hf
 have HG := aK hg
 clear h1 h2 hf hg
 by_cases hl : R.length = S.length
 ·obtain ⟨n, e1⟩ : ∃ n, R.length = n := ⟨_, rfl⟩
  have e2 : S.length = n := by omega
  rw [e1] at H1 hn hl
  rw [e2] at H2 hn2 hl
  rw [e1, e2]
  have E1 := aK e1
  have E2 := aK e2
  clear e1 e2 hl hn2
  go_enter Try.func29, Try.ntmps29
  go_wp2
  go_loopg [5] n (fun g v w' => ∃ k : Nat, v = .int .i64 (k : Int) ∧ k + g = n ∧ Aside0 (R.take k = S.take k) ∧ Drawn0 w w')
  case atStart => exact ⟨0, rfl, by omega, ⟨rfl⟩, Drawn0.refl _⟩
  case round =>
   obtain ⟨k, rfl, hk, HT, ⟨m1, rfl⟩⟩ := hrel
   cases gk with
   | zero =>
    obtain rfl : k = n := by omega
    go_wp2
    go_ret
    refine ⟨true, rfl, ⟨fun _ => ?_, fun _ => rfl⟩, by repeat (first | exact Drawn0.refl _ | apply Drawn0.step)⟩
    have := HT.out
    rwa [List.take_of_length_le (by rw [E1.out]; omega), List.take_of_length_le (by rw [E2.out]; omega)] at this
   | succ g =>
    have hkn : k < n := by omega
    obtain ⟨ad, r, rfl, hr, hcx⟩ := zby (fs := zaj) H1.out E1.out hkn
    obtain ⟨bd, s, rfl, hs, hcy⟩ := zby (fs := zaj) H2.out E2.out hkn
    obtain ⟨x0, x1, x2, rfl⟩ := zec (HF.out r (List.mem_of_getElem? hr))
    obtain ⟨y0, y1, y2, rfl⟩ := zec (HG.out s (List.mem_of_getElem? hs))
    have cx0 : w.cell? (ad.add (k * 3)) = some (.int .i64 x0) := hcx 0 _ rfl
    have cx1 : w.cell? ⟨(ad.add (k * 3)).block, (ad.add (k * 3)).off + 1, none⟩ = some (.int .i64 x1) := by rw [← zai _ _ _ (by omega)]; exact hcx 1 _ rfl
    have cx2 : w.cell? ⟨(ad.add (k * 3)).block, (ad.add (k * 3)).off + 2, none⟩ = some (.bool x2) := by rw [← zai _ _ _ (by omega)]; exact hcx 2 _ rfl
    have cy0 : w.cell? (bd.add (k * 3)) = some (.int .i64 y0) := hcy 0 _ rfl
    have cy1 : w.cell? ⟨(bd.add (k * 3)).block, (bd.add (k * 3)).off + 1, none⟩ = some (.int .i64 y1) := by rw [← zai _ _ _ (by omega)]; exact hcy 1 _ rfl
    have cy2 : w.cell? ⟨(bd.add (k * 3)).block, (bd.add (k * 3)).off + 2, none⟩ = some (.bool y2) := by rw [← zai _ _ _ (by omega)]; exact hcy 2 _ rfl
    have HR := aK hr
    have HS := aK hs
    have HK := aK hk
    clear hcx hcy hr hs hk
    cases hb : ((!(x0 == y0)) || ((!(x1 == y1)) || ((!(x2 == y2)))))
    ·have HE := aK hb
     go_wp2
     repeat (go_quiet (fail); try go_wp2)
     go_roundg g
     case measure => omega
     case rel =>
      refine ⟨k + 1, by go_num, by have := HK.out; omega, ⟨?_⟩, by repeat (first | exact Drawn0.refl _ | apply Drawn0.step)⟩
      have he := HE.out
      simp only [Bool.or_eq_false_iff, Bool.not_eq_false', beq_iff_eq] at he
      obtain ⟨q0, q1, q2⟩ : x0 = y0 ∧ x1 = y1 ∧ x2 = y2 := by simpa [and_assoc] using he
      subst q0
      subst q1
      subst q2
      exact zcg HT.out HR.out HS.out
    ·have HE := aK hb
     go_wp2
     repeat (go_quiet (fail); try go_wp2)
     go_ret
     refine ⟨false, rfl, ⟨(fun h => by cases h), fun h => absurd h (zfp HR.out HS.out (fun e => ?_))⟩, by repeat (first | exact Drawn0.refl _ | apply Drawn0.step)⟩
     have he := HE.out
     simp only [List.cons.injEq, Value.int.injEq, Value.string.injEq, Value.bool.injEq, true_and, and_true] at e
     obtain ⟨rfl, rfl, rfl⟩ := e
     simp at he
 ·have b0 : ((R.length : Int) == (S.length : Int)) = false := by rw [beq_eq_false_iff_ne]; omega
  have b1 : ((R.length : Int) != (S.length : Int)) = true := by rw [bne_iff_ne]; omega
  have b2 : (R.length == S.length) = false := by simpa using hl
  have HN := aK hl
  clear hl
  go_enter Try.func29, Try.ntmps29
  go_wp2
  go_ret
  exact ⟨false, rfl, ⟨(fun h => by cases h), fun h => absurd (congrArg List.length h) HN.out⟩, Drawn0.refl _⟩
theorem dblk {w w' : World} {g : Nat} {o : Obj} (h : Drawn0 w w') (hb : w.heap[g]? = some o) : w'.heap[g]? = some o := by
 obtain ⟨n, rfl⟩ := h.out
 exact hb
def Has (a : Act) (i : Nat) (v : Value) : Prop := a.tmps[i]? = some v
theorem Has.eval {a : Act} {i : Nat} {v : Value} (h : Has a i v) : a.eval (.tmp i) = v := by
 unfold Has at h
 have hl := (Array.getElem?_eq_some_iff.1 h).1
 show a.tmps.getD i undef = v
 rw [Array.getD_eq_getD_getElem?, h]; rfl
theorem Has.same {a : Act} {i : Nat} {v : Value} (h : i < a.tmps.size) : Has (a.put (some i) v) i v := by
 unfold Has
 show (a.tmps.setIfInBounds i v)[i]? = some v
 rw [Array.getElem?_setIfInBounds_self_of_lt h]
theorem Has.far {a : Act} {i d : Nat} {v u : Value} (h : Has a i v) (hn : d ≠ i) : Has (a.put (some d) u) i v := by
 unfold Has at h ⊢
 show (a.tmps.setIfInBounds d u)[i]? = some v
 rw [Array.getElem?_setIfInBounds_ne hn, h]
theorem zkt (a : Act) (d : Option Nat) (u : Value) : (a.put d u).tmps.size = a.tmps.size := by
 cases d with
 | none => rfl
 | some d => show (a.tmps.setIfInBounds d u).size = _; simp
theorem zfz (a : Act) (d : Option Nat) (u : Value) : (a.put d u).defers = a.defers := by cases d <;> rfl
theorem zqg {P : Program} {W : World} {o : Oper} {ρ : Operand → Value} {x : Operand} {v : Value} (ho : o.op = .assign x) (h : ρ x = v) : (execOp ρ o).run P W = .ok (.value v) W := by
 unfold execOp
 simp only [ho, h]
 rfl
theorem znp {fn : Func} {t : Tmp} {a : Act} {v : Value} {P : Program} {w : World} (hf : fn.results = #[.tmp t]) (h : Has a t v) : (results fn a.tmps).run P w = .ok v w := by
 rw [results_tmp hf]
 have : a.tmps.getD t undef = v := h.eval
 rw [this]
structure Fr (n lo : Nat) (a a' : Act) : Prop where
 size : a'.tmps.size = n
 old : ∀ i v, i < lo → Has a i v → Has a' i v
 defers : a'.defers = a.defers
theorem Fr.refl {n lo : Nat} {a : Act} (h : a.tmps.size = n) : Fr n lo a a := ⟨h, fun _ _ _ h => h, rfl⟩
theorem Fr.put {n lo : Nat} {a a' : Act} (h : Fr n lo a a') {d : Nat} (hd : lo ≤ d) (v : Value) : Fr n lo a (a'.put (some d) v) :=
 ⟨(zkt _ _ _).trans h.size, fun i u hi hu => (h.old i u hi hu).far (by omega), (zfz _ _ _).trans h.defers⟩
section
variable {P : Program} {ops : Array Oper} {rest : List Oper} {Q : Exit → Act → World → Prop} {W : World} {a : Act} {o : Oper}
theorem zcs {v : Value} {w1 : World} (hg : o.guard = none) (hrun : (execOp a.eval o).run P W = .ok (.value v) w1) (h : wpList P ops Q rest (a.put o.dst v) w1) : wpList P ops Q (o :: rest) a W := Kd.event_run hg hrun h
theorem zfd {v : Value} {w1 : World} {j m : Nat} {b : Bool} (hg : o.guard = some (j, b)) (hj : (ops[j]?.bind (·.dst)) = some m) (hm : Has a m (.bool b)) (hrun : (execOp a.eval o).run P W = .ok (.value v) w1) (h : wpList P ops Q rest (a.put o.dst v) w1) : wpList P ops Q (o :: rest) a W := by
 refine zbi ?_ (zcs rfl ?_ h)
 ·unfold Region.wanted yielded
  rw [hg]
  simp only [hj, Option.bind_some]
  rw [hm]
  simp
 ·exact hrun
theorem zdp {j m : Nat} {b : Bool} (hg : o.guard = some (j, b)) (hj : (ops[j]?.bind (·.dst)) = some m) (hm : Has a m (.bool (!b))) (h : wpList P ops Q rest (a.put o.dst undef) W) : wpList P ops Q (o :: rest) a W := by
 refine zpw ?_ h
 unfold Region.wanted yielded
 rw [hg]
 simp only [hj, Option.bind_some]
 rw [hm]
 cases b <;> rfl
variable {n d p j : Nat} {b r e : Bool} {o1 o2 o3 o4 o5 o6 o7 : Oper} {A1 A2 v1 v2 : Value}
theorem zbz (hd : d + 6 < n) (hn : a.tmps.size = n) (hp : Has a p (.bool r)) {P1 P2 : Value} (h2 : Has a 2 P1) (h3 : Has a 3 P2) (hp2 : 3 < d) (hpd : p < d)
  (q1 : o1.op = .move (.tmp p) ∧ o1.dst = some d ∧ o1.guard = none) (q2 : o2.dst = some (d + 1) ∧ o2.guard = some (j, b)) (q3 : o3.dst = some (d + 2) ∧ o3.guard = some (j, b)) (q4 : o4.dst = some (d + 3) ∧ o4.guard = some (j, b)) (q5 : o5.dst = some (d + 4) ∧ o5.guard = some (j, b)) (q6 : o6.dst = some (d + 5) ∧ o6.guard = some (j, b)) (q7 : o7.dst = some (d + 6) ∧ o7.guard = none) (hj : (ops[j]?.bind (·.dst)) = some d)
  (x2 : ∀ ρ : Operand → Value, ρ (.tmp 2) = P1 → (execOp ρ o2).run P W = .ok (.value A1) W) (x3 : ∀ ρ : Operand → Value, ρ (.tmp (d + 1)) = A1 → (execOp ρ o3).run P W = .ok (.value v1) W)
  (x4 : ∀ ρ : Operand → Value, ρ (.tmp 3) = P2 → (execOp ρ o4).run P W = .ok (.value A2) W) (x5 : ∀ ρ : Operand → Value, ρ (.tmp (d + 3)) = A2 → (execOp ρ o5).run P W = .ok (.value v2) W)
  (x6 : ∀ ρ : Operand → Value, ρ (.tmp (d + 2)) = v1 → ρ (.tmp (d + 4)) = v2 → (execOp ρ o6).run P W = .ok (.value (.bool e)) W)
  (x7 : ∀ ρ : Operand → Value, (∀ v, ρ (.const v) = v) → (ρ (.tmp d) = .bool b → ρ (.tmp (d + 5)) = .bool e → (execOp ρ o7).run P W = .ok (.value (.bool e)) W) ∧ (ρ (.tmp d) = .bool (!b) → (execOp ρ o7).run P W = .ok (.value (.bool (!b))) W))
  (h : ∀ a' r', Fr n d a a' → Has a' (d + 6) (.bool r') → (r' = b ↔ r = b ∧ e = b) → wpList P ops Q rest a' W) : wpList P ops Q (o1 :: o2 :: o3 :: o4 :: o5 :: o6 :: o7 :: rest) a W := by
 refine zcs q1.2.2 (v := .bool r) (w1 := W) ?_ ?_
 ·unfold execOp; simp only [q1.1, hp.eval]; rfl
 rw [q1.2.1]
 have f1 : Fr n d a (a.put (some d) (.bool r)) := (Fr.refl hn).put (Nat.le_refl _) _
 have m1 : Has (a.put (some d) (.bool r)) d (.bool r) := Has.same (by omega)
 generalize a.put (some d) (.bool r) = a1 at *
 by_cases hr : r = b
 ·subst hr
  refine zfd q2.2 hj m1 (x2 _ (f1.old 2 _ (by omega) h2).eval) ?_
  rw [q2.1]
  have f2 := f1.put (d := d + 1) (by omega) A1
  have m2 : Has (a1.put (some (d + 1)) A1) (d + 1) A1 := Has.same (by rw [f1.size]; omega)
  have g2 : Has (a1.put (some (d + 1)) A1) d (.bool r) := m1.far (by omega)
  generalize a1.put (some (d + 1)) A1 = a2 at *
  refine zfd q3.2 hj g2 (x3 _ m2.eval) ?_
  rw [q3.1]
  have f3 := f2.put (d := d + 2) (by omega) v1
  have m3 : Has (a2.put (some (d + 2)) v1) (d + 2) v1 := Has.same (by rw [f2.size]; omega)
  have g3 : Has (a2.put (some (d + 2)) v1) d (.bool r) := g2.far (by omega)
  generalize a2.put (some (d + 2)) v1 = a3 at *
  refine zfd q4.2 hj g3 (x4 _ (f3.old 3 _ (by omega) h3).eval) ?_
  rw [q4.1]
  have f4 := f3.put (d := d + 3) (by omega) A2
  have m4 : Has (a3.put (some (d + 3)) A2) (d + 3) A2 := Has.same (by rw [f3.size]; omega)
  have g4 : Has (a3.put (some (d + 3)) A2) d (.bool r) := g3.far (by omega)
  have k4 : Has (a3.put (some (d + 3)) A2) (d + 2) v1 := m3.far (by omega)
  generalize a3.put (some (d + 3)) A2 = a4 at *
  refine zfd q5.2 hj g4 (x5 _ m4.eval) ?_
  rw [q5.1]
  have f5 := f4.put (d := d + 4) (by omega) v2
  have m5 : Has (a4.put (some (d + 4)) v2) (d + 4) v2 := Has.same (by rw [f4.size]; omega)
  have g5 : Has (a4.put (some (d + 4)) v2) d (.bool r) := g4.far (by omega)
  have k5 : Has (a4.put (some (d + 4)) v2) (d + 2) v1 := k4.far (by omega)
  generalize a4.put (some (d + 4)) v2 = a5 at *
  refine zfd q6.2 hj g5 (x6 _ k5.eval m5.eval) ?_
  rw [q6.1]
  have f6 := f5.put (d := d + 5) (by omega) (.bool e)
  have m6 : Has (a5.put (some (d + 5)) (.bool e)) (d + 5) (.bool e) := Has.same (by rw [f5.size]; omega)
  have g6 : Has (a5.put (some (d + 5)) (.bool e)) d (.bool r) := g5.far (by omega)
  generalize a5.put (some (d + 5)) (.bool e) = a6 at *
  refine zcs q7.2 ((x7 _ (fun _ => rfl)).1 g6.eval m6.eval) ?_
  rw [q7.1]
  exact h _ e (f6.put (by omega) _) (Has.same (by rw [f6.size]; omega)) (by simp)
 ·have hrb : r = !b := by cases r <;> cases b <;> simp_all
  subst hrb
  refine zdp q2.2 hj m1 ?_
  rw [q2.1]
  have f2 := f1.put (d := d + 1) (by omega) undef
  have g2 : Has (a1.put (some (d + 1)) undef) d (.bool (!b)) := m1.far (by omega)
  generalize a1.put (some (d + 1)) undef = a2 at *
  refine zdp q3.2 hj g2 ?_
  rw [q3.1]
  have f3 := f2.put (d := d + 2) (by omega) undef
  have g3 : Has (a2.put (some (d + 2)) undef) d (.bool (!b)) := g2.far (by omega)
  generalize a2.put (some (d + 2)) undef = a3 at *
  refine zdp q4.2 hj g3 ?_
  rw [q4.1]
  have f4 := f3.put (d := d + 3) (by omega) undef
  have g4 : Has (a3.put (some (d + 3)) undef) d (.bool (!b)) := g3.far (by omega)
  generalize a3.put (some (d + 3)) undef = a4 at *
  refine zdp q5.2 hj g4 ?_
  rw [q5.1]
  have f5 := f4.put (d := d + 4) (by omega) undef
  have g5 : Has (a4.put (some (d + 4)) undef) d (.bool (!b)) := g4.far (by omega)
  generalize a4.put (some (d + 4)) undef = a5 at *
  refine zdp q6.2 hj g5 ?_
  rw [q6.1]
  have f6 := f5.put (d := d + 5) (by omega) undef
  have g6 : Has (a5.put (some (d + 5)) undef) d (.bool (!b)) := g5.far (by omega)
  generalize a5.put (some (d + 5)) undef = a6 at *
  refine zcs q7.2 ((x7 _ (fun _ => rfl)).2 g6.eval) ?_
  rw [q7.1]
  exact h _ (!b) (f6.put (by omega) _) (Has.same (by rw [f6.size]; omega)) (by simp)
theorem zso (hd : d + 4 < n) (hn : a.tmps.size = n) {P1 P2 : Value} (h2 : Has a 2 P1) (h3 : Has a 3 P2) (hp2 : 3 < d)
  (q2 : o2.dst = some d ∧ o2.guard = none) (q3 : o3.dst = some (d + 1) ∧ o3.guard = none) (q4 : o4.dst = some (d + 2) ∧ o4.guard = none) (q5 : o5.dst = some (d + 3) ∧ o5.guard = none) (q6 : o6.dst = some (d + 4) ∧ o6.guard = none)
  (x2 : ∀ ρ : Operand → Value, ρ (.tmp 2) = P1 → (execOp ρ o2).run P W = .ok (.value A1) W) (x3 : ∀ ρ : Operand → Value, ρ (.tmp d) = A1 → (execOp ρ o3).run P W = .ok (.value v1) W)
  (x4 : ∀ ρ : Operand → Value, ρ (.tmp 3) = P2 → (execOp ρ o4).run P W = .ok (.value A2) W) (x5 : ∀ ρ : Operand → Value, ρ (.tmp (d + 2)) = A2 → (execOp ρ o5).run P W = .ok (.value v2) W)
  (x6 : ∀ ρ : Operand → Value, ρ (.tmp (d + 1)) = v1 → ρ (.tmp (d + 3)) = v2 → (execOp ρ o6).run P W = .ok (.value (.bool e)) W)
  (h : ∀ a', Fr n d a a' → Has a' (d + 4) (.bool e) → wpList P ops Q rest a' W) : wpList P ops Q (o2 :: o3 :: o4 :: o5 :: o6 :: rest) a W := by
 have f1 : Fr n d a a := Fr.refl hn
 refine zcs q2.2 (x2 _ h2.eval) ?_
 rw [q2.1]
 have f2 := f1.put (d := d) (by omega) A1
 have m2 : Has (a.put (some d) A1) d A1 := Has.same (by omega)
 generalize a.put (some d) A1 = a2 at *
 refine zcs q3.2 (x3 _ m2.eval) ?_
 rw [q3.1]
 have f3 := f2.put (d := d + 1) (by omega) v1
 have m3 : Has (a2.put (some (d + 1)) v1) (d + 1) v1 := Has.same (by rw [f2.size]; omega)
 generalize a2.put (some (d + 1)) v1 = a3 at *
 refine zcs q4.2 (x4 _ (f3.old 3 _ (by omega) h3).eval) ?_
 rw [q4.1]
 have f4 := f3.put (d := d + 2) (by omega) A2
 have m4 : Has (a3.put (some (d + 2)) A2) (d + 2) A2 := Has.same (by rw [f3.size]; omega)
 have k4 : Has (a3.put (some (d + 2)) A2) (d + 1) v1 := m3.far (by omega)
 generalize a3.put (some (d + 2)) A2 = a4 at *
 refine zcs q5.2 (x5 _ m4.eval) ?_
 rw [q5.1]
 have f5 := f4.put (d := d + 3) (by omega) v2
 have m5 : Has (a4.put (some (d + 3)) v2) (d + 3) v2 := Has.same (by rw [f4.size]; omega)
 have k5 : Has (a4.put (some (d + 3)) v2) (d + 1) v1 := k4.far (by omega)
 generalize a4.put (some (d + 3)) v2 = a5 at *
 refine zcs q6.2 (x6 _ k5.eval m5.eval) ?_
 rw [q6.1]
 exact h _ (f5.put (by omega) _) (Has.same (by rw [f5.size]; omega))
theorem zga {f : FuncId} {fn : Func} {ts : Array TypeId} {p' : Prop} (hf : P.funcs[f]? = some fn) (hname : (fn.name == "runtime.NumGoroutine") = false) (hb : fn.body.isSome = true) (hd : d + 6 < n) (hn : a.tmps.size = n) (hp : Has a p (.bool r)) {P1 P2 : Value} (h2 : Has a 2 P1) (h3 : Has a 3 P2) (hp2 : 3 < d) (hpd : p < d)
  (q1 : o1.op = .move (.tmp p) ∧ o1.dst = some d ∧ o1.guard = none) (q2 : o2.dst = some (d + 1) ∧ o2.guard = some (j, true)) (q3 : o3.dst = some (d + 2) ∧ o3.guard = some (j, true)) (q4 : o4.dst = some (d + 3) ∧ o4.guard = some (j, true)) (q5 : o5.dst = some (d + 4) ∧ o5.guard = some (j, true)) (q6 : o6.dst = some (d + 5) ∧ o6.guard = some (j, true)) (q7 : o7.dst = some (d + 6) ∧ o7.guard = none) (hj : (ops[j]?.bind (·.dst)) = some d)
  (x2 : ∀ ρ : Operand → Value, ρ (.tmp 2) = P1 → (execOp ρ o2).run P W = .ok (.value A1) W) (x3 : ∀ ρ : Operand → Value, ρ (.tmp (d + 1)) = A1 → (execOp ρ o3).run P W = .ok (.value v1) W)
  (x4 : ∀ ρ : Operand → Value, ρ (.tmp 3) = P2 → (execOp ρ o4).run P W = .ok (.value A2) W) (x5 : ∀ ρ : Operand → Value, ρ (.tmp (d + 3)) = A2 → (execOp ρ o5).run P W = .ok (.value v2) W)
  (x6 : o6.op = .call { callee := .value (.func f), args := #[.tmp (d + 2), .tmp (d + 4)], argTypes := ts }) (hC : Calls P f #[v1, v2] W (IsEq p' W))
  (x7 : ∀ (ρ : Operand → Value) (e : Bool) (W : World), (∀ v, ρ (.const v) = v) → (ρ (.tmp d) = .bool true → ρ (.tmp (d + 5)) = .bool e → (execOp ρ o7).run P W = .ok (.value (.bool e)) W) ∧ (ρ (.tmp d) = .bool false → (execOp ρ o7).run P W = .ok (.value (.bool false)) W))
  (h : ∀ a' r' W', Fr n d a a' → Has a' (d + 6) (.bool r') → (r' = true ↔ r = true ∧ p') → Drawn0 W W' → wpList P ops Q rest a' W') : wpList P ops Q (o1 :: o2 :: o3 :: o4 :: o5 :: o6 :: o7 :: rest) a W := by
 refine zcs q1.2.2 (v := .bool r) (w1 := W) ?_ ?_
 ·unfold execOp; simp only [q1.1, hp.eval]; rfl
 rw [q1.2.1]
 have f1 : Fr n d a (a.put (some d) (.bool r)) := (Fr.refl hn).put (Nat.le_refl _) _
 have m1 : Has (a.put (some d) (.bool r)) d (.bool r) := Has.same (by omega)
 generalize a.put (some d) (.bool r) = a1 at *
 cases r
 ·refine zdp q2.2 hj m1 ?_
  rw [q2.1]
  have f2 := f1.put (d := d + 1) (by omega) undef
  have g2 : Has (a1.put (some (d + 1)) undef) d (.bool false) := m1.far (by omega)
  generalize a1.put (some (d + 1)) undef = a2 at *
  refine zdp q3.2 hj g2 ?_
  rw [q3.1]
  have f3 := f2.put (d := d + 2) (by omega) undef
  have g3 : Has (a2.put (some (d + 2)) undef) d (.bool false) := g2.far (by omega)
  generalize a2.put (some (d + 2)) undef = a3 at *
  refine zdp q4.2 hj g3 ?_
  rw [q4.1]
  have f4 := f3.put (d := d + 3) (by omega) undef
  have g4 : Has (a3.put (some (d + 3)) undef) d (.bool false) := g3.far (by omega)
  generalize a3.put (some (d + 3)) undef = a4 at *
  refine zdp q5.2 hj g4 ?_
  rw [q5.1]
  have f5 := f4.put (d := d + 4) (by omega) undef
  have g5 : Has (a4.put (some (d + 4)) undef) d (.bool false) := g4.far (by omega)
  generalize a4.put (some (d + 4)) undef = a5 at *
  refine zdp q6.2 hj g5 ?_
  rw [q6.1]
  have f6 := f5.put (d := d + 5) (by omega) undef
  have g6 : Has (a5.put (some (d + 5)) undef) d (.bool false) := g5.far (by omega)
  generalize a5.put (some (d + 5)) undef = a6 at *
  refine zcs q7.2 ((x7 _ false W (fun _ => rfl)).2 g6.eval) ?_
  rw [q7.1]
  exact h _ false W (f6.put (by omega) _) (Has.same (by rw [f6.size]; omega)) (by simp) (Drawn0.refl _)
 ·refine zfd q2.2 hj m1 (x2 _ (f1.old 2 _ (by omega) h2).eval) ?_
  rw [q2.1]
  have f2 := f1.put (d := d + 1) (by omega) A1
  have m2 : Has (a1.put (some (d + 1)) A1) (d + 1) A1 := Has.same (by rw [f1.size]; omega)
  have g2 : Has (a1.put (some (d + 1)) A1) d (.bool true) := m1.far (by omega)
  generalize a1.put (some (d + 1)) A1 = a2 at *
  refine zfd q3.2 hj g2 (x3 _ m2.eval) ?_
  rw [q3.1]
  have f3 := f2.put (d := d + 2) (by omega) v1
  have m3 : Has (a2.put (some (d + 2)) v1) (d + 2) v1 := Has.same (by rw [f2.size]; omega)
  have g3 : Has (a2.put (some (d + 2)) v1) d (.bool true) := g2.far (by omega)
  generalize a2.put (some (d + 2)) v1 = a3 at *
  refine zfd q4.2 hj g3 (x4 _ (f3.old 3 _ (by omega) h3).eval) ?_
  rw [q4.1]
  have f4 := f3.put (d := d + 3) (by omega) A2
  have m4 : Has (a3.put (some (d + 3)) A2) (d + 3) A2 := Has.same (by rw [f3.size]; omega)
  have g4 : Has (a3.put (some (d + 3)) A2) d (.bool true) := g3.far (by omega)
  have k4 : Has (a3.put (some (d + 3)) A2) (d + 2) v1 := m3.far (by omega)
  generalize a3.put (some (d + 3)) A2 = a4 at *
  refine zfd q5.2 hj g4 (x5 _ m4.eval) ?_
  rw [q5.1]
  have f5 := f4.put (d := d + 4) (by omega) v2
  have m5 : Has (a4.put (some (d + 4)) v2) (d + 4) v2 := Has.same (by rw [f4.size]; omega)
  have g5 : Has (a4.put (some (d + 4)) v2) d (.bool true) := g4.far (by omega)
  have k5 : Has (a4.put (some (d + 4)) v2) (d + 2) v1 := k4.far (by omega)
  generalize a4.put (some (d + 4)) v2 = a5 at *
  refine zbi ?_ ?_
  ·unfold Region.wanted yielded
   rw [q6.2]
   simp only [hj, Option.bind_some]
   rw [show a5.tmps[d]? = _ from g5]
   rfl
  refine zco (some (d + 5)) q6.1 rfl hf hname hb #[v1, v2] x6 (by simp [k5.eval, m5.eval]) (hC.mono ?_)
  rintro e w' ⟨r', rfl, hr', hD⟩
  refine ⟨_, rfl, ?_⟩
  have f6 := f5.put (d := d + 5) (by omega) (.bool r')
  have m6 : Has (a5.put (some (d + 5)) (.bool r')) (d + 5) (.bool r') := Has.same (by rw [f5.size]; omega)
  have g6 : Has (a5.put (some (d + 5)) (.bool r')) d (.bool true) := g5.far (by omega)
  generalize a5.put (some (d + 5)) (.bool r') = a6 at *
  refine zcs q7.2 ((x7 _ r' w' (fun _ => rfl)).1 g6.eval m6.eval) ?_
  rw [q7.1]
  exact h _ r' w' (f6.put (by omega) _) (Has.same (by rw [f6.size]; omega)) (by simp [hr']) hD
end
end Go.Proofs.Ytcbehfbfaonanaa.Wr
end
section
namespace Go.Proofs.Ytcbehfbfaonanaa.PFr
open Go.RowKit Go.Proofs.YtcbehfbfaonanaaW.PrintWords Go.Proofs.YtcbehfbfaonanaaW.PrintLast Go.Proofs.YtcbehfbfaonanaaW.PrintMore
attribute [local go_sem] zgo zgp zin zio zfm zfn zgq zgr
set_option linter.unusedVariables false
set_option linter.unusedSimpArgs false
def errW : Option Int → Value
 | none => .nilIface
 | some c => .iface 0 (.int .i64 c)
theorem errW_none : errW none = .nilIface := rfl
theorem errW_some (c : Int) : errW (some c) = .iface 0 (.int .i64 c) := rfl
theorem info5 : (Try.prog.info? 5).map (fun i => (i.zero, i.size, i.bytes)) = some (some (.int .u8 0), 1, 1) := by kernel_rfl
theorem info98 : (Try.prog.info? 98).map (fun i => (i.zero, i.size, i.bytes)) = some (some (.agg #[(.int .i64 0), (.int .i64 0), (.string ⟨#[]⟩)]), 3, 32) := by kernel_rfl
structure S24 where
 f0 : Int
 f1 : Int
def z24 : S24 := ⟨(0 : Int), (0 : Int)⟩
def k24 : Kd S24 := Kd.iso (Kd.pair (Kd.int .i64) (Kd.int .i64)) (fun x : S24 => (x.f0, x.f1))
theorem k24_open {w : World} {x : S24} {cs : List Value} (h : k24.K w x cs) : cs = [.int .i64 x.f0, .int .i64 x.f1] := by
 obtain ⟨_, _, rfl, rfl, rfl⟩ := h
 exact rfl
theorem k24_mkM (w : World) (base : Nat) (ok : Nat → Prop) (x : S24)  : k24.M w base ok x [.int .i64 x.f0, .int .i64 x.f1] := ⟨[.int .i64 x.f0], [.int .i64 x.f1], rfl, rfl, rfl⟩
def rd_T24 (xs : List S24) (i : Int) : S24 := xs.getD i.toNat z24
theorem at_T24 {w : World} {A : Option Addr} {n : Nat} {xs : List S24} (h : Kd.C k24 w A n xs) (i : Int) (h0 : 0 ≤ i) (h1 : i < n) : ∃ ad , A = some ad ∧ w.cell? (ad.add (i.toNat * 2)) = some (.int .i64 (rd_T24 xs i).f0) ∧ w.cell? ⟨(ad.add (i.toNat * 2)).block, (ad.add (i.toNat * 2)).off + 1, none⟩ = some (.int .i64 (rd_T24 xs i).f1) := by
 obtain ⟨ad, c, e, _, hK, hc0⟩ := Kd.C_get h z24 i h0 h1
 have hc : ∀ j u, c[j]? = some u → w.cell? (ad.add (i.toNat * 2 + j)) = some u := hc0
 obtain rfl := k24_open hK
 exact ⟨ad, e, hc 0 _ rfl, by rw [← zai _ _ 1 (by omega)]; exact hc 1 _ rfl⟩
def zfj (xs : List (List Int)) (i : Int) : (List Int) := xs.getD i.toNat ([] : List Int)
theorem at_L10 {w : World} {A : Option Addr} {n : Nat} {xs : List (List Int)} (h : Kd.C (Kd.slice 5 (Kd.int .u8)) w A n xs) (i : Int) (h0 : 0 ≤ i) (h1 : i < n) : ∃ ad A0 c0, A = some ad ∧ w.cell? (ad.add i.toNat) = some (.slice A0 (zfj xs i).length c0) ∧ (zfj xs i).length ≤ c0 ∧ (Kd.int .u8).C w A0 (zfj xs i).length (zfj xs i) := by
 obtain ⟨ad, c, e, _, hK, hc0⟩ := Kd.C_get h ([] : List Int) i h0 h1
 have hc : ∀ j u, c[j]? = some u → w.cell? (ad.add (i.toNat * 1 + j)) = some u := hc0
 obtain ⟨A0, c0, rfl, l0, g0⟩ := hK
 exact ⟨ad, A0, c0, e, by have hq := hc 0 _ rfl; rwa [Nat.mul_one, Nat.add_zero] at hq, l0, g0⟩
structure S98 where
 f0 : Int
 f1 : Int
 f2 : ByteArray
def z98 : S98 := ⟨(0 : Int), (0 : Int), (⟨#[]⟩ : ByteArray)⟩
def k98 : Kd S98 := Kd.iso (Kd.pair (Kd.int .i64) (Kd.pair (Kd.int .i64) Kd.string)) (fun x : S98 => (x.f0, x.f1, x.f2))
theorem k98_open {w : World} {x : S98} {cs : List Value} (h : k98.K w x cs) : cs = [.int .i64 x.f0, .int .i64 x.f1, .string x.f2] := by
 obtain ⟨_, _, rfl, rfl, ⟨_, _, rfl, rfl, rfl⟩⟩ := h
 exact rfl
theorem k98_mkM (w : World) (base : Nat) (ok : Nat → Prop) (x : S98)  : k98.M w base ok x [.int .i64 x.f0, .int .i64 x.f1, .string x.f2] := ⟨[.int .i64 x.f0], [.int .i64 x.f1, .string x.f2], rfl, rfl, ⟨[.int .i64 x.f1], [.string x.f2], rfl, rfl, rfl⟩⟩
def rd_T98 (xs : List S98) (i : Int) : S98 := xs.getD i.toNat z98
theorem at_T98 {w : World} {A : Option Addr} {n : Nat} {xs : List S98} (h : Kd.C k98 w A n xs) (i : Int) (h0 : 0 ≤ i) (h1 : i < n) : ∃ ad , A = some ad ∧ w.cell? (ad.add (i.toNat * 3)) = some (.int .i64 (rd_T98 xs i).f0) ∧ w.cell? ⟨(ad.add (i.toNat * 3)).block, (ad.add (i.toNat * 3)).off + 1, none⟩ = some (.int .i64 (rd_T98 xs i).f1) ∧ w.cell? ⟨(ad.add (i.toNat * 3)).block, (ad.add (i.toNat * 3)).off + 2, none⟩ = some (.string (rd_T98 xs i).f2) := by
 obtain ⟨ad, c, e, _, hK, hc0⟩ := Kd.C_get h z98 i h0 h1
 have hc : ∀ j u, c[j]? = some u → w.cell? (ad.add (i.toNat * 3 + j)) = some u := hc0
 obtain rfl := k98_open hK
 exact ⟨ad, e, hc 0 _ rfl, by rw [← zai _ _ 1 (by omega)]; exact hc 1 _ rfl, by rw [← zai _ _ 2 (by omega)]; exact hc 2 _ rfl⟩
end Go.Proofs.Ytcbehfbfaonanaa.PFr
end
