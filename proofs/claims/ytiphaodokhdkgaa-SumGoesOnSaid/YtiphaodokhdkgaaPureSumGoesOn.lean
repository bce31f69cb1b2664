/- The sum of a text in two pieces is the sum of the whole, wherever it is cut. No conditions beyond what the row itself says. -/
import Derived.Test.YtiphaodokhdkgaaPSumx3
import Derived.Test.YtiphaodokhdkgaaSumA
namespace Go.Proofs.Ytiphaodokhdkgaa.Pure
open Go.RowKit Go.Proofs.Ytiphaodokhdkgaa.PSum Go.Proofs.YtiphaodokhdkgaaW.PrintWords Go.Proofs.YtiphaodokhdkgaaW.PrintLast
set_option linter.unusedVariables false

theorem SumGoesOn : meridianlaw01_SumGoesOn.Pure := by
  intro l at_ _ hl hb hs
  have hb := isB_of hb
  have hl' : l.length ≤ 1000000000000000000 := by omega
  apply Ev.rounds
  unfold meridianlaw01_SumGoesOn.f
  refine bind_awake ?_
  have yes : Ev (fun k => meridianlaw01_SumGoesOn.j0 k l at_ true) true := Ev.step (f := fun _ => some true) (fun k => by simp only [meridianlaw01_SumGoesOn.j0]; rfl) (Ev.now _)
  by_cases h1 : at_ < 0
  · exact Ev.congr (fun k => if_pos h1) yes
  refine Ev.congr (fun k => if_neg h1) ?_
  by_cases h2 : at_ > (l.length : Int)
  · exact Ev.congr (fun k => if_pos h2) yes
  refine Ev.congr (fun k => if_neg h2) ?_
  by_cases h3 : (l.length : Int) > 100000
  · rw [decide_eq_true h3]; exact yes
  rw [decide_eq_false h3]
  refine Ev.step (fun k => by simp only [meridianlaw01_SumGoesOn.j0]; rw [if_neg (by decide), if_pos (by omega), if_pos (by omega)]) ?_
  refine Ev.bind (of_f (l.take at_.toNat) (fun x hx => hb x (List.mem_of_mem_take hx)) (by rw [List.length_take]; omega)) ?_
  refine Ev.bind (more_f (l.drop at_.toNat) (fun x hx => hb x (List.mem_of_mem_drop hx)) (by rw [List.length_drop]; omega) _) ?_
  refine Ev.bind (of_f l hb hl') ?_
  rw [BitVec.not_not, ← reg_append, List.take_append_drop]
  simp only [beq_self_eq_true]
  exact Ev.now _
end Go.Proofs.Ytiphaodokhdkgaa.Pure
