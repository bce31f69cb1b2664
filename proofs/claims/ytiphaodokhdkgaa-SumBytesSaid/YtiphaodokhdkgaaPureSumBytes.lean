/- Any text has the sum and the hash that the document says, and any sum goes on as it says. No conditions beyond what the row itself says. -/
import Derived.Test.YtiphaodokhdkgaaPSumx2
import Derived.Test.YtiphaodokhdkgaaSumB
namespace Go.Proofs.Ytiphaodokhdkgaa.Pure
open Go.RowKit Go.Proofs.Ytiphaodokhdkgaa.PSum Go.Proofs.YtiphaodokhdkgaaW.PrintWords Go.Proofs.YtiphaodokhdkgaaW.PrintLast
set_option linter.unusedVariables false

theorem SumBytes : meridianlaw01_SumBytes.Pure := by
  intro l s _ hl hb hs
  have hb := isB_of hb
  have hl' : l.length ≤ 1000000000000000000 := by omega
  have hs' : 0 ≤ s ∧ s < 4294967296 := by
    simp [Lit.wf, IntKind.min, IntKind.max, IntKind.signed, IntKind.bits] at hs
    omega
  obtain ⟨r, rfl⟩ := V_of hs'.1 hs'.2
  apply Ev.rounds
  unfold meridianlaw01_SumBytes.f
  refine bind_awake ?_
  by_cases h : (l.length : Int) > 100000
  · exact Ev.congr (fun k => if_pos h) (Ev.now _)
  refine Ev.congr (fun k => if_neg h) ?_
  refine Ev.bind (of_f l hb hl') (Ev.bind (rof_f l hb hl') ?_)
  refine Ev.congr (fun k => if_pos rfl) ?_
  refine Ev.bind (more_f l hb hl' r) (Ev.bind (rmore_f l hb hl' r) ?_)
  refine Ev.congr (fun k => if_pos rfl) ?_
  obtain ⟨x, p, q⟩ := hash_both (strOfNums l) (by rw [show (strOfNums l).size = l.length from by simp [strOfNums, ByteArray.size]]; omega)
  refine Ev.bind p (Ev.bind q ?_)
  simp only [beq_self_eq_true]
  exact Ev.now _
end Go.Proofs.Ytiphaodokhdkgaa.Pure
