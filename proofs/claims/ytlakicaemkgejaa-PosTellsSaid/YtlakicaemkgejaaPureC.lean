/- What Covers comes to. -/
import Derived.Test.YtlakicaemkgejaaPureA
import Derived.Test.YtlakicaemkgejaaPAllx10
namespace Go.Proofs.Ytlakicaemkgejaa.PAll
open Go.RowKit Go.Proofs.YtlakicaemkgejaaW.PrintWords Go.Proofs.YtlakicaemkgejaaW.PrintLast Go.Proofs.YtlakicaemkgejaaW.PrintMore
set_option linter.unusedVariables false
set_option linter.unusedSimpArgs false
open Classical
theorem covers_f (l : List S32) (a b c d : Int) : Ev (fun k => pos_Covers.f k l a b c d) (decide (OnP l a b ∧ OnP l c d ∧ d ≤ b)) := by
  unfold pos_Covers.f
  refine Ev.bind (on_f l a b) ?_
  by_cases h1 : OnP l a b
  · rw [decide_eq_true h1]
    refine Ev.congr (f := fun k => (pos_On.f k l c d).bind fun t => if t = true then some (decide (d ≤ b)) else some false) (fun k => rfl) ?_
    refine Ev.bind (on_f l c d) ?_
    by_cases h2 : OnP l c d
    · rw [decide_eq_true h2]
      refine Ev.congr (f := fun k => some (decide (d ≤ b))) (fun k => rfl) ?_
      rw [show decide (OnP l a b ∧ OnP l c d ∧ d ≤ b) = decide (d ≤ b) from decide_eq_decide.2 ⟨fun h => h.2.2, fun h => ⟨h1, h2, h⟩⟩]
      exact Ev.now _
    · rw [decide_eq_false h2, decide_eq_false (show ¬ (OnP l a b ∧ OnP l c d ∧ d ≤ b) from fun g => h2 g.2.1)]
      exact Ev.congr (f := fun k => some false) (fun k => rfl) (Ev.now _)
  · rw [decide_eq_false h1, decide_eq_false (show ¬ (OnP l a b ∧ OnP l c d ∧ d ≤ b) from fun g => h1 g.1)]
    exact Ev.congr (f := fun k => some false) (fun k => rfl) (Ev.now _)

end Go.Proofs.Ytlakicaemkgejaa.PAll
