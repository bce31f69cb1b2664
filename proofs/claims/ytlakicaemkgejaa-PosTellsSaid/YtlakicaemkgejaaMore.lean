/- Two small laws on a region whose order is drawn: what is held may grow while the region runs. -/
import Derived.Test.YtlakicaemkgejaaWLast
namespace Go.Proofs.Ytlakicaemkgejaa.More
open Go.Proofs.YtlakicaemkgejaaW.PrintLast
variable {P : Program} {md : Region.Mode} {ops : Array Oper} {Q : Exit → Act → World → Prop} {S T : World → Prop}

theorem more_ : ∀ (fuel : Nat) (l : Array Bool) (a : Act) (w : World), S w → T w → wpAnyLast P md ops Q (fun w' => S w' ∧ T w') [] fuel l a w → wpAnyLast P md ops Q S [] fuel l a w
  | 0, _, _, _, _, _, h => h
  | fuel + 1, l, a, w, hS, hT, h => ⟨h.1, fun i hi => wpOp_mono (fun a' w' h' =>
      have hh := h'.1 (by simp) ⟨hS, hT⟩
      ⟨fun _ _ => hh.1, more_ fuel _ a' w' hh.1 hh.2 h'.2⟩) (h.2 i hi)⟩
end Go.Proofs.Ytlakicaemkgejaa.More
