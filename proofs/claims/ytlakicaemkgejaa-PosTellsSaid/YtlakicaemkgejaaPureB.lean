/- The example that each law begins with comes to true. -/
import Derived.Test.YtlakicaemkgejaaPAllx5
namespace Go.Proofs.Ytlakicaemkgejaa.PAll
open Go.RowKit Go.Proofs.YtlakicaemkgejaaW.PrintWords Go.Proofs.YtlakicaemkgejaaW.PrintLast Go.Proofs.YtlakicaemkgejaaW.PrintMore
set_option linter.unusedVariables false
set_option linter.unusedSimpArgs false
theorem awake_f : Ev (fun k => meridianlaw04_awake.f k) true := Ev.of (fun k => meridianlaw04_awake.mono k) (k := 12) (by decide +kernel)

theorem bind_awake {g : Nat → Option Bool} (h : Ev g true) : Ev (fun k => (meridianlaw04_awake.f k).bind fun t => if t = true then g k else some false) true := by
  refine Ev.bind awake_f ?_
  exact Ev.congr (f := g) (fun k => rfl) h

end Go.Proofs.Ytlakicaemkgejaa.PAll
