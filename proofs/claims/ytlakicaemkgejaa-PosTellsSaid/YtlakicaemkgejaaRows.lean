/-
  No cell of these rows narrows 'for every input' (looked for: loops, veiled, ifaces, maps, wideKeys, modest, calm, conditions, laid).
  DERIVED. THE GIVEN ROWS OF THIS SEAT. 7 by the template 'for every input the law returns true; each argument reads behind the call as it read before'; 0 by the template 'total and deterministic' (their statements: YtlakicaemkgejaaTotals.lean).
  GIVEN WITH THE SEED: the statements are not yours to turn. If you find one false, say at which input.
  Laid BY PROGRAM, IN A SANDBOX (cutbox-rows.mjs): the forced cells as the released guide's own fill.sh prints them over the translation cdba44b5bc406129… (all of the seat's roots in one cut). By AI agents, Wed Nov 11 2026. No macro, syntax, notation, axiom, sorry.
-/
import Derived.Test.YtlakicaemkgejaaChecked
import GoSem.Claim
import GoSem.ClaimJoined
import GoSem.ClaimMapViews
import Derived.JoinedTies
import Derived.KernelRfl
namespace Go.Proofs.Ytlakicaemkgejaa
/- THE CELL 'sum', in the pinned program and in every row, IS THE sha256 OF THE DUMP (.gsa) THAT YtlakicaemkgejaaProg.lean LOADS. Nothing in Lean hashes anything: it is a label: what it is worth is what the hold of that sum in a sandbox is worth. -/
noncomputable def Try.pinned : Pinned := { name := "ytlakicaemkgejaa", sum := "cdba44b5bc4061290ca06c28681fe68a7e11af04cd57af0b8414fda3dc0ca12b", checked := Try.checked }
namespace Rows
def none {H : Type} : Left H := { results := [], args := [] }

/-- 'meridianlaw04.PosOne': WHATEVER THE INPUT: true; the input reads as it did. -/
def posOneSpec : ChangeSpec := { name := "posOne", fn := fun _ => fun
  | [d] => { results := [.lit (.bool true)], args := [d] }
  | _ => none }
def posOneRow : OpenClaim := { program := "ytlakicaemkgejaa", sum := "cdba44b5bc4061290ca06c28681fe68a7e11af04cd57af0b8414fda3dc0ca12b", func := "meridian/meridianlaw04.PosOne", spec := "posOne", apart := false }
def PosOneSaid : Prop := posOneRow.holds Try.pinned (OpenSpec.ofChange posOneSpec)

/-- ITS FALSE NEIGHBOUR: 'it returns false'. Refute it at one input. -/
def posOneWrong : ChangeSpec := { name := "posOne", fn := fun _ => fun
  | [d] => { results := [.lit (.bool false)], args := [d] }
  | _ => none }
def PosOneWrongFalsely : Prop := posOneRow.holds Try.pinned (OpenSpec.ofChange posOneWrong)

/-- 'meridianlaw04.PosStays': WHATEVER THE INPUT: true; the input reads as it did. -/
def posStaysSpec : ChangeSpec := { name := "posStays", fn := fun _ => fun
  | [d1, d2] => { results := [.lit (.bool true)], args := [d1, d2] }
  | _ => none }
def posStaysRow : OpenClaim := { program := "ytlakicaemkgejaa", sum := "cdba44b5bc4061290ca06c28681fe68a7e11af04cd57af0b8414fda3dc0ca12b", func := "meridian/meridianlaw04.PosStays", spec := "posStays", apart := false }
def PosStaysSaid : Prop := posStaysRow.holds Try.pinned (OpenSpec.ofChange posStaysSpec)

/-- ITS FALSE NEIGHBOUR: 'it returns false'. Refute it at one input. -/
def posStaysWrong : ChangeSpec := { name := "posStays", fn := fun _ => fun
  | [d1, d2] => { results := [.lit (.bool false)], args := [d1, d2] }
  | _ => none }
def PosStaysWrongFalsely : Prop := posStaysRow.holds Try.pinned (OpenSpec.ofChange posStaysWrong)

/-- 'meridianlaw04.PosTells': WHATEVER THE INPUT: true; the input reads as it did. -/
def posTellsSpec : ChangeSpec := { name := "posTells", fn := fun _ => fun
  | [d1, d2, d3] => { results := [.lit (.bool true)], args := [d1, d2, d3] }
  | _ => none }
def posTellsRow : OpenClaim := { program := "ytlakicaemkgejaa", sum := "cdba44b5bc4061290ca06c28681fe68a7e11af04cd57af0b8414fda3dc0ca12b", func := "meridian/meridianlaw04.PosTells", spec := "posTells", apart := false }
def PosTellsSaid : Prop := posTellsRow.holds Try.pinned (OpenSpec.ofChange posTellsSpec)

/-- ITS FALSE NEIGHBOUR: 'it returns false'. Refute it at one input. -/
def posTellsWrong : ChangeSpec := { name := "posTells", fn := fun _ => fun
  | [d1, d2, d3] => { results := [.lit (.bool false)], args := [d1, d2, d3] }
  | _ => none }
def PosTellsWrongFalsely : Prop := posTellsRow.holds Try.pinned (OpenSpec.ofChange posTellsWrong)

/-- 'meridianlaw04.PosBase': WHATEVER THE INPUT: true; the input reads as it did. -/
def posBaseSpec : ChangeSpec := { name := "posBase", fn := fun _ => fun
  | [d1, d2, d3] => { results := [.lit (.bool true)], args := [d1, d2, d3] }
  | _ => none }
def posBaseRow : OpenClaim := { program := "ytlakicaemkgejaa", sum := "cdba44b5bc4061290ca06c28681fe68a7e11af04cd57af0b8414fda3dc0ca12b", func := "meridian/meridianlaw04.PosBase", spec := "posBase", apart := false }
def PosBaseSaid : Prop := posBaseRow.holds Try.pinned (OpenSpec.ofChange posBaseSpec)

/-- ITS FALSE NEIGHBOUR: 'it returns false'. Refute it at one input. -/
def posBaseWrong : ChangeSpec := { name := "posBase", fn := fun _ => fun
  | [d1, d2, d3] => { results := [.lit (.bool false)], args := [d1, d2, d3] }
  | _ => none }
def PosBaseWrongFalsely : Prop := posBaseRow.holds Try.pinned (OpenSpec.ofChange posBaseWrong)

/-- 'meridianlaw04.PosSelf': WHATEVER THE INPUT: true; the input reads as it did. -/
def posSelfSpec : ChangeSpec := { name := "posSelf", fn := fun _ => fun
  | [d1, d2] => { results := [.lit (.bool true)], args := [d1, d2] }
  | _ => none }
def posSelfRow : OpenClaim := { program := "ytlakicaemkgejaa", sum := "cdba44b5bc4061290ca06c28681fe68a7e11af04cd57af0b8414fda3dc0ca12b", func := "meridian/meridianlaw04.PosSelf", spec := "posSelf", apart := false }
def PosSelfSaid : Prop := posSelfRow.holds Try.pinned (OpenSpec.ofChange posSelfSpec)

/-- ITS FALSE NEIGHBOUR: 'it returns false'. Refute it at one input. -/
def posSelfWrong : ChangeSpec := { name := "posSelf", fn := fun _ => fun
  | [d1, d2] => { results := [.lit (.bool false)], args := [d1, d2] }
  | _ => none }
def PosSelfWrongFalsely : Prop := posSelfRow.holds Try.pinned (OpenSpec.ofChange posSelfWrong)

/-- 'meridianlaw04.PosAlong': WHATEVER THE INPUT: true; the input reads as it did. -/
def posAlongSpec : ChangeSpec := { name := "posAlong", fn := fun _ => fun
  | [d1, d2, d3] => { results := [.lit (.bool true)], args := [d1, d2, d3] }
  | _ => none }
def posAlongRow : OpenClaim := { program := "ytlakicaemkgejaa", sum := "cdba44b5bc4061290ca06c28681fe68a7e11af04cd57af0b8414fda3dc0ca12b", func := "meridian/meridianlaw04.PosAlong", spec := "posAlong", apart := false }
def PosAlongSaid : Prop := posAlongRow.holds Try.pinned (OpenSpec.ofChange posAlongSpec)

/-- ITS FALSE NEIGHBOUR: 'it returns false'. Refute it at one input. -/
def posAlongWrong : ChangeSpec := { name := "posAlong", fn := fun _ => fun
  | [d1, d2, d3] => { results := [.lit (.bool false)], args := [d1, d2, d3] }
  | _ => none }
def PosAlongWrongFalsely : Prop := posAlongRow.holds Try.pinned (OpenSpec.ofChange posAlongWrong)

/-- 'meridianlaw04.PosExtends': WHATEVER THE INPUT: true; the input reads as it did. -/
def posExtendsSpec : ChangeSpec := { name := "posExtends", fn := fun _ => fun
  | [d1, d2] => { results := [.lit (.bool true)], args := [d1, d2] }
  | _ => none }
def posExtendsRow : OpenClaim := { program := "ytlakicaemkgejaa", sum := "cdba44b5bc4061290ca06c28681fe68a7e11af04cd57af0b8414fda3dc0ca12b", func := "meridian/meridianlaw04.PosExtends", spec := "posExtends", apart := false }
def PosExtendsSaid : Prop := posExtendsRow.holds Try.pinned (OpenSpec.ofChange posExtendsSpec)

/-- ITS FALSE NEIGHBOUR: 'it returns false'. Refute it at one input. -/
def posExtendsWrong : ChangeSpec := { name := "posExtends", fn := fun _ => fun
  | [d1, d2] => { results := [.lit (.bool false)], args := [d1, d2] }
  | _ => none }
def PosExtendsWrongFalsely : Prop := posExtendsRow.holds Try.pinned (OpenSpec.ofChange posExtendsWrong)

/- THE SECOND FORM. 'bulk': how many values and letters a reading holds, each counted each time it is reached (what is shared counts as often as it is met; a slice's spare places count too). A statement '..UptoSaid' is the law's where the arguments, and the package variables that the reading takes, are together of bulk at most 1048576: NARROWER than '..Said'. Prove '..Said' where nothing that the law and all that it calls make is longer than what came in: it says more and counts as full. Else prove '..UptoSaid'. A law counts once. -/
mutual
def uptoBulk {H : Type} : DataW H → Nat
  | .lit (.string bytes) => bytes.length + 1
  | .lit _ => 1
  | .nil => 1
  | .ptr d => uptoBulk d + 1
  | .slice elems spare => uptoBulkAll elems + uptoBulkAll spare + 1
  | .agg parts => uptoBulkAll parts + 1
  | .iface _ d => uptoBulk d + 1
  | .map entries => uptoBulkEntries entries + 1
  | .held _ => 1
def uptoBulkAll {H : Type} : List (DataW H) → Nat
  | [] => 0
  | d :: r => uptoBulk d + uptoBulkAll r
def uptoBulkEntries {H : Type} : List (Lit × DataW H) → Nat
  | [] => 0
  | x :: r => uptoBulkEntry x + uptoBulkEntries r
def uptoBulkEntry {H : Type} : Lit × DataW H → Nat
  | (.string bytes, d) => bytes.length + uptoBulk d + 1
  | (_, d) => uptoBulk d + 1
 end
def uptoSmall : (H : Type) → List (DataW H) → Bool := fun _ ds => decide (uptoBulkAll ds ≤ 1048576)
def OpenSpec.upto (s : _root_.Go.ChangeSpec) : _root_.Go.OpenSpec := { _root_.Go.OpenSpec.ofChange s with cond := some uptoSmall }

/-- 'meridianlaw04.PosOne', WHERE WHAT IT READS IS OF BULK AT MOST 1048576: true; the input reads as it did. -/
def posOneUptoRow : OpenClaim := { program := "ytlakicaemkgejaa", sum := "cdba44b5bc4061290ca06c28681fe68a7e11af04cd57af0b8414fda3dc0ca12b", func := "meridian/meridianlaw04.PosOne", spec := "posOne", apart := false, narrowed := true }
def PosOneUptoSaid : Prop := posOneUptoRow.holds Try.pinned (OpenSpec.upto posOneSpec)

/-- 'meridianlaw04.PosStays', WHERE WHAT IT READS IS OF BULK AT MOST 1048576: true; the input reads as it did. -/
def posStaysUptoRow : OpenClaim := { program := "ytlakicaemkgejaa", sum := "cdba44b5bc4061290ca06c28681fe68a7e11af04cd57af0b8414fda3dc0ca12b", func := "meridian/meridianlaw04.PosStays", spec := "posStays", apart := false, narrowed := true }
def PosStaysUptoSaid : Prop := posStaysUptoRow.holds Try.pinned (OpenSpec.upto posStaysSpec)

/-- 'meridianlaw04.PosTells', WHERE WHAT IT READS IS OF BULK AT MOST 1048576: true; the input reads as it did. -/
def posTellsUptoRow : OpenClaim := { program := "ytlakicaemkgejaa", sum := "cdba44b5bc4061290ca06c28681fe68a7e11af04cd57af0b8414fda3dc0ca12b", func := "meridian/meridianlaw04.PosTells", spec := "posTells", apart := false, narrowed := true }
def PosTellsUptoSaid : Prop := posTellsUptoRow.holds Try.pinned (OpenSpec.upto posTellsSpec)

/-- 'meridianlaw04.PosBase', WHERE WHAT IT READS IS OF BULK AT MOST 1048576: true; the input reads as it did. -/
def posBaseUptoRow : OpenClaim := { program := "ytlakicaemkgejaa", sum := "cdba44b5bc4061290ca06c28681fe68a7e11af04cd57af0b8414fda3dc0ca12b", func := "meridian/meridianlaw04.PosBase", spec := "posBase", apart := false, narrowed := true }
def PosBaseUptoSaid : Prop := posBaseUptoRow.holds Try.pinned (OpenSpec.upto posBaseSpec)

/-- 'meridianlaw04.PosSelf', WHERE WHAT IT READS IS OF BULK AT MOST 1048576: true; the input reads as it did. -/
def posSelfUptoRow : OpenClaim := { program := "ytlakicaemkgejaa", sum := "cdba44b5bc4061290ca06c28681fe68a7e11af04cd57af0b8414fda3dc0ca12b", func := "meridian/meridianlaw04.PosSelf", spec := "posSelf", apart := false, narrowed := true }
def PosSelfUptoSaid : Prop := posSelfUptoRow.holds Try.pinned (OpenSpec.upto posSelfSpec)

/-- 'meridianlaw04.PosAlong', WHERE WHAT IT READS IS OF BULK AT MOST 1048576: true; the input reads as it did. -/
def posAlongUptoRow : OpenClaim := { program := "ytlakicaemkgejaa", sum := "cdba44b5bc4061290ca06c28681fe68a7e11af04cd57af0b8414fda3dc0ca12b", func := "meridian/meridianlaw04.PosAlong", spec := "posAlong", apart := false, narrowed := true }
def PosAlongUptoSaid : Prop := posAlongUptoRow.holds Try.pinned (OpenSpec.upto posAlongSpec)

/-- 'meridianlaw04.PosExtends', WHERE WHAT IT READS IS OF BULK AT MOST 1048576: true; the input reads as it did. -/
def posExtendsUptoRow : OpenClaim := { program := "ytlakicaemkgejaa", sum := "cdba44b5bc4061290ca06c28681fe68a7e11af04cd57af0b8414fda3dc0ca12b", func := "meridian/meridianlaw04.PosExtends", spec := "posExtends", apart := false, narrowed := true }
def PosExtendsUptoSaid : Prop := posExtendsUptoRow.holds Try.pinned (OpenSpec.upto posExtendsSpec)

end Rows
end Go.Proofs.Ytlakicaemkgejaa
