/- A text in any pieces has the sum of the whole; what is handed in stays. No conditions. -/
import Derived.Test.YtiphaodokhdkgaaRows
import Derived.Test.YtiphaodokhdkgaaOpen
import Derived.Test.YtiphaodokhdkgaaPSumx3
import Derived.Test.YtiphaodokhdkgaaSumA
import Derived.WalkKit
import Derived.ProofKit
import Derived.OpenShut
import Derived.ShutString
import Derived.ChangeOld
import Derived.Below
import Derived.SizedLaws
namespace Go.Proofs.Ytiphaodokhdkgaa.PSum
open Go.RowKit Go.Proofs.YtiphaodokhdkgaaW.PrintWords Go.Proofs.YtiphaodokhdkgaaW.PrintLast Go.Proofs.YtiphaodokhdkgaaW.PrintMore
set_option linter.unusedVariables false
set_option linter.unusedSimpArgs false

theorem pieces_l0 (l : List (List Int)) (hl : l.length * 24 ≤ 140737488351232) (hb : ∀ r ∈ l, ∀ x ∈ r, IsB x) (d : Nat) : ∀ (i : Nat) (a : List Int), i + d = l.length → (∀ x ∈ a, IsB x) → a.length ≤ 200000 →
    Ev (fun k => meridianlaw01_SumPieces.l0 k l (V (~~~ reg (BitVec.allOnes 32) a)) a (i : Int)) true := by
  have fin : ∀ (a : List Int) (i : Int), (∀ x ∈ a, IsB x) → a.length ≤ 200000 → Ev (fun k => meridianlaw01_SumPieces.j1 k l (V (~~~ reg (BitVec.allOnes 32) a)) a i false) true := by
    intro a i ha hn
    refine Ev.step (fun k => by simp only [meridianlaw01_SumPieces.j1]; exact if_neg (by decide)) ?_
    refine Ev.bind (of_f a ha (by omega)) ?_
    refine Ev.congr (fun k => if_pos rfl) ?_
    refine Ev.bind (more_f [] (by simp) (by simp) _) ?_
    rw [show reg (~~~ ~~~ reg (BitVec.allOnes 32) a) [] = ~~~ ~~~ reg (BitVec.allOnes 32) a from rfl, BitVec.not_not]
    refine Ev.congr (fun k => if_pos rfl) ?_
    simp only [beq_self_eq_true]
    exact Ev.now _
  induction d with
  | zero =>
    intro i a hi ha hn
    refine Ev.step (fun k => by simp only [meridianlaw01_SumPieces.l0]; exact if_neg (by omega)) (fin a i ha hn)
  | succ d ih =>
    intro i a hi ha hn
    have hlt : i < l.length := by omega
    refine Ev.step (fun k => by simp only [meridianlaw01_SumPieces.l0]; exact if_pos (by omega)) ?_
    by_cases h1 : (a.length : Int) < 100000
    · rw [decide_eq_true h1]
      refine Ev.step (fun k => by simp only [meridianlaw01_SumPieces.j1]; rw [if_pos trivial, if_pos (by omega), if_pos (by omega)]) ?_
      by_cases h2 : ((rd_L1 l i).length : Int) > 100000
      · exact Ev.congr (fun k => if_pos h2) (Ev.now _)
      refine Ev.congr (fun k => if_neg h2) ?_
      have hm : rd_L1 l i ∈ l := by
        unfold rd_L1
        rw [Int.toNat_natCast, List.getD_eq_getElem?_getD, List.getElem?_eq_getElem hlt]
        exact List.getElem_mem hlt
      refine Ev.bind (more_f _ (hb _ hm) (by omega) _) ?_
      refine Ev.congr (f := fun k => meridianlaw01_SumPieces.l0 k l (V (~~~ reg (BitVec.allOnes 32) (a ++ rd_L1 l i))) (a ++ rd_L1 l i) ((i + 1 : Nat) : Int)) (fun k => ?_) ?_
      · rw [if_pos (by omega), w64 (by omega) (by omega), BitVec.not_not, ← reg_append]
        rfl
      · refine ih (i + 1) _ (by omega) (fun x hx => ?_) (by rw [List.length_append]; omega)
        rcases List.mem_append.1 hx with hx | hx
        · exact ha x hx
        · exact hb _ hm x hx
    · rw [decide_eq_false h1]
      exact fin a i ha hn

theorem sumPieces_pure (l : List (List Int)) (hl : l.length * 24 ≤ 140737488351232) (hb : ∀ r ∈ l, r.length ≤ 9223372036854775807 ∧ ∀ x ∈ r, Open.IsB x) : ∃ k, meridianlaw01_SumPieces.f k l = some true := by
  apply Ev.rounds
  unfold meridianlaw01_SumPieces.f
  refine bind_awake ?_
  refine Ev.bind (of_f [] (by simp) (by simp)) ?_
  exact pieces_l0 l hl (fun r hr => (hb r hr).2) l.length 0 [] (by omega) (by simp) (by simp)

end Go.Proofs.Ytiphaodokhdkgaa.PSum
namespace Go.Proofs.Ytiphaodokhdkgaa.sumPieces
open Go.ChangeShapes Go.WideShapes Go.ChangeAt Go.RowKit
open Go.Proofs.Ytiphaodokhdkgaa.Open
set_option linter.unusedVariables false
set_option maxRecDepth 100000 in
theorem lifted (os : Os) (started : os.Started) (H : Type) (enc : TypeId × Value → H) :
    ReturnsInHanded {} Try.checked os 6 .any (Rows.sumPiecesSpec.pre6 enc Try.prog Try.f6 Rows.sumPiecesRow.domain false) (Rows.sumPiecesSpec.post enc Try.prog Try.f6 false true false false) := by
  refine returnsInHanded_of_change_sized (C := Try.checked) own started (by kernel_rfl) Try.func6
    (ChangeSpec.witness6 (enc := enc) (C := Try.checked) false ⟨#[], #[.slice none 0 0], []⟩ 8 (by kernel_rfl) (by kernel_rfl) (by kernel_rfl) (by kernel_rfl)) ?_
  intro W base args ds gs before hval0 hW hcnd hsz0 _
  have hsz : (DataW.weightsEach Try.prog (Try.f6.params.toList ++ Rows.sumPiecesSpec.plain.varTypes Try.prog) (ds ++ gs)).all (· ≤ reachBytes) = true := hsz0
  have hval : ∀ (j : Nat) t v, Try.f6.params[j]? = some t → args[j]? = some v → Value.okWide Try.prog W .any base t v := hval0
  have hW' := hW
  obtain ⟨p, q, hA0, hV, rfl, hfz, hnd⟩ := hW
  have hA : DataW.TrodAll enc Try.prog W 0 (fun _ => true) true Try.f6.params.toList args.toList ds p := hA0
  rw [Try.params6] at hA hval hsz
  obtain ⟨v0, vs0, d0, ds0, p0, q0, hargs, rfl, rfl, h0, r0⟩ := trodAll_cons hA
  obtain ⟨rfl, rfl, rfl⟩ := trodAll_nil r0
  obtain rfl : args = #[v0] := by cases args; simp_all
  obtain ⟨rfl, rfl⟩ := trodVars_none hV
  have k0 := h0
  have lt0 := places h0
  obtain ⟨A0, c0, l0, rfl, hr0, hc0, hl0, hb0⟩ := open_rows (j := 0) Try.underlying33 Try.underlying22 Try.underlying5 (by kernel_rfl) (by kernel_rfl) (by kernel_rfl) hsz rfl rfl (hval 0 33 v0 rfl rfl) h0
  clear hA0 hval0 hsz0 hsz
  obtain ⟨k, hk⟩ := PSum.sumPieces_pure l0 hl0 hb0
  refine (PSum.meridianlaw01_SumPieces.calls k _ _ l0 true W hr0 hc0 hk).mono fun e W' ⟨he, bel⟩ => ?_
  subst he
  exact ⟨_, rfl, _, _, _, [], _, [], hW', trodAll_mk1 (shut_bool Try.underlying4 _), (trodAll_cons_mk (Below.trod laidOut (by kernel_rfl) (of_decide_eq_true (by kernel_rfl)) k0 bel lt0) trodAll_mk0), rfl, bel.frame _, fun h => by cases h⟩
theorem over : Rows.sumPiecesRow.holds Try.pinned (OpenSpec.ofChange Rows.sumPiecesSpec) :=
  OpenClaim.holds_of_wide 6 Try.f6 rfl rfl rfl rfl rfl rfl rfl ⟨rfl, rfl, rfl, rfl, rfl⟩ rfl rfl rfl rfl rfl (by kernel_rfl) Try.func6 (by kernel_rfl)
    (of_decide_eq_true (by kernel_rfl)) (by unfold Func.isWrapper; first | (rw [if_pos (by decide +kernel)]; kernel_rfl) | (rw [if_neg (by decide +kernel)]; exact ⟨rfl, rfl⟩))
    (fun os started H enc _ => lifted os started H enc)
end Go.Proofs.Ytiphaodokhdkgaa.sumPieces
namespace Go.Proofs.Ytiphaodokhdkgaa
theorem sumPieces_holds : Rows.SumPiecesSaid := sumPieces.over
#print axioms sumPieces_holds
end Go.Proofs.Ytiphaodokhdkgaa
