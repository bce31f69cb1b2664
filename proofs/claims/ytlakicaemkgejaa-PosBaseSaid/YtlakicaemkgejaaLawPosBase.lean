/- For every table, position and number: the Base of a position is on the branch, at or below it, and stays when asked again; what is on the branch and below it is covered. No conditions. -/
import Derived.Test.YtlakicaemkgejaaRows
import Derived.Test.YtlakicaemkgejaaOpen
import Derived.Test.YtlakicaemkgejaaPureA
import Derived.Test.YtlakicaemkgejaaPureB
import Derived.Test.YtlakicaemkgejaaPureC
import Derived.Test.YtlakicaemkgejaaPAllx12
import Derived.WalkKit
import Derived.ProofKit
import Derived.OpenShut
import Derived.ShutString
import Derived.ChangeOld
import Derived.Below
import Derived.SizedLaws
namespace Go.Proofs.Ytlakicaemkgejaa.PAll
open Go.RowKit Go.Proofs.YtlakicaemkgejaaW.PrintWords Go.Proofs.YtlakicaemkgejaaW.PrintLast Go.Proofs.YtlakicaemkgejaaW.PrintMore
open Classical
set_option linter.unusedVariables false
set_option linter.unusedSimpArgs false
theorem posBase_pure (l : List S32) (e i q : Int) : ∃ k, meridianlaw04_PosBase.f k l e i q = some true := by
  apply Ev.rounds
  unfold meridianlaw04_PosBase.f
  refine bind_awake ?_
  by_cases hr : RightP l
  · have hb : ∃ be bi, Ev (fun k => pos_Base.f k l e i) (be, bi) ∧ OnP l be bi ∧ bi ≤ mx i 0 ∧ (OnP l e i → be = e ∧ bi = i) := by
      by_cases hi : IsP l e i
      · obtain ⟨be, bi, hb1, hb2⟩ := base_f l hr e i hi
        refine ⟨be, bi, hb1, hb2.on hr, ?_, fun ho => ?_⟩
        · have := hb2.le; unfold mx; split <;> omega
        · refine hb2.same ⟨Int.le_refl _, ho.2.2, Or.inl rfl, ?_⟩
          rcases ho.cases with h | h
          · exact Or.inl ⟨h.2, h.1⟩
          · exact Or.inr ⟨h.1.pos ho.1, h.2, h.1⟩
      · refine ⟨0, 0, base_f_no l e i (fun g => hi g.2), onP_zero hr, ?_, fun ho => absurd ho.2.1 hi⟩
        unfold mx; split <;> omega
    obtain ⟨be, bi, hb1, hbo, hbm, hbe⟩ := hb
    refine Ev.bind hb1 ?_
    refine Ev.bind (right_f l) ?_
    rw [decide_eq_true hr]
    refine Ev.congr (fun k => if_pos rfl) ?_
    refine Ev.bind (on_f l be bi) ?_
    rw [decide_eq_true hbo]
    refine Ev.congr (fun k => if_pos rfl) ?_
    refine Ev.congr (fun k => if_neg (by show ¬ bi > mx i 0; omega)) ?_
    have hagain : Ev (fun k => pos_Base.f k l be bi) (be, bi) := by
      obtain ⟨ce, ci, hc1, hc2⟩ := base_f l hr be bi hbo.2.1
      have : ce = be ∧ ci = bi := by
        refine hc2.same ⟨Int.le_refl _, hbo.2.2, Or.inl rfl, ?_⟩
        rcases hbo.cases with h | h
        · exact Or.inl ⟨h.2, h.1⟩
        · exact Or.inr ⟨h.1.pos hr, h.2, h.1⟩
      obtain ⟨rfl, rfl⟩ := this
      exact hc1
    refine Ev.bind hagain ?_
    refine Ev.congr (fun k => if_neg (by simp)) ?_
    have fin : Ev (fun k => meridianlaw04_PosBase.j0 k l q false be bi) true := by
      obtain ⟨qe, qi, hq1, hq2, _⟩ := at_any l hr q
      refine Ev.step (fun k => by simp only [meridianlaw04_PosBase.j0]; exact if_neg (by decide)) ?_
      refine Ev.bind hq1 ?_
      refine Ev.bind (covers_f l be bi qe qi) ?_
      have : (decide (OnP l be bi ∧ OnP l qe qi ∧ qi ≤ bi) == decide (qi ≤ bi)) = true := by
        rw [show decide (OnP l be bi ∧ OnP l qe qi ∧ qi ≤ bi) = decide (qi ≤ bi) from decide_eq_decide.2 ⟨fun h => h.2.2, fun h => ⟨hbo, hq2, h⟩⟩]
        exact beq_self_eq_true _
      simp only
      rw [this]
      exact Ev.now _
    refine Ev.bind (on_f l e i) ?_
    by_cases ho : OnP l e i
    · obtain ⟨rfl, rfl⟩ := hbe ho
      rw [decide_eq_true ho]
      refine Ev.congr (f := fun k => meridianlaw04_PosBase.j0 k l q false be bi) (fun k => by simp) fin
    · rw [decide_eq_false ho]
      exact Ev.congr (f := fun k => meridianlaw04_PosBase.j0 k l q false be bi) (fun k => rfl) fin
  · refine Ev.bind (base_f_no l e i (fun g => hr g.1)) ?_
    refine Ev.bind (right_f l) ?_
    rw [decide_eq_false hr]
    exact Ev.congr (f := fun k => some true) (fun k => rfl) (Ev.now _)

end Go.Proofs.Ytlakicaemkgejaa.PAll
namespace Go.Proofs.Ytlakicaemkgejaa.posBase
open Go.ChangeShapes Go.WideShapes Go.ChangeAt Go.RowKit
open Go.Proofs.Ytlakicaemkgejaa.Open
set_option linter.unusedVariables false
set_option maxRecDepth 100000 in
theorem lifted (os : Os) (started : os.Started) (H : Type) (enc : TypeId × Value → H) :
    ReturnsInHanded {} Try.checked os 6 .any (Rows.posBaseSpec.pre6 enc Try.prog Try.f6 Rows.posBaseRow.domain false) (Rows.posBaseSpec.post enc Try.prog Try.f6 false true false false) := by
  refine returnsInHanded_of_change_sized (C := Try.checked) own started (by kernel_rfl) Try.func6
    (ChangeSpec.witness6 (enc := enc) (C := Try.checked) false ⟨#[], #[.slice none 0 0, .agg #[.int .i64 0, .int .i64 0], .int .i64 0], []⟩ 8 (by kernel_rfl) (by kernel_rfl) (by kernel_rfl) (by kernel_rfl)) ?_
  intro W base args ds gs before hval0 hW hcnd hsz0 _
  have hsz : (DataW.weightsEach Try.prog (Try.f6.params.toList ++ Rows.posBaseSpec.plain.varTypes Try.prog) (ds ++ gs)).all (· ≤ reachBytes) = true := hsz0
  have hval : ∀ (j : Nat) t v, Try.f6.params[j]? = some t → args[j]? = some v → Value.okWide Try.prog W .any base t v := hval0
  have hW' := hW
  obtain ⟨p, q, hA0, hV, rfl, hfz, hnd⟩ := hW
  have hA : DataW.TrodAll enc Try.prog W 0 (fun _ => true) true Try.f6.params.toList args.toList ds p := hA0
  rw [Try.params6] at hA hval hsz
  obtain ⟨v0, vs0, d0, ds0, p0, q0, hargs, rfl, rfl, h0, r0⟩ := trodAll_cons hA
  obtain ⟨v1, vs1, d1, ds1, p1, q1, rfl, rfl, rfl, h1, r1⟩ := trodAll_cons r0
  obtain ⟨v2, vs2, d2, ds2, p2, q2, rfl, rfl, rfl, h2, r2⟩ := trodAll_cons r1
  obtain ⟨rfl, rfl, rfl⟩ := trodAll_nil r2
  obtain rfl : args = #[v0, v1, v2] := by cases args; simp_all
  obtain ⟨rfl, rfl⟩ := trodVars_none hV
  have k0 := h0
  have lt0 := places h0
  obtain ⟨A0, c0, l0, rfl, hr0, hc0, hl0, we0⟩ := open_epochs (j := 0) hsz rfl rfl (hval 0 22 v0 rfl rfl) h0
  have k1 := h1
  have lt1 := places h1
  obtain ⟨a1, b1, rfl, wa1, wb1⟩ := open_pos (hval 1 26 v1 rfl rfl) h1
  have k2 := h2
  have lt2 := places h2
  obtain ⟨a2, rfl, rfl, rfl, wa2⟩ := open_int Try.underlying3 (hval 2 3 v2 rfl rfl) h2
  clear hA0 hval0 hsz0 hsz
  obtain ⟨k, hk⟩ := PAll.posBase_pure l0 a1 b1 a2
  refine (PAll.meridianlaw04_PosBase.calls k _ _ l0 a1 b1 a2 true W hr0 hc0 hk).mono fun e W' ⟨he, bel⟩ => ?_
  subst he
  exact ⟨_, rfl, _, _, _, [], _, [], hW', trodAll_mk1 (shut_bool Try.underlying4 _), (trodAll_cons_mk (Below.trod laidOut (by kernel_rfl) (of_decide_eq_true (by kernel_rfl)) k0 bel lt0) (trodAll_cons_mk (Below.trod laidOut (by kernel_rfl) (of_decide_eq_true (by kernel_rfl)) k1 bel lt1) (trodAll_cons_mk (Below.trod laidOut (by kernel_rfl) (of_decide_eq_true (by kernel_rfl)) k2 bel lt2) trodAll_mk0))), rfl, bel.frame _, fun h => by cases h⟩
theorem over : Rows.posBaseRow.holds Try.pinned (OpenSpec.ofChange Rows.posBaseSpec) :=
  OpenClaim.holds_of_wide 6 Try.f6 rfl rfl rfl rfl rfl rfl rfl ⟨rfl, rfl, rfl, rfl, rfl⟩ rfl rfl rfl rfl rfl (by kernel_rfl) Try.func6 (by kernel_rfl)
    (of_decide_eq_true (by kernel_rfl)) (by unfold Func.isWrapper; first | (rw [if_pos (by decide +kernel)]; kernel_rfl) | (rw [if_neg (by decide +kernel)]; exact ⟨rfl, rfl⟩))
    (fun os started H enc _ => lifted os started H enc)
end Go.Proofs.Ytlakicaemkgejaa.posBase
namespace Go.Proofs.Ytlakicaemkgejaa
theorem posBase_holds : Rows.PosBaseSaid := posBase.over
#print axioms posBase_holds
end Go.Proofs.Ytlakicaemkgejaa
