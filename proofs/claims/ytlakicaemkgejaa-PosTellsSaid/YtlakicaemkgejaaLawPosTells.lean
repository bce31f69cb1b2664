/- For every table, two positions and a number: all is told as the reference tells it. No conditions. -/
import Derived.Test.YtlakicaemkgejaaRows
import Derived.Test.YtlakicaemkgejaaOpen
import Derived.Test.YtlakicaemkgejaaPureB
import Derived.Test.YtlakicaemkgejaaPureD
import Derived.Test.YtlakicaemkgejaaPAllx11
import Derived.WalkKit
import Derived.ProofKit
import Derived.OpenShut
import Derived.ShutString
import Derived.ChangeOld
import Derived.Below
import Derived.SizedLaws
namespace Go.Proofs.Ytlakicaemkgejaa.PAll
open Go.RowKit Go.Proofs.YtlakicaemkgejaaW.PrintWords Go.Proofs.YtlakicaemkgejaaW.PrintLast Go.Proofs.YtlakicaemkgejaaW.PrintMore
open Classical
set_option linter.unusedVariables false
set_option linter.unusedSimpArgs false
theorem posTells_l0 (l : List S32) (hl : l.length ≤ 1000000000000000) (e i a b : Int) (d : Nat) : ∀ x : Nat, x + d = l.length → Ev (fun k => meridianlaw04_PosTells.l0 k l l (l.length : Int) (x : Int) e i a b) true := by
  induction d with
  | zero =>
    intro x hd
    obtain ⟨r1, p1, q1⟩ := at_both l hl i
    obtain ⟨r2, p2, q2⟩ := base_both l hl e i
    refine Ev.step (fun k => by simp only [meridianlaw04_PosTells.l0]; exact if_neg (by omega)) ?_
    refine Ev.bind p1 (Ev.bind q1 ?_)
    refine Ev.congr (fun k => if_pos (by simp)) ?_
    refine Ev.bind p2 (Ev.bind q2 ?_)
    refine Ev.congr (fun k => if_pos (by simp)) ?_
    refine Ev.bind (covers_f l e i a b) (Ev.bind (ref_covers_f l hl e i a b) ?_)
    simp only [beq_self_eq_true]
    exact Ev.now _
  | succ d ih =>
    intro x hd
    have hw : wrap64 ((x : Int) + 1) = ((x + 1 : Nat) : Int) := by rw [w64 (by omega) (by omega)]; omega
    refine Ev.step (fun k => ?_) (ih (x + 1) (by omega))
    simp only [meridianlaw04_PosTells.l0]
    rw [if_pos (by omega), if_pos (by omega), if_pos (by omega), if_pos (by omega), if_neg (by simp), hw]

theorem posTells_pure (l : List S32) (e i a b : Int) (hl : l.length * 24 ≤ 140737488351232) : ∃ k, meridianlaw04_PosTells.f k l e i a b = some true := by
  apply Ev.rounds
  unfold meridianlaw04_PosTells.f
  refine bind_awake ?_
  have hl' : l.length ≤ 1000000000000000 := by omega
  refine Ev.bind (a := l) ⟨0, fun k _ => ?_⟩ ?_
  · unfold meridianref04_Copy.f
    simp only [Option.bind_some, List.length_nil, List.nil_append]
    rw [if_pos (by omega)]
  obtain ⟨r, p, q⟩ := cut_both l hl' e i
  refine Ev.bind p (Ev.bind q ?_)
  refine Ev.congr (fun k => if_pos rfl) ?_
  refine Ev.congr (fun k => if_neg (by simp)) ?_
  refine Ev.bind (right_f l) (Ev.bind (ref_right_f l hl') ?_)
  refine Ev.congr (fun k => if_neg (by simp)) ?_
  refine Ev.bind (on_f l e i) (Ev.bind (ref_on_f l hl' e i) ?_)
  refine Ev.step (fun k => by simp only [meridianlaw04_PosTells.j0]; exact if_neg (by simp)) ?_
  exact posTells_l0 l hl' e i a b l.length 0 (by omega)

end Go.Proofs.Ytlakicaemkgejaa.PAll
namespace Go.Proofs.Ytlakicaemkgejaa.posTells
open Go.ChangeShapes Go.WideShapes Go.ChangeAt Go.RowKit
open Go.Proofs.Ytlakicaemkgejaa.Open
set_option linter.unusedVariables false
set_option maxRecDepth 100000 in
theorem lifted (os : Os) (started : os.Started) (H : Type) (enc : TypeId × Value → H) :
    ReturnsInHanded {} Try.checked os 5 .any (Rows.posTellsSpec.pre6 enc Try.prog Try.f5 Rows.posTellsRow.domain false) (Rows.posTellsSpec.post enc Try.prog Try.f5 false true false false) := by
  refine returnsInHanded_of_change_sized (C := Try.checked) own started (by kernel_rfl) Try.func5
    (ChangeSpec.witness6 (enc := enc) (C := Try.checked) false ⟨#[], #[.slice none 0 0, .agg #[.int .i64 0, .int .i64 0], .agg #[.int .i64 0, .int .i64 0]], []⟩ 8 (by kernel_rfl) (by kernel_rfl) (by kernel_rfl) (by kernel_rfl)) ?_
  intro W base args ds gs before hval0 hW hcnd hsz0 _
  have hsz : (DataW.weightsEach Try.prog (Try.f5.params.toList ++ Rows.posTellsSpec.plain.varTypes Try.prog) (ds ++ gs)).all (· ≤ reachBytes) = true := hsz0
  have hval : ∀ (j : Nat) t v, Try.f5.params[j]? = some t → args[j]? = some v → Value.okWide Try.prog W .any base t v := hval0
  have hW' := hW
  obtain ⟨p, q, hA0, hV, rfl, hfz, hnd⟩ := hW
  have hA : DataW.TrodAll enc Try.prog W 0 (fun _ => true) true Try.f5.params.toList args.toList ds p := hA0
  rw [Try.params5] at hA hval hsz
  obtain ⟨v0, vs0, d0, ds0, p0, q0, hargs, rfl, rfl, h0, r0⟩ := trodAll_cons hA
  obtain ⟨v1, vs1, d1, ds1, p1, q1, rfl, rfl, rfl, h1, r1⟩ := trodAll_cons r0
  obtain ⟨v2, vs2, d2, ds2, p2, q2, rfl, rfl, rfl, h2, r2⟩ := trodAll_cons r1
  obtain ⟨rfl, rfl, rfl⟩ := trodAll_nil r2
  obtain rfl : args = #[v0, v1, v2] := by cases args; simp_all
  obtain ⟨rfl, rfl⟩ := trodVars_none hV
  have k0 := h0
  have lt0 := places h0
  obtain ⟨A0, c0, l0, rfl, hr0, hc0, hl0, we0⟩ := open_epochs (j := 0) hsz rfl rfl (hval 0 22 v0 rfl rfl) h0
  have k1 := h1
  have lt1 := places h1
  obtain ⟨a1, b1, rfl, wa1, wb1⟩ := open_pos (hval 1 26 v1 rfl rfl) h1
  have k2 := h2
  have lt2 := places h2
  obtain ⟨a2, b2, rfl, wa2, wb2⟩ := open_pos (hval 2 26 v2 rfl rfl) h2
  clear hA0 hval0 hsz0 hsz
  obtain ⟨k, hk⟩ := PAll.posTells_pure l0 a1 b1 a2 b2 hl0
  refine (PAll.meridianlaw04_PosTells.calls k _ _ l0 a1 b1 a2 b2 true W hr0 hc0 hk).mono fun e W' ⟨he, bel⟩ => ?_
  subst he
  exact ⟨_, rfl, _, _, _, [], _, [], hW', trodAll_mk1 (shut_bool Try.underlying4 _), (trodAll_cons_mk (Below.trod laidOut (by kernel_rfl) (of_decide_eq_true (by kernel_rfl)) k0 bel lt0) (trodAll_cons_mk (Below.trod laidOut (by kernel_rfl) (of_decide_eq_true (by kernel_rfl)) k1 bel lt1) (trodAll_cons_mk (Below.trod laidOut (by kernel_rfl) (of_decide_eq_true (by kernel_rfl)) k2 bel lt2) trodAll_mk0))), rfl, bel.frame _, fun h => by cases h⟩
theorem over : Rows.posTellsRow.holds Try.pinned (OpenSpec.ofChange Rows.posTellsSpec) :=
  OpenClaim.holds_of_wide 5 Try.f5 rfl rfl rfl rfl rfl rfl rfl ⟨rfl, rfl, rfl, rfl, rfl⟩ rfl rfl rfl rfl rfl (by kernel_rfl) Try.func5 (by kernel_rfl)
    (of_decide_eq_true (by kernel_rfl)) (by unfold Func.isWrapper; first | (rw [if_pos (by decide +kernel)]; kernel_rfl) | (rw [if_neg (by decide +kernel)]; exact ⟨rfl, rfl⟩))
    (fun os started H enc _ => lifted os started H enc)
end Go.Proofs.Ytlakicaemkgejaa.posTells
namespace Go.Proofs.Ytlakicaemkgejaa
theorem posTells_holds : Rows.PosTellsSaid := posTells.over
#print axioms posTells_holds
end Go.Proofs.Ytlakicaemkgejaa
