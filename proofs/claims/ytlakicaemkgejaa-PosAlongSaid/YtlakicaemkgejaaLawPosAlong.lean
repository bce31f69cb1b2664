/- For every table and two numbers: along the branch of a right table each index has one position, epochs do not fall, and what is further covers what is not. No conditions. -/
import Derived.Test.YtlakicaemkgejaaRows
import Derived.Test.YtlakicaemkgejaaOpen
import Derived.Test.YtlakicaemkgejaaPureA
import Derived.Test.YtlakicaemkgejaaPureB
import Derived.Test.YtlakicaemkgejaaPureC
import Derived.Test.YtlakicaemkgejaaPAllx14
import Derived.WalkKit
import Derived.ProofKit
import Derived.OpenShut
import Derived.ShutString
import Derived.ChangeOld
import Derived.Below
import Derived.SizedLaws
namespace Go.Proofs.Ytlakicaemkgejaa.PAll
open Go.RowKit Go.Proofs.YtlakicaemkgejaaW.PrintWords Go.Proofs.YtlakicaemkgejaaW.PrintLast Go.Proofs.YtlakicaemkgejaaW.PrintMore
open Classical
set_option linter.unusedVariables false
set_option linter.unusedSimpArgs false
theorem posAlong_pure (l : List S32) (i j : Int) : ∃ k, meridianlaw04_PosAlong.f k l i j = some true := by
  apply Ev.rounds
  unfold meridianlaw04_PosAlong.f
  refine bind_awake ?_
  refine Ev.bind (right_f l) ?_
  have yes : Ev (fun k => meridianlaw04_PosAlong.j0 k l i j true) true := Ev.step (f := fun _ => some true) (fun k => by simp only [meridianlaw04_PosAlong.j0]; rfl) (Ev.now _)
  by_cases hr : RightP l
  · rw [decide_eq_true hr]
    refine Ev.congr (fun k => if_pos rfl) ?_
    by_cases h1 : i < 1
    · exact Ev.congr (fun k => if_pos h1) yes
    refine Ev.congr (fun k => if_neg h1) ?_
    by_cases h2 : j < i
    · exact Ev.congr (fun k => if_pos h2) yes
    refine Ev.congr (fun k => if_neg h2) ?_
    by_cases h3 : j > 512
    · rw [decide_eq_true h3]; exact yes
    rw [decide_eq_false h3]
    obtain ⟨a, ha1, ha2⟩ := at_f l hr i (by omega) (by omega)
    obtain ⟨b, hb1, hb2⟩ := at_f l hr j (by omega) (by omega)
    refine Ev.step (fun k => by simp only [meridianlaw04_PosAlong.j0]; exact if_neg (by decide)) ?_
    refine Ev.bind ha1 ?_
    refine Ev.bind hb1 ?_
    have hab : a ≤ b := by
      rcases Int.lt_or_le b a with h | h
      · have := hb2.lo; have := ha2.lo; have := ha2.hi
        exact absurd (hb2.rest (a - 1).toNat (by omega) (by omega)) (by have := ha2.cut; omega)
      · exact h
    refine Ev.congr (f := fun k => ((pos_Covers.f k l b j a i).bind fun t303 => (if t303 = true then ((pos_Covers.f k l a i b j).bind fun t304 => (some (t304 == (i == j)))) else (some false)))) (fun k => ?_) ?_
    · simp only
      rw [if_pos trivial, if_pos trivial, if_pos hab, if_pos ha2.lo, if_pos hb2.hi]
    have oa := onP_at hr ha2 (by omega)
    have ob := onP_at hr hb2 (by omega)
    refine Ev.bind (covers_f l b j a i) ?_
    rw [decide_eq_true ⟨ob, oa, by omega⟩]
    refine Ev.congr (fun k => if_pos rfl) ?_
    refine Ev.bind (covers_f l a i b j) ?_
    have : (decide (OnP l a i ∧ OnP l b j ∧ j ≤ i) == (i == j)) = true := by
      by_cases e : i = j
      · subst e
        have := ha2.same hb2
        rw [decide_eq_true ⟨oa, ob, Int.le_refl _⟩]; simp
      · rw [decide_eq_false (by rintro ⟨_, _, h⟩; omega)]; simp [e]
    rw [this]
    exact Ev.now _
  · rw [decide_eq_false hr]
    exact Ev.congr (f := fun k => meridianlaw04_PosAlong.j0 k l i j true) (fun k => rfl) yes


end Go.Proofs.Ytlakicaemkgejaa.PAll
namespace Go.Proofs.Ytlakicaemkgejaa.posAlong
open Go.ChangeShapes Go.WideShapes Go.ChangeAt Go.RowKit
open Go.Proofs.Ytlakicaemkgejaa.Open
set_option linter.unusedVariables false
set_option maxRecDepth 100000 in
theorem lifted (os : Os) (started : os.Started) (H : Type) (enc : TypeId × Value → H) :
    ReturnsInHanded {} Try.checked os 8 .any (Rows.posAlongSpec.pre6 enc Try.prog Try.f8 Rows.posAlongRow.domain false) (Rows.posAlongSpec.post enc Try.prog Try.f8 false true false false) := by
  refine returnsInHanded_of_change_sized (C := Try.checked) own started (by kernel_rfl) Try.func8
    (ChangeSpec.witness6 (enc := enc) (C := Try.checked) false ⟨#[], #[.slice none 0 0, .int .i64 0, .int .i64 0], []⟩ 8 (by kernel_rfl) (by kernel_rfl) (by kernel_rfl) (by kernel_rfl)) ?_
  intro W base args ds gs before hval0 hW hcnd hsz0 _
  have hsz : (DataW.weightsEach Try.prog (Try.f8.params.toList ++ Rows.posAlongSpec.plain.varTypes Try.prog) (ds ++ gs)).all (· ≤ reachBytes) = true := hsz0
  have hval : ∀ (j : Nat) t v, Try.f8.params[j]? = some t → args[j]? = some v → Value.okWide Try.prog W .any base t v := hval0
  have hW' := hW
  obtain ⟨p, q, hA0, hV, rfl, hfz, hnd⟩ := hW
  have hA : DataW.TrodAll enc Try.prog W 0 (fun _ => true) true Try.f8.params.toList args.toList ds p := hA0
  rw [Try.params8] at hA hval hsz
  obtain ⟨v0, vs0, d0, ds0, p0, q0, hargs, rfl, rfl, h0, r0⟩ := trodAll_cons hA
  obtain ⟨v1, vs1, d1, ds1, p1, q1, rfl, rfl, rfl, h1, r1⟩ := trodAll_cons r0
  obtain ⟨v2, vs2, d2, ds2, p2, q2, rfl, rfl, rfl, h2, r2⟩ := trodAll_cons r1
  obtain ⟨rfl, rfl, rfl⟩ := trodAll_nil r2
  obtain rfl : args = #[v0, v1, v2] := by cases args; simp_all
  obtain ⟨rfl, rfl⟩ := trodVars_none hV
  have k0 := h0
  have lt0 := places h0
  obtain ⟨A0, c0, l0, rfl, hr0, hc0, hl0, we0⟩ := open_epochs (j := 0) hsz rfl rfl (hval 0 22 v0 rfl rfl) h0
  have k1 := h1
  have lt1 := places h1
  obtain ⟨a1, rfl, rfl, rfl, wa1⟩ := open_int Try.underlying3 (hval 1 3 v1 rfl rfl) h1
  have k2 := h2
  have lt2 := places h2
  obtain ⟨a2, rfl, rfl, rfl, wa2⟩ := open_int Try.underlying3 (hval 2 3 v2 rfl rfl) h2
  clear hA0 hval0 hsz0 hsz
  obtain ⟨k, hk⟩ := PAll.posAlong_pure l0 a1 a2
  refine (PAll.meridianlaw04_PosAlong.calls k _ _ l0 a1 a2 true W hr0 hc0 hk).mono fun e W' ⟨he, bel⟩ => ?_
  subst he
  exact ⟨_, rfl, _, _, _, [], _, [], hW', trodAll_mk1 (shut_bool Try.underlying4 _), (trodAll_cons_mk (Below.trod laidOut (by kernel_rfl) (of_decide_eq_true (by kernel_rfl)) k0 bel lt0) (trodAll_cons_mk (Below.trod laidOut (by kernel_rfl) (of_decide_eq_true (by kernel_rfl)) k1 bel lt1) (trodAll_cons_mk (Below.trod laidOut (by kernel_rfl) (of_decide_eq_true (by kernel_rfl)) k2 bel lt2) trodAll_mk0))), rfl, bel.frame _, fun h => by cases h⟩
theorem over : Rows.posAlongRow.holds Try.pinned (OpenSpec.ofChange Rows.posAlongSpec) :=
  OpenClaim.holds_of_wide 8 Try.f8 rfl rfl rfl rfl rfl rfl rfl ⟨rfl, rfl, rfl, rfl, rfl⟩ rfl rfl rfl rfl rfl (by kernel_rfl) Try.func8 (by kernel_rfl)
    (of_decide_eq_true (by kernel_rfl)) (by unfold Func.isWrapper; first | (rw [if_pos (by decide +kernel)]; kernel_rfl) | (rw [if_neg (by decide +kernel)]; exact ⟨rfl, rfl⟩))
    (fun os started H enc _ => lifted os started H enc)
end Go.Proofs.Ytlakicaemkgejaa.posAlong
namespace Go.Proofs.Ytlakicaemkgejaa
theorem posAlong_holds : Rows.PosAlongSaid := posAlong.over
#print axioms posAlong_holds
end Go.Proofs.Ytlakicaemkgejaa
