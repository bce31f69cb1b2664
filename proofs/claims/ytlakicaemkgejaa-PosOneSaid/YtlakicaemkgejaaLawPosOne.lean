/- For every table: of each index just one position is on the branch, and along it epochs do not fall. No conditions. -/
import Derived.Test.YtlakicaemkgejaaRows
import Derived.Test.YtlakicaemkgejaaOpen
import Derived.Test.YtlakicaemkgejaaPureA
import Derived.Test.YtlakicaemkgejaaPureB
import Derived.Test.YtlakicaemkgejaaPAllx5
import Derived.WalkKit
import Derived.ProofKit
import Derived.OpenShut
import Derived.ShutString
import Derived.ChangeOld
import Derived.Below
import Derived.SizedLaws
namespace Go.Proofs.Ytlakicaemkgejaa.PAll
open Go.RowKit Go.Proofs.YtlakicaemkgejaaW.PrintWords Go.Proofs.YtlakicaemkgejaaW.PrintLast Go.Proofs.YtlakicaemkgejaaW.PrintMore
open Classical
set_option linter.unusedVariables false
set_option linter.unusedSimpArgs false
theorem posOne_l1 (l : List S32) (hr : RightP l) (e i : Int) (ha : AtR l i e) (h2 : i ≤ 512) (hnext : Ev (fun k => meridianlaw04_PosOne.l0 k l e (i + 1)) true) (d : Nat) : ∀ n : Nat, 1 ≤ n → n + d = l.length + 1 →
    Ev (fun k => meridianlaw04_PosOne.l1 k l e i (n : Int) e i) true := by
  have hm := hr.most
  have hp := ha.pos hr
  have hw2 : wrap64 (i + 1) = i + 1 := w64 (by omega) (by omega)
  have leave : Ev (fun k => meridianlaw04_PosOne.j3 k l e i (0 : Int) false e i) true → True := fun _ => trivial
  induction d with
  | zero =>
    intro n h1 hd
    refine Ev.step (f := fun k => meridianlaw04_PosOne.j3 k l e i (n : Int) false e i) (fun k => ?_) ?_
    · simp only [meridianlaw04_PosOne.l1]; rw [if_neg (by omega)]
    · refine Ev.step (fun k => ?_) hnext
      simp only [meridianlaw04_PosOne.j3]; rw [if_neg (by decide), hw2]
  | succ d ih =>
    intro n h1 hd
    have go := ih (n + 1) (by omega) (by omega)
    have hw : wrap64 ((n : Int) + 1) = ((n + 1 : Nat) : Int) := by rw [w64 (by omega) (by omega)]; omega
    refine Ev.step (f := fun k => meridianlaw04_PosOne.j3 k l e i (n : Int) ((Int.tmod i 16) == 1) e i) (fun k => ?_) ?_
    · simp only [meridianlaw04_PosOne.l1]; rw [if_pos (by omega)]
    · cases (Int.tmod i 16) == 1 with
      | false =>
        refine Ev.step (fun k => ?_) hnext
        simp only [meridianlaw04_PosOne.j3]; rw [if_neg (by decide), hw2]
      | true =>
        by_cases hne : (n : Int) = e
        · refine Ev.step (fun k => ?_) go
          simp only [meridianlaw04_PosOne.j3]; rw [if_pos trivial, if_pos hne, hw]
        · refine Ev.step (f := fun k => (pos_On.f k l n i).bind fun t158 => (if t158 = true then (some false) else (meridianlaw04_PosOne.l1 k l e i ((n + 1 : Nat) : Int) e i))) (fun k => ?_) ?_
          · simp only [meridianlaw04_PosOne.j3]; rw [if_pos trivial, if_neg hne, hw]
          · refine Ev.bind (on_f l n i) ?_
            rw [decide_eq_false]
            · exact Ev.congr (fun k => if_neg (by decide)) go
            · intro ho
              rcases ho.cases with h | h
              · omega
              · exact hne (h.1.same ha)

theorem posOne_l0 (l : List S32) (hr : RightP l) (d : Nat) : ∀ (i : Nat) (last : Int), 1 ≤ i → i + d = 513 → (∀ e, AtR l i e → last ≤ e) → Ev (fun k => meridianlaw04_PosOne.l0 k l last (i : Int)) true := by
  induction d with
  | zero =>
    intro i last h1 hd hlast
    refine Ev.step (f := fun k => (pos_At.f k l 0).bind fun bt150 => (if (bt150.1 == 0 && (bt150.2 == 0)) = true then ((pos_At.f k l 513).bind fun bt152 => (some (bt152.1 == 0 && (bt152.2 == 0)))) else (some false))) (fun k => ?_) ?_
    · simp only [meridianlaw04_PosOne.l0]; rw [if_neg (by omega)]
    · refine Ev.bind (at_f_no l 0 (by omega)) ?_
      refine Ev.congr (f := fun k => (pos_At.f k l 513).bind fun bt152 => (some (bt152.1 == 0 && (bt152.2 == 0)))) (fun k => rfl) ?_
      refine Ev.bind (at_f_no l 513 (by omega)) ?_
      exact Ev.now _
  | succ d ih =>
    intro i last h1 hd hlast
    obtain ⟨e, e1, e2⟩ := at_f l hr i (by omega) (by omega)
    refine Ev.step (fun k => by simp only [meridianlaw04_PosOne.l0]; exact if_pos (by omega)) (Ev.bind e1 ?_)
    refine Ev.congr (fun k => if_pos rfl) ?_
    refine Ev.bind (on_f l e i) ?_
    rw [decide_eq_true (onP_at hr e2 (by omega))]
    refine Ev.congr (f := fun k => meridianlaw04_PosOne.j1 k l (i : Int) false e i) (fun k => ?_) ?_
    · simp only
      rw [if_pos trivial, decide_eq_false (by have := hlast e e2; omega)]
    · refine Ev.step (fun k => by simp only [meridianlaw04_PosOne.j1]; exact if_neg (by decide)) ?_
      refine posOne_l1 l hr e i e2 (by omega) ?_ l.length 1 (Nat.le_refl _) (by omega)
      refine ih (i + 1) e (by omega) (by omega) (fun e' h' => ?_)
      rcases Int.lt_or_le e' e with h | h
      · have := h'.lo; have := e2.lo; have := e2.hi
        exact absurd (h'.rest (e - 1).toNat (by omega) (by omega)) (by have := e2.cut; omega)
      · exact h

theorem posOne_pure (l : List S32) : ∃ k, meridianlaw04_PosOne.f k l = some true := by
  apply Ev.rounds
  unfold meridianlaw04_PosOne.f
  refine bind_awake ?_
  refine Ev.bind (right_f l) ?_
  by_cases hr : RightP l
  · rw [decide_eq_true hr]
    refine Ev.congr (fun k => if_pos rfl) ?_
    exact posOne_l0 l hr 512 1 0 (Nat.le_refl _) (by omega) (fun e h => by have := h.lo; omega)
  · rw [decide_eq_false hr]
    refine Ev.congr (fun k => if_neg (by decide)) ?_
    refine Ev.bind (at_f_no l 1 (fun g => hr g.1)) ?_
    refine Ev.congr (f := fun k => (pos_On.f k l 0 0).bind fun t => some (!t)) (fun k => rfl) ?_
    refine Ev.bind (on_f l 0 0) ?_
    rw [decide_eq_false (fun g => hr g.1)]
    exact Ev.now _

end Go.Proofs.Ytlakicaemkgejaa.PAll
namespace Go.Proofs.Ytlakicaemkgejaa.posOne
open Go.ChangeShapes Go.WideShapes Go.ChangeAt Go.RowKit
open Go.Proofs.Ytlakicaemkgejaa.Open
set_option linter.unusedVariables false
set_option maxRecDepth 100000 in
theorem lifted (os : Os) (started : os.Started) (H : Type) (enc : TypeId × Value → H) :
    ReturnsInHanded {} Try.checked os 3 .any (Rows.posOneSpec.pre6 enc Try.prog Try.f3 Rows.posOneRow.domain false) (Rows.posOneSpec.post enc Try.prog Try.f3 false true false false) := by
  refine returnsInHanded_of_change_sized (C := Try.checked) own started (by kernel_rfl) Try.func3
    (ChangeSpec.witness6 (enc := enc) (C := Try.checked) false ⟨#[], #[.slice none 0 0], []⟩ 8 (by kernel_rfl) (by kernel_rfl) (by kernel_rfl) (by kernel_rfl)) ?_
  intro W base args ds gs before hval0 hW hcnd hsz0 _
  have hsz : (DataW.weightsEach Try.prog (Try.f3.params.toList ++ Rows.posOneSpec.plain.varTypes Try.prog) (ds ++ gs)).all (· ≤ reachBytes) = true := hsz0
  have hval : ∀ (j : Nat) t v, Try.f3.params[j]? = some t → args[j]? = some v → Value.okWide Try.prog W .any base t v := hval0
  have hW' := hW
  obtain ⟨p, q, hA0, hV, rfl, hfz, hnd⟩ := hW
  have hA : DataW.TrodAll enc Try.prog W 0 (fun _ => true) true Try.f3.params.toList args.toList ds p := hA0
  rw [Try.params3] at hA hval hsz
  obtain ⟨v0, vs0, d0, ds0, p0, q0, hargs, rfl, rfl, h0, r0⟩ := trodAll_cons hA
  obtain ⟨rfl, rfl, rfl⟩ := trodAll_nil r0
  obtain rfl : args = #[v0] := by cases args; simp_all
  obtain ⟨rfl, rfl⟩ := trodVars_none hV
  have k0 := h0
  have lt0 := places h0
  obtain ⟨A0, c0, l0, rfl, hr0, hc0, hl0, we0⟩ := open_epochs (j := 0) hsz rfl rfl (hval 0 22 v0 rfl rfl) h0
  clear hA0 hval0 hsz0 hsz
  obtain ⟨k, hk⟩ := PAll.posOne_pure l0
  refine (PAll.meridianlaw04_PosOne.calls k _ _ l0 true W hr0 hc0 hk).mono fun e W' ⟨he, bel⟩ => ?_
  subst he
  exact ⟨_, rfl, _, _, _, [], _, [], hW', trodAll_mk1 (shut_bool Try.underlying4 _), (trodAll_cons_mk (Below.trod laidOut (by kernel_rfl) (of_decide_eq_true (by kernel_rfl)) k0 bel lt0) trodAll_mk0), rfl, bel.frame _, fun h => by cases h⟩
theorem over : Rows.posOneRow.holds Try.pinned (OpenSpec.ofChange Rows.posOneSpec) :=
  OpenClaim.holds_of_wide 3 Try.f3 rfl rfl rfl rfl rfl rfl rfl ⟨rfl, rfl, rfl, rfl, rfl⟩ rfl rfl rfl rfl rfl (by kernel_rfl) Try.func3 (by kernel_rfl)
    (of_decide_eq_true (by kernel_rfl)) (by unfold Func.isWrapper; first | (rw [if_pos (by decide +kernel)]; kernel_rfl) | (rw [if_neg (by decide +kernel)]; exact ⟨rfl, rfl⟩))
    (fun os started H enc _ => lifted os started H enc)
end Go.Proofs.Ytlakicaemkgejaa.posOne
namespace Go.Proofs.Ytlakicaemkgejaa
theorem posOne_holds : Rows.PosOneSaid := posOne.over
#print axioms posOne_holds
end Go.Proofs.Ytlakicaemkgejaa
