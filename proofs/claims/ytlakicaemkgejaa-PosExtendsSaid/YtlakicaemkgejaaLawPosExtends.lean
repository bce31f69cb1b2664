/- For every two tables: which goes on with which is told as the reference tells it. No conditions. -/
import Derived.Test.YtlakicaemkgejaaRows
import Derived.Test.YtlakicaemkgejaaOpen
import Derived.Test.YtlakicaemkgejaaPureB
import Derived.Test.YtlakicaemkgejaaPureD
import Derived.Test.YtlakicaemkgejaaPAllx15
import Derived.WalkKit
import Derived.ProofKit
import Derived.OpenShut
import Derived.ShutString
import Derived.ChangeOld
import Derived.Below
import Derived.SizedLaws
namespace Go.Proofs.Ytlakicaemkgejaa.PAll
open Go.RowKit Go.Proofs.YtlakicaemkgejaaW.PrintWords Go.Proofs.YtlakicaemkgejaaW.PrintLast Go.Proofs.YtlakicaemkgejaaW.PrintMore
open Classical
set_option linter.unusedVariables false
set_option linter.unusedSimpArgs false
def same_ (a b : S32) : Prop := a.f0 = b.f0 ∧ a.f1 = b.f1 ∧ a.f2 = b.f2
theorem same_test (a b : S32) : (!(a.f0 == b.f0) || (!(a.f1 == b.f1) || (!(a.f2 == b.f2)))) = !decide (same_ a b) := by
  unfold same_
  by_cases h0 : a.f0 = b.f0 <;> by_cases h1 : a.f1 = b.f1 <;> by_cases h2 : a.f2 = b.f2 <;> simp [h0, h1, h2]
theorem extends_l0 (l u : List S32) (hl : l.length ≤ u.length) (hu : u.length ≤ 1000) (d : Nat) : ∀ x : Nat, x + d = l.length → ∃ r, Ev (fun k => pos_Extends.l0 k u l (l.length : Int) (x : Int)) r ∧ Ev (fun k => meridianref04_Extends.l0 k l u (x : Int)) r ∧ (l = u → r = true) := by
  induction d with
  | zero =>
    intro x hd
    refine ⟨true, Ev.step (f := fun _ => some true) (fun k => ?_) (Ev.now _), Ev.step (f := fun _ => some true) (fun k => ?_) (Ev.now _), fun _ => rfl⟩
    · simp only [pos_Extends.l0]; rw [if_neg (by omega)]
    · simp only [meridianref04_Extends.l0]; rw [if_neg (by omega)]
  | succ d ih =>
    intro x hd
    have hw : wrap64 ((x : Int) + 1) = ((x + 1 : Nat) : Int) := by rw [w64 (by omega) (by omega)]; omega
    by_cases hs : same_ (el l x) (el u x)
    · obtain ⟨r, g1, g2, g3⟩ := ih (x + 1) (by omega)
      refine ⟨r, Ev.step (fun k => ?_) g1, Ev.step (fun k => ?_) g2, g3⟩
      · simp only [pos_Extends.l0]
        rw [if_pos (by omega), if_pos (by omega), if_pos (by omega), if_pos (by omega), rd_nat, rd_nat, same_test, decide_eq_true hs, if_neg (by decide), hw]
      · simp only [meridianref04_Extends.l0]
        rw [if_pos (by omega), if_pos (by omega), if_pos (by omega), rd_nat, rd_nat, same_test, decide_eq_true hs, if_neg (by decide), hw]
    · refine ⟨false, Ev.step (f := fun _ => some false) (fun k => ?_) (Ev.now _), Ev.step (f := fun _ => some false) (fun k => ?_) (Ev.now _), fun h => absurd (by subst h; exact ⟨rfl, rfl, rfl⟩) hs⟩
      · simp only [pos_Extends.l0]
        rw [if_pos (by omega), if_pos (by omega), if_pos (by omega), if_pos (by omega), rd_nat, rd_nat, same_test, decide_eq_false hs, if_pos (by decide)]
      · simp only [meridianref04_Extends.l0]
        rw [if_pos (by omega), if_pos (by omega), if_pos (by omega), rd_nat, rd_nat, same_test, decide_eq_false hs, if_pos (by decide)]

theorem extends_both (l u : List S32) (hl : l.length ≤ 1000000000000000) (hu : u.length ≤ 1000000000000000) : ∃ r, Ev (fun k => pos_Extends.f k l u) r ∧ Ev (fun k => meridianref04_Extends.f k l u) r ∧ (l = u → r = decide (RightP l)) := by
  have no1 : Ev (fun k => pos_Extends.j0 k l u true) false := Ev.step (f := fun _ => some false) (fun k => by simp only [pos_Extends.j0]; rfl) (Ev.now _)
  have no2 : Ev (fun k => meridianref04_Extends.j0 k l u true) false := Ev.step (f := fun _ => some false) (fun k => by simp only [meridianref04_Extends.j0]; rfl) (Ev.now _)
  unfold pos_Extends.f meridianref04_Extends.f
  by_cases h1 : RightP l
  rotate_left
  · refine ⟨false, Ev.bind (right_f l) ?_, Ev.bind (ref_right_f l hl) ?_, fun _ => (decide_eq_false h1).symm⟩
    · rw [decide_eq_false h1]; exact Ev.congr (fun k => if_neg (by decide)) no1
    · rw [decide_eq_false h1]; exact Ev.congr (fun k => if_neg (by decide)) no2
  by_cases h2 : RightP u
  rotate_left
  · refine ⟨false, Ev.bind (right_f l) ?_, Ev.bind (ref_right_f l hl) ?_, fun h => absurd (h ▸ h1) h2⟩
    · rw [decide_eq_true h1]; refine Ev.congr (fun k => if_pos rfl) (Ev.bind (right_f u) ?_)
      rw [decide_eq_false h2]; exact Ev.congr (fun k => if_neg (by decide)) no1
    · rw [decide_eq_true h1]; refine Ev.congr (fun k => if_pos rfl) (Ev.bind (ref_right_f u hu) ?_)
      rw [decide_eq_false h2]; exact Ev.congr (fun k => if_neg (by decide)) no2
  have main : ∃ r, Ev (fun k => pos_Extends.j0 k l u (decide ((l.length : Int) > (u.length : Int)))) r ∧ Ev (fun k => meridianref04_Extends.j0 k l u (decide ((u.length : Int) < (l.length : Int)))) r ∧ (l = u → r = decide (RightP l)) := by
    by_cases h3 : (u.length : Int) < (l.length : Int)
    · rw [show decide ((l.length : Int) > (u.length : Int)) = true from decide_eq_true h3]
      exact ⟨false, no1, no2, fun h => by rw [h] at h3; omega⟩
    · rw [show decide ((l.length : Int) > (u.length : Int)) = false from decide_eq_false h3]
      obtain ⟨r, g1, g2, g3⟩ := extends_l0 l u (by omega) (by have := h2.most; omega) l.length 0 (by omega)
      refine ⟨r, Ev.step (fun k => by simp only [pos_Extends.j0]; exact if_neg (by decide)) g1, Ev.step (fun k => by simp only [meridianref04_Extends.j0]; exact if_neg (by decide)) g2, fun h => by rw [g3 h, decide_eq_true h1]⟩
  obtain ⟨r, m1, m2, m3⟩ := main
  refine ⟨r, Ev.bind (right_f l) ?_, Ev.bind (ref_right_f l hl) ?_, m3⟩
  · rw [decide_eq_true h1]; refine Ev.congr (fun k => if_pos rfl) (Ev.bind (right_f u) ?_)
    rw [decide_eq_true h2]; exact Ev.congr (fun k => if_pos rfl) m1
  · rw [decide_eq_true h1]; refine Ev.congr (fun k => if_pos rfl) (Ev.bind (ref_right_f u hu) ?_)
    rw [decide_eq_true h2]; exact Ev.congr (fun k => if_pos rfl) m2

theorem posExtends_pure (l u : List S32) (hl : l.length * 24 ≤ 140737488351232) (hu : u.length * 24 ≤ 140737488351232) : ∃ k, meridianlaw04_PosExtends.f k l u = some true := by
  apply Ev.rounds
  unfold meridianlaw04_PosExtends.f
  refine bind_awake ?_
  obtain ⟨r, p, q, _⟩ := extends_both l u (by omega) (by omega)
  obtain ⟨s, p', _, h⟩ := extends_both l l (by omega) (by omega)
  refine Ev.bind p (Ev.bind q ?_)
  refine Ev.congr (fun k => if_pos (by simp)) ?_
  refine Ev.bind p' (Ev.bind (right_f l) ?_)
  rw [h rfl]
  simp only [beq_self_eq_true]
  exact Ev.now _

end Go.Proofs.Ytlakicaemkgejaa.PAll
namespace Go.Proofs.Ytlakicaemkgejaa.posExtends
open Go.ChangeShapes Go.WideShapes Go.ChangeAt Go.RowKit
open Go.Proofs.Ytlakicaemkgejaa.Open
set_option linter.unusedVariables false
set_option maxRecDepth 100000 in
theorem lifted (os : Os) (started : os.Started) (H : Type) (enc : TypeId × Value → H) :
    ReturnsInHanded {} Try.checked os 9 .any (Rows.posExtendsSpec.pre6 enc Try.prog Try.f9 Rows.posExtendsRow.domain false) (Rows.posExtendsSpec.post enc Try.prog Try.f9 false true false false) := by
  refine returnsInHanded_of_change_sized (C := Try.checked) own started (by kernel_rfl) Try.func9
    (ChangeSpec.witness6 (enc := enc) (C := Try.checked) false ⟨#[], #[.slice none 0 0, .slice none 0 0], []⟩ 8 (by kernel_rfl) (by kernel_rfl) (by kernel_rfl) (by kernel_rfl)) ?_
  intro W base args ds gs before hval0 hW hcnd hsz0 _
  have hsz : (DataW.weightsEach Try.prog (Try.f9.params.toList ++ Rows.posExtendsSpec.plain.varTypes Try.prog) (ds ++ gs)).all (· ≤ reachBytes) = true := hsz0
  have hval : ∀ (j : Nat) t v, Try.f9.params[j]? = some t → args[j]? = some v → Value.okWide Try.prog W .any base t v := hval0
  have hW' := hW
  obtain ⟨p, q, hA0, hV, rfl, hfz, hnd⟩ := hW
  have hA : DataW.TrodAll enc Try.prog W 0 (fun _ => true) true Try.f9.params.toList args.toList ds p := hA0
  rw [Try.params9] at hA hval hsz
  obtain ⟨v0, vs0, d0, ds0, p0, q0, hargs, rfl, rfl, h0, r0⟩ := trodAll_cons hA
  obtain ⟨v1, vs1, d1, ds1, p1, q1, rfl, rfl, rfl, h1, r1⟩ := trodAll_cons r0
  obtain ⟨rfl, rfl, rfl⟩ := trodAll_nil r1
  obtain rfl : args = #[v0, v1] := by cases args; simp_all
  obtain ⟨rfl, rfl⟩ := trodVars_none hV
  have k0 := h0
  have lt0 := places h0
  obtain ⟨A0, c0, l0, rfl, hr0, hc0, hl0, we0⟩ := open_epochs (j := 0) hsz rfl rfl (hval 0 22 v0 rfl rfl) h0
  have k1 := h1
  have lt1 := places h1
  obtain ⟨A1, c1, l1, rfl, hr1, hc1, hl1, we1⟩ := open_epochs (j := 1) hsz rfl rfl (hval 1 22 v1 rfl rfl) h1
  clear hA0 hval0 hsz0 hsz
  obtain ⟨k, hk⟩ := PAll.posExtends_pure l0 l1 hl0 hl1
  refine (PAll.meridianlaw04_PosExtends.calls k _ _ l0 _ _ l1 true W hr0 hc0 hr1 hc1 hk).mono fun e W' ⟨he, bel⟩ => ?_
  subst he
  exact ⟨_, rfl, _, _, _, [], _, [], hW', trodAll_mk1 (shut_bool Try.underlying4 _), (trodAll_cons_mk (Below.trod laidOut (by kernel_rfl) (of_decide_eq_true (by kernel_rfl)) k0 bel lt0) (trodAll_cons_mk (Below.trod laidOut (by kernel_rfl) (of_decide_eq_true (by kernel_rfl)) k1 bel lt1) trodAll_mk0)), rfl, bel.frame _, fun h => by cases h⟩
theorem over : Rows.posExtendsRow.holds Try.pinned (OpenSpec.ofChange Rows.posExtendsSpec) :=
  OpenClaim.holds_of_wide 9 Try.f9 rfl rfl rfl rfl rfl rfl rfl ⟨rfl, rfl, rfl, rfl, rfl⟩ rfl rfl rfl rfl rfl (by kernel_rfl) Try.func9 (by kernel_rfl)
    (of_decide_eq_true (by kernel_rfl)) (by unfold Func.isWrapper; first | (rw [if_pos (by decide +kernel)]; kernel_rfl) | (rw [if_neg (by decide +kernel)]; exact ⟨rfl, rfl⟩))
    (fun os started H enc _ => lifted os started H enc)
end Go.Proofs.Ytlakicaemkgejaa.posExtends
namespace Go.Proofs.Ytlakicaemkgejaa
theorem posExtends_holds : Rows.PosExtendsSaid := posExtends.over
#print axioms posExtends_holds
end Go.Proofs.Ytlakicaemkgejaa
