/- For every table and position: what is on the branch of a table was on that of each beginning that has its epoch; what has been cut off stays cut off. No conditions. -/
import Derived.Test.YtlakicaemkgejaaRows
import Derived.Test.YtlakicaemkgejaaOpen
import Derived.Test.YtlakicaemkgejaaPureA
import Derived.Test.YtlakicaemkgejaaPureB
import Derived.Test.YtlakicaemkgejaaPAllx6
import Derived.WalkKit
import Derived.ProofKit
import Derived.OpenShut
import Derived.ShutString
import Derived.ChangeOld
import Derived.Below
import Derived.SizedLaws
namespace Go.Proofs.Ytlakicaemkgejaa.PAll
open Go.RowKit Go.Proofs.YtlakicaemkgejaaW.PrintWords Go.Proofs.YtlakicaemkgejaaW.PrintLast Go.Proofs.YtlakicaemkgejaaW.PrintMore
open Classical
set_option linter.unusedVariables false
set_option linter.unusedSimpArgs false
theorem posStays_l0 (l : List S32) (hr : RightP l) (e i : Int) (d : Nat) : ∀ n : Nat, 1 ≤ n → n + d = l.length + 1 → Ev (fun k => meridianlaw04_PosStays.l0 k l (decide (OnP l e i)) (n : Int) e i) true := by
  have hm := hr.most
  induction d with
  | zero =>
    intro n h1 hd
    have out : ∀ g : Nat → Option Bool, (∀ k, meridianlaw04_PosStays.l0 (k + 1) l (decide (OnP l e i)) (n : Int) e i = g k) → Ev g true → Ev (fun k => meridianlaw04_PosStays.l0 k l (decide (OnP l e i)) (n : Int) e i) true := fun g h1 h2 => Ev.step h1 h2
    by_cases hc : RightP l ∧ IsP l e i
    · obtain ⟨m, fb, c1, ⟨c2⟩⟩ := cut_f l hr e i hc.2
      have hn := hc.2.nonneg
      refine out _ (fun k => by simp only [meridianlaw04_PosStays.l0]; rw [if_neg (by omega)]) (Ev.bind c1 ?_)
      rcases c2 with ⟨rfl, rfl, c2⟩ | ⟨c2, c3, c4, c5, c6⟩
      · exact Ev.congr (f := fun _ => some true) (fun k => rfl) (Ev.now _)
      · have hno : ¬ OnP l e i := fun ho => absurd (ho.2.2 (m - 1).toNat (by omega) (by omega)) (by omega)
        rw [decide_eq_false hno]
        have c4' : (el l (m - 1).toNat).f1 < i := c4
        have he1 : 1 ≤ m - 1 := by
          rcases hc.2 with ⟨rfl, rfl⟩ | h
          · have := hr.cuts (m - 1).toNat (by omega); omega
          · omega
        refine Ev.congr (f := fun k => (pos_On.f k (l.take (m - 1).toNat) e i).bind fun t => some t) (fun k => ?_) ?_
        · simp only
          rw [if_neg (by omega), if_neg (by decide), if_pos (by omega), w64 (by omega) (by omega), if_pos (by omega), if_pos (by omega), rd_int l (by omega), if_pos c4', if_pos (by omega)]
        · refine Ev.bind (on_f _ e i) ?_
          rw [decide_eq_true (onP_take hr (m - 1).toNat (by omega) (by omega) (by omega) hc.2 (fun j j1 j2 => c6 j j1 (by omega)))]
          exact Ev.now _
    · refine out _ (fun k => by simp only [meridianlaw04_PosStays.l0]; rw [if_neg (by omega)]) (Ev.bind (cut_f_no l e i hc) ?_)
      exact Ev.congr (f := fun _ => some true) (fun k => rfl) (Ev.now _)
  | succ d ih =>
    intro n h1 hd
    have go := ih (n + 1) (by omega) (by omega)
    have hw : wrap64 ((n : Int) + 1) = ((n + 1 : Nat) : Int) := by rw [w64 (by omega) (by omega)]; omega
    by_cases he : e ≤ n
    · by_cases ho : OnP l e i
      · refine Ev.step (f := fun k => (pos_On.f k (l.take n) e i).bind fun t168 => (if t168 = true then (meridianlaw04_PosStays.l0 k l (decide (OnP l e i)) ((n + 1 : Nat) : Int) e i) else (some false))) (fun k => ?_) ?_
        · simp only [meridianlaw04_PosStays.l0]
          rw [if_pos (by omega), if_pos he, if_pos (decide_eq_true ho), if_pos (by omega), Int.toNat_natCast, hw]
        · refine Ev.bind (on_f _ e i) ?_
          rw [decide_eq_true (onP_take hr n h1 (by omega) he ho.2.1 (fun j j1 j2 => ho.2.2 j j1 (by omega)))]
          exact Ev.congr (fun k => if_pos rfl) go
      · refine Ev.step (fun k => ?_) go
        simp only [meridianlaw04_PosStays.l0]
        rw [if_pos (by omega), if_pos he, if_neg (by simp [ho]), hw]
    · refine Ev.step (fun k => ?_) go
      simp only [meridianlaw04_PosStays.l0]
      rw [if_pos (by omega), if_neg he, hw]

theorem posStays_pure (l : List S32) (e i : Int) : ∃ k, meridianlaw04_PosStays.f k l e i = some true := by
  apply Ev.rounds
  unfold meridianlaw04_PosStays.f
  refine bind_awake ?_
  refine Ev.bind (right_f l) ?_
  by_cases hr : RightP l
  · rw [decide_eq_true hr]
    refine Ev.congr (fun k => if_pos rfl) ?_
    refine Ev.bind (on_f l e i) ?_
    exact posStays_l0 l hr e i l.length 1 (Nat.le_refl _) (by omega)
  · rw [decide_eq_false hr]
    refine Ev.congr (f := fun k => (pos_On.f k l e i).bind fun t => some (!t)) (fun k => rfl) ?_
    refine Ev.bind (on_f l e i) ?_
    rw [decide_eq_false (fun g => hr g.1)]
    exact Ev.now _


end Go.Proofs.Ytlakicaemkgejaa.PAll
namespace Go.Proofs.Ytlakicaemkgejaa.posStays
open Go.ChangeShapes Go.WideShapes Go.ChangeAt Go.RowKit
open Go.Proofs.Ytlakicaemkgejaa.Open
set_option linter.unusedVariables false
set_option maxRecDepth 100000 in
theorem lifted (os : Os) (started : os.Started) (H : Type) (enc : TypeId × Value → H) :
    ReturnsInHanded {} Try.checked os 4 .any (Rows.posStaysSpec.pre6 enc Try.prog Try.f4 Rows.posStaysRow.domain false) (Rows.posStaysSpec.post enc Try.prog Try.f4 false true false false) := by
  refine returnsInHanded_of_change_sized (C := Try.checked) own started (by kernel_rfl) Try.func4
    (ChangeSpec.witness6 (enc := enc) (C := Try.checked) false ⟨#[], #[.slice none 0 0, .agg #[.int .i64 0, .int .i64 0]], []⟩ 8 (by kernel_rfl) (by kernel_rfl) (by kernel_rfl) (by kernel_rfl)) ?_
  intro W base args ds gs before hval0 hW hcnd hsz0 _
  have hsz : (DataW.weightsEach Try.prog (Try.f4.params.toList ++ Rows.posStaysSpec.plain.varTypes Try.prog) (ds ++ gs)).all (· ≤ reachBytes) = true := hsz0
  have hval : ∀ (j : Nat) t v, Try.f4.params[j]? = some t → args[j]? = some v → Value.okWide Try.prog W .any base t v := hval0
  have hW' := hW
  obtain ⟨p, q, hA0, hV, rfl, hfz, hnd⟩ := hW
  have hA : DataW.TrodAll enc Try.prog W 0 (fun _ => true) true Try.f4.params.toList args.toList ds p := hA0
  rw [Try.params4] at hA hval hsz
  obtain ⟨v0, vs0, d0, ds0, p0, q0, hargs, rfl, rfl, h0, r0⟩ := trodAll_cons hA
  obtain ⟨v1, vs1, d1, ds1, p1, q1, rfl, rfl, rfl, h1, r1⟩ := trodAll_cons r0
  obtain ⟨rfl, rfl, rfl⟩ := trodAll_nil r1
  obtain rfl : args = #[v0, v1] := by cases args; simp_all
  obtain ⟨rfl, rfl⟩ := trodVars_none hV
  have k0 := h0
  have lt0 := places h0
  obtain ⟨A0, c0, l0, rfl, hr0, hc0, hl0, we0⟩ := open_epochs (j := 0) hsz rfl rfl (hval 0 22 v0 rfl rfl) h0
  have k1 := h1
  have lt1 := places h1
  obtain ⟨a1, b1, rfl, wa1, wb1⟩ := open_pos (hval 1 26 v1 rfl rfl) h1
  clear hA0 hval0 hsz0 hsz
  obtain ⟨k, hk⟩ := PAll.posStays_pure l0 a1 b1
  refine (PAll.meridianlaw04_PosStays.calls k _ _ l0 a1 b1 true W hr0 hc0 hk).mono fun e W' ⟨he, bel⟩ => ?_
  subst he
  exact ⟨_, rfl, _, _, _, [], _, [], hW', trodAll_mk1 (shut_bool Try.underlying4 _), (trodAll_cons_mk (Below.trod laidOut (by kernel_rfl) (of_decide_eq_true (by kernel_rfl)) k0 bel lt0) (trodAll_cons_mk (Below.trod laidOut (by kernel_rfl) (of_decide_eq_true (by kernel_rfl)) k1 bel lt1) trodAll_mk0)), rfl, bel.frame _, fun h => by cases h⟩
theorem over : Rows.posStaysRow.holds Try.pinned (OpenSpec.ofChange Rows.posStaysSpec) :=
  OpenClaim.holds_of_wide 4 Try.f4 rfl rfl rfl rfl rfl rfl rfl ⟨rfl, rfl, rfl, rfl, rfl⟩ rfl rfl rfl rfl rfl (by kernel_rfl) Try.func4 (by kernel_rfl)
    (of_decide_eq_true (by kernel_rfl)) (by unfold Func.isWrapper; first | (rw [if_pos (by decide +kernel)]; kernel_rfl) | (rw [if_neg (by decide +kernel)]; exact ⟨rfl, rfl⟩))
    (fun os started H enc _ => lifted os started H enc)
end Go.Proofs.Ytlakicaemkgejaa.posStays
namespace Go.Proofs.Ytlakicaemkgejaa
theorem posStays_holds : Rows.PosStaysSaid := posStays.over
#print axioms posStays_holds
end Go.Proofs.Ytlakicaemkgejaa
