/- For every table and position: it is on the branch just if it covers itself, just if it is its own Base and nothing cuts it off. No conditions. -/
import Derived.Test.YtlakicaemkgejaaRows
import Derived.Test.YtlakicaemkgejaaOpen
import Derived.Test.YtlakicaemkgejaaPureA
import Derived.Test.YtlakicaemkgejaaPureB
import Derived.Test.YtlakicaemkgejaaPureC
import Derived.Test.YtlakicaemkgejaaPAllx13
import Derived.WalkKit
import Derived.ProofKit
import Derived.OpenShut
import Derived.ShutString
import Derived.ChangeOld
import Derived.Below
import Derived.SizedLaws
namespace Go.Proofs.Ytlakicaemkgejaa.PAll
open Go.RowKit Go.Proofs.YtlakicaemkgejaaW.PrintWords Go.Proofs.YtlakicaemkgejaaW.PrintLast Go.Proofs.YtlakicaemkgejaaW.PrintMore
open Classical
set_option linter.unusedVariables false
set_option linter.unusedSimpArgs false
theorem posSelf_pure (l : List S32) (e i : Int) : ∃ k, meridianlaw04_PosSelf.f k l e i = some true := by
  apply Ev.rounds
  unfold meridianlaw04_PosSelf.f
  refine bind_awake ?_
  refine Ev.bind (on_f l e i) ?_
  have hcut : ∃ n fb, Ev (fun k => pos_Cut.f k l e i) (n, fb) ∧ (OnP l e i → n = 0 ∧ fb = false) ∧ (n = 0 → fb = false) := by
    by_cases h : RightP l ∧ IsP l e i
    · obtain ⟨n, fb, h1, ⟨h2⟩⟩ := cut_f l h.1 e i h.2
      refine ⟨n, fb, h1, fun ho => ?_, fun hn => ?_⟩
      · rcases h2 with h2 | h2
        · exact ⟨h2.1, h2.2.1⟩
        · have := h.2.nonneg
          exact absurd (ho.2.2 (n - 1).toNat (by omega) (by omega)) (by omega)
      · rcases h2 with h2 | h2
        · exact h2.2.1
        · have := h.2.nonneg; omega
    · exact ⟨0, false, cut_f_no l e i h, fun _ => ⟨rfl, rfl⟩, fun _ => rfl⟩
  obtain ⟨n, fb, hc1, hc2, hc3⟩ := hcut
  refine Ev.bind hc1 ?_
  refine Ev.bind (covers_f l e i e i) ?_
  by_cases ho : OnP l e i
  · rw [decide_eq_true ho, decide_eq_true ⟨ho, ho, Int.le_refl _⟩]
    obtain ⟨rfl, rfl⟩ := hc2 ho
    obtain ⟨be, bi, hb1, hb2⟩ := base_f l ho.1 e i ho.2.1
    have hbb : be = e ∧ bi = i := by
      refine hb2.same ⟨Int.le_refl _, ho.2.2, Or.inl rfl, ?_⟩
      rcases ho.cases with h | h
      · exact Or.inl ⟨h.2, h.1⟩
      · exact Or.inr ⟨h.1.pos ho.1, h.2, h.1⟩
    obtain ⟨rfl, rfl⟩ := hbb
    refine Ev.congr (f := fun k => (pos_Base.f k l be bi).bind fun bt => (if (!(bt.1 == be) || (!(bt.2 == bi))) = true then (some false) else ((pos_Covers.f k l be bi 0 0).bind fun t294 => (some t294)))) (fun k => rfl) ?_
    refine Ev.bind hb1 ?_
    refine Ev.congr (f := fun k => (pos_Covers.f k l be bi 0 0).bind fun t294 => (some t294)) (fun k => by simp) ?_
    refine Ev.bind (covers_f l be bi 0 0) ?_
    have h0 : (0 : Int) ≤ bi := by
      rcases ho.cases with h | h
      · omega
      · have := h.1.pos ho.1; omega
    rw [decide_eq_true ⟨ho, onP_zero ho.1, h0⟩]
    exact Ev.now _
  · rw [decide_eq_false ho, decide_eq_false (fun g => ho g.1)]
    by_cases hn : n = 0
    · have := hc3 hn
      subst hn this
      exact Ev.congr (f := fun k => some true) (fun k => rfl) (Ev.now _)
    · refine Ev.congr (f := fun k => some true) (fun k => ?_) (Ev.now _)
      simp [hn]


end Go.Proofs.Ytlakicaemkgejaa.PAll
namespace Go.Proofs.Ytlakicaemkgejaa.posSelf
open Go.ChangeShapes Go.WideShapes Go.ChangeAt Go.RowKit
open Go.Proofs.Ytlakicaemkgejaa.Open
set_option linter.unusedVariables false
set_option maxRecDepth 100000 in
theorem lifted (os : Os) (started : os.Started) (H : Type) (enc : TypeId × Value → H) :
    ReturnsInHanded {} Try.checked os 7 .any (Rows.posSelfSpec.pre6 enc Try.prog Try.f7 Rows.posSelfRow.domain false) (Rows.posSelfSpec.post enc Try.prog Try.f7 false true false false) := by
  refine returnsInHanded_of_change_sized (C := Try.checked) own started (by kernel_rfl) Try.func7
    (ChangeSpec.witness6 (enc := enc) (C := Try.checked) false ⟨#[], #[.slice none 0 0, .agg #[.int .i64 0, .int .i64 0]], []⟩ 8 (by kernel_rfl) (by kernel_rfl) (by kernel_rfl) (by kernel_rfl)) ?_
  intro W base args ds gs before hval0 hW hcnd hsz0 _
  have hsz : (DataW.weightsEach Try.prog (Try.f7.params.toList ++ Rows.posSelfSpec.plain.varTypes Try.prog) (ds ++ gs)).all (· ≤ reachBytes) = true := hsz0
  have hval : ∀ (j : Nat) t v, Try.f7.params[j]? = some t → args[j]? = some v → Value.okWide Try.prog W .any base t v := hval0
  have hW' := hW
  obtain ⟨p, q, hA0, hV, rfl, hfz, hnd⟩ := hW
  have hA : DataW.TrodAll enc Try.prog W 0 (fun _ => true) true Try.f7.params.toList args.toList ds p := hA0
  rw [Try.params7] at hA hval hsz
  obtain ⟨v0, vs0, d0, ds0, p0, q0, hargs, rfl, rfl, h0, r0⟩ := trodAll_cons hA
  obtain ⟨v1, vs1, d1, ds1, p1, q1, rfl, rfl, rfl, h1, r1⟩ := trodAll_cons r0
  obtain ⟨rfl, rfl, rfl⟩ := trodAll_nil r1
  obtain rfl : args = #[v0, v1] := by cases args; simp_all
  obtain ⟨rfl, rfl⟩ := trodVars_none hV
  have k0 := h0
  have lt0 := places h0
  obtain ⟨A0, c0, l0, rfl, hr0, hc0, hl0, we0⟩ := open_epochs (j := 0) hsz rfl rfl (hval 0 22 v0 rfl rfl) h0
  have k1 := h1
  have lt1 := places h1
  obtain ⟨a1, b1, rfl, wa1, wb1⟩ := open_pos (hval 1 26 v1 rfl rfl) h1
  clear hA0 hval0 hsz0 hsz
  obtain ⟨k, hk⟩ := PAll.posSelf_pure l0 a1 b1
  refine (PAll.meridianlaw04_PosSelf.calls k _ _ l0 a1 b1 true W hr0 hc0 hk).mono fun e W' ⟨he, bel⟩ => ?_
  subst he
  exact ⟨_, rfl, _, _, _, [], _, [], hW', trodAll_mk1 (shut_bool Try.underlying4 _), (trodAll_cons_mk (Below.trod laidOut (by kernel_rfl) (of_decide_eq_true (by kernel_rfl)) k0 bel lt0) (trodAll_cons_mk (Below.trod laidOut (by kernel_rfl) (of_decide_eq_true (by kernel_rfl)) k1 bel lt1) trodAll_mk0)), rfl, bel.frame _, fun h => by cases h⟩
theorem over : Rows.posSelfRow.holds Try.pinned (OpenSpec.ofChange Rows.posSelfSpec) :=
  OpenClaim.holds_of_wide 7 Try.f7 rfl rfl rfl rfl rfl rfl rfl ⟨rfl, rfl, rfl, rfl, rfl⟩ rfl rfl rfl rfl rfl (by kernel_rfl) Try.func7 (by kernel_rfl)
    (of_decide_eq_true (by kernel_rfl)) (by unfold Func.isWrapper; first | (rw [if_pos (by decide +kernel)]; kernel_rfl) | (rw [if_neg (by decide +kernel)]; exact ⟨rfl, rfl⟩))
    (fun os started H enc _ => lifted os started H enc)
end Go.Proofs.Ytlakicaemkgejaa.posSelf
namespace Go.Proofs.Ytlakicaemkgejaa
theorem posSelf_holds : Rows.PosSelfSaid := posSelf.over
#print axioms posSelf_holds
end Go.Proofs.Ytlakicaemkgejaa
