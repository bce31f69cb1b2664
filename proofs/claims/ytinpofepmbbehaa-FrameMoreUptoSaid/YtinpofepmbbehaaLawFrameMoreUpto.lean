-- Laid by a program of this session over the translation of this seat; Lean checks it.
import Derived.Test.YtinpofepmbbehaaRows
import Derived.Test.YtinpofepmbbehaaPFramex5
import Derived.Test.YtinpofepmbbehaaPureFrameMore
import Derived.WalkKit
import Derived.ProofKit
import Derived.OpenShut
import Derived.ShutString
import Derived.ChangeOld
import Derived.Below
import Derived.SizedLaws
import Derived.JoinedCond
import Derived.ChangeSlices
import Derived.Test.YtinpofepmbbehaaWSized
namespace Go.Proofs.Ytinpofepmbbehaa.frameMoreUpto
open Go.ChangeShapes Go.WideShapes Go.ChangeAt Go.RowKit
open Go.ChangeMaps (open_string shut_string)
set_option linter.unusedVariables false
theorem own : ownKnob Try.prog.godebug = none := by kernel_rfl
theorem laidOut : laidOutB Try.prog = true := by kernel_rfl
def IsRow (k : IntKind) (w : World) (a : Option Addr) (len cap : Nat) (zs : List Int) : Prop :=
  (a = none ∧ len = 0 ∧ cap = 0 ∧ zs = []) ∨
  ∃ x, a = some x ∧ len ≤ cap ∧ cap ≤ maxLen ∧ zs.length = cap ∧ (∀ i, i < zs.length → w.cell? (x.add i) = some (.int k (zs.getD i 0))) ∧ ∀ n ∈ zs, (Lit.int k n).wf = true
theorem bulk_lits {H : Type} (k : IntKind) : ∀ zs : List Int, zs.length ≤ Rows.uptoBulkAll (lits (H := H) k zs)
  | [] => Nat.zero_le _
  | z :: r => by
    have h := bulk_lits (H := H) k r
    show r.length + 1 ≤ Rows.uptoBulk (.lit (.int k z) : DataW H) + Rows.uptoBulkAll (lits (H := H) k r)
    have e : Rows.uptoBulk (.lit (.int k z) : DataW H) = 1 := by simp [Rows.uptoBulk]
    omega
open Go.Proofs.YtinpofepmbbehaaW.PrintWords Go.Proofs.YtinpofepmbbehaaW.PrintLast Go.Proofs.YtinpofepmbbehaaW.PrintMore in
theorem walk (a0 : Option Addr) (len0 cap0 : Nat) (z0 : List Int) (w : World) (w0 : IsRow .u8 w a0 len0 cap0 z0) (y0 : len0 ≤ 1048576) :
    Calls Try.prog 6 #[.slice a0 len0 cap0] w fun e w' => e = .returned (.bool true) ∧ Below w.heap.size w w' := by
  obtain ⟨l0, rfl, hr0, hm0, hw0, hc0⟩ := ReadsInt.ofRowC w0
  obtain ⟨k, h⟩ := Pure.FrameMore l0 y0 hw0
  refine (PFrame.meridianlaw03_FrameMore.calls k _ _ l0 true w (Kd.C_of_reads (d := (0 : Int)) (h1 := fun _ => rfl) hr0) hc0 h).mono ?_
  rintro e w' ⟨rfl, hd⟩
  exact ⟨rfl, hd⟩
set_option maxRecDepth 100000 in
theorem lifted (os : Os) (started : os.Started) (H : Type) (enc : TypeId × Value → H) (F0 : Stop.Interp) :
    ReturnsInHanded {} Try.checked os 6 .any ((Rows.OpenSpec.upto Rows.frameMoreSpec).pre6 enc Try.prog Try.f6 Rows.frameMoreUptoRow.domain false) (((Rows.OpenSpec.upto Rows.frameMoreSpec).at F0).post enc Try.prog Try.f6 false true false false) := by
  refine returnsInHanded_of_cond (C := Try.checked) (s := Rows.OpenSpec.upto Rows.frameMoreSpec) (k := Rows.uptoSmall) rfl own started (by kernel_rfl) Try.func6
    (OpenSpec.witness (enc := enc) (C := Try.checked) (s := Rows.OpenSpec.upto Rows.frameMoreSpec) (k := Rows.uptoSmall) rfl false ⟨#[], #[.slice none 0 0], []⟩ 8 (by kernel_rfl) (by kernel_rfl) (by kernel_rfl)
      (x := ([.nil], [], [])) (by kernel_rfl) (by kernel_rfl) (by kernel_rfl)) ?_
  intro W base args ds gs before hval0 hW hcnd hk _
  have hval : ∀ (j : Nat) t v, Try.f6.params[j]? = some t → args[j]? = some v → Value.okWide Try.prog W .any base t v := hval0
  have hW' := hW
  obtain ⟨p, q, hA0, hV, rfl, hfz, hnd⟩ := hW
  have hA : DataW.TrodAll enc Try.prog W 0 (fun _ => true) true Try.f6.params.toList args.toList ds p := hA0
  rw [Try.params6] at hA hval
  obtain ⟨v0, vs0, d0, ds0, p0, q0, hargs, rfl, rfl, h0, r0⟩ := trodAll_cons hA
  obtain ⟨rfl, rfl, rfl⟩ := trodAll_nil r0
  obtain rfl : args = #[v0] := by cases args; simp_all
  obtain ⟨rfl, rfl⟩ := trodVars_none hV
  obtain ⟨a0, len0, cap0, rfl⟩ := okWide_slice Try.underlying22 (hval 0 22 v0 rfl rfl)
  have k0 := h0
  have lt0 : ∀ x ∈ p0, x.block < W.heap.size := by obtain ⟨m, hm⟩ := k0; exact DataW.trod_lt m _ _ _ hm
  obtain ⟨⟨z0, w0⟩, y0⟩ : (∃ zs, IsRow .u8 W a0 len0 cap0 zs) ∧ len0 ≤ 1048576 := by
    obtain ⟨fuel, hf⟩ := h0
    have hk' : Rows.uptoBulk d0 + 0 ≤ 1048576 := of_decide_eq_true hk
    rcases open_ints Try.underlying22 Try.underlying5 (by kernel_rfl) hf with ⟨hcs, _⟩ | ⟨x, l, c, zs, hcs, _, hl, hm, hz, hx, hcell, hwz⟩
    · simp [Value.cells] at hcs
      obtain ⟨rfl, rfl, rfl⟩ := hcs
      exact ⟨⟨[], .inl ⟨rfl, rfl, rfl, rfl⟩⟩, by omega⟩
    · simp [Value.cells] at hcs
      obtain ⟨rfl, rfl, rfl⟩ := hcs
      refine ⟨⟨zs, .inr ⟨_, rfl, hl, hm, by simpa using hz, hcell, hwz⟩⟩, ?_⟩
      have hz' : zs.length = cap0 := by simpa using hz
      obtain ⟨hd, _⟩ := Prod.mk.injEq .. ▸ hx
      rw [hd] at hk'
      have h1 := bulk_lits (H := H) .u8 (zs.take len0)
      rw [List.length_take] at h1
      have e : Rows.uptoBulk (.slice (lits .u8 (zs.take len0)) (lits .u8 (zs.drop len0)) : DataW H) = Rows.uptoBulkAll (lits (H := H) .u8 (zs.take len0)) + Rows.uptoBulkAll (lits (H := H) .u8 (zs.drop len0)) + 1 := by simp [Rows.uptoBulk]
      rw [e] at hk'
      omega
  clear hA0 hval0
  refine (walk a0 len0 cap0 z0 W w0 y0).mono fun e W' ⟨he, bel⟩ => ?_
  subst he
  exact ⟨_, rfl, _, _, _, [], _, [], hW', trodAll_mk1 (shut_bool Try.underlying4 _), (trodAll_cons_mk (Below.trod laidOut (by kernel_rfl) (of_decide_eq_true (by kernel_rfl)) k0 bel lt0) trodAll_mk0), rfl, bel.frame _, fun h => by cases h⟩
theorem over : Rows.frameMoreUptoRow.holds Try.pinned (Rows.OpenSpec.upto Rows.frameMoreSpec) :=
  OpenClaim.holds_of_cond 6 Try.f6 rfl rfl rfl rfl rfl rfl rfl ⟨rfl, rfl, rfl, rfl, rfl⟩ rfl rfl rfl rfl rfl (by kernel_rfl) Try.func6 (by kernel_rfl)
    (of_decide_eq_true (by kernel_rfl)) (by unfold Func.isWrapper; first | (rw [if_pos (by decide +kernel)]; kernel_rfl) | (rw [if_neg (by decide +kernel)]; exact ⟨rfl, rfl⟩))
    (fun os started H enc _ F0 => lifted os started H enc F0)
theorem proved : Rows.FrameMoreUptoSaid := over
#print axioms proved
end Go.Proofs.Ytinpofepmbbehaa.frameMoreUpto
namespace Go.Proofs.Ytinpofepmbbehaa
/-- The row, under a short name, for the claim. -/
theorem frameMoreUpto_holds : Rows.FrameMoreUptoSaid := frameMoreUpto.proved
end Go.Proofs.Ytinpofepmbbehaa
