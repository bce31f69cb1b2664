-- Laid by a program of this session over the translation of this seat; Lean checks it.
import Derived.Test.YtinpofepmbbehaaRows
import Derived.Test.YtinpofepmbbehaaPFrameb
import Derived.Test.YtinpofepmbbehaaPureFrameBack
import Derived.WalkKit
import Derived.ProofKit
import Derived.OpenShut
import Derived.ShutString
import Derived.ChangeOld
import Derived.Below
import Derived.SizedLaws
import Derived.JoinedCond
import Derived.ChangeSlices
import Derived.ChangeArms
import Derived.Lib.SmallJoins
import Derived.Test.YtinpofepmbbehaaWSized
namespace Go.Proofs.Ytinpofepmbbehaa.frameBackUpto
open Go.ChangeShapes Go.WideShapes Go.ChangeAt Go.RowKit
open Go.ChangeMaps (open_string shut_string)
set_option linter.unusedVariables false
theorem own : ownKnob Try.prog.godebug = none := by kernel_rfl
theorem laidOut : laidOutB Try.prog = true := by kernel_rfl
def IsRow (k : IntKind) (w : World) (a : Option Addr) (len cap : Nat) (zs : List Int) : Prop :=
  (a = none ∧ len = 0 ∧ cap = 0 ∧ zs = []) ∨
  ∃ x, a = some x ∧ len ≤ cap ∧ cap ≤ maxLen ∧ zs.length = cap ∧ (∀ i, i < zs.length → w.cell? (x.add i) = some (.int k (zs.getD i 0))) ∧ ∀ n ∈ zs, (Lit.int k n).wf = true
theorem bulk_lits {H : Type} (k : IntKind) : ∀ zs : List Int, zs.length ≤ Rows.uptoBulkAll (lits (H := H) k zs)
  | [] => Nat.zero_le _
  | z :: r => by
    have h := bulk_lits (H := H) k r
    show r.length + 1 ≤ Rows.uptoBulk (.lit (.int k z) : DataW H) + Rows.uptoBulkAll (lits (H := H) k r)
    have e : Rows.uptoBulk (.lit (.int k z) : DataW H) = 1 := by simp [Rows.uptoBulk]
    omega
open Go.Proofs.YtinpofepmbbehaaW.PrintWords Go.Proofs.YtinpofepmbbehaaW.PrintLast Go.Proofs.YtinpofepmbbehaaW.PrintMore in
theorem walk (a0 : Option Addr) (len0 cap0 : Nat) (z0 : List Int) (a1 : Option Addr) (len1 cap1 : Nat) (z1 : List Int) (x1 x2 : Int) (w : World) (w0 : IsRow .u8 w a0 len0 cap0 z0) (w1 : IsRow .u8 w a1 len1 cap1 z1)
    (y0 : len0 ≤ 1048576) (y1 : len1 ≤ 1048576) (hby : (Lit.int .u8 x2).wf = true) :
    Calls Try.prog 3 #[.agg #[.slice a0 len0 cap0, .int .i64 x1, .int .u8 x2, .slice a1 len1 cap1]] w fun e w' => e = .returned (.bool true) ∧ Below w.heap.size w w' := by
  obtain ⟨l0, rfl, hr0, hm0, hw0, hc0⟩ := ReadsInt.ofRowC w0
  obtain ⟨l1, rfl, hr1, hm1, hw1, hc1⟩ := ReadsInt.ofRowC w1
  obtain ⟨k, h⟩ := Pure.FrameBack l0 l1 x1 x2 y0 y1 hw0 hw1 (PFrame.isB_of (l := [x2]) (fun x hx => by rw [List.mem_singleton.mp hx]; exact hby) x2 (List.mem_singleton.mpr rfl))
  refine (PFrame.meridianlaw03_FrameBack.calls k _ _ l0 x1 x2 _ _ l1 true w (Kd.C_of_reads (d := (0 : Int)) (h1 := fun _ => rfl) hr0) hc0 (Kd.C_of_reads (d := (0 : Int)) (h1 := fun _ => rfl) hr1) hc1 h).mono ?_
  rintro e w' ⟨rfl, hd⟩
  exact ⟨rfl, hd⟩
theorem open_small {H : Type} {enc : TypeId × Value → H} {W : World} {n : Nat} {v : Value} {y : DataW H × List MemPlace} (hf : DataW.trod enc Try.prog W 0 (fun _ => true) true n 22 [v] = some y) (hk : Rows.uptoBulk y.1 ≤ 1048576) :
    ∃ a len cap zs, v = .slice a len cap ∧ IsRow .u8 W a len cap zs ∧ len ≤ 1048576 := by
  rcases open_ints Try.underlying22 Try.underlying5 (by kernel_rfl) hf with ⟨hcs, _⟩ | ⟨x, l, c, zs, hcs, _, hl, hm, hz, hx, hcell, hwz⟩
  · simp only [List.cons.injEq, and_true] at hcs
    exact ⟨none, 0, 0, [], hcs, .inl ⟨rfl, rfl, rfl, rfl⟩, by omega⟩
  · simp only [List.cons.injEq, and_true] at hcs
    refine ⟨some x, l, c, zs, hcs, .inr ⟨_, rfl, hl, hm, by simpa using hz, hcell, hwz⟩, ?_⟩
    have hz' : zs.length = c := by simpa using hz
    subst hx
    have h1 := bulk_lits (H := H) .u8 (zs.take l)
    rw [List.length_take] at h1
    have e : Rows.uptoBulk (.slice (lits .u8 (zs.take l)) (lits .u8 (zs.drop l)) : DataW H) = Rows.uptoBulkAll (lits (H := H) .u8 (zs.take l)) + Rows.uptoBulkAll (lits (H := H) .u8 (zs.drop l)) + 1 := by simp [Rows.uptoBulk]
    have hk' : Rows.uptoBulk (.slice (lits .u8 (zs.take l)) (lits .u8 (zs.drop l)) : DataW H) ≤ 1048576 := hk
    rw [e] at hk'
    omega
set_option maxRecDepth 100000 in
theorem lifted (os : Os) (started : os.Started) (H : Type) (enc : TypeId × Value → H) (F0 : Stop.Interp) :
    ReturnsInHanded {} Try.checked os 3 .any ((Rows.OpenSpec.upto Rows.frameBackSpec).pre6 enc Try.prog Try.f3 Rows.frameBackUptoRow.domain false) (((Rows.OpenSpec.upto Rows.frameBackSpec).at F0).post enc Try.prog Try.f3 false true false false) := by
  refine returnsInHanded_of_cond (C := Try.checked) (s := Rows.OpenSpec.upto Rows.frameBackSpec) (k := Rows.uptoSmall) rfl own started (by kernel_rfl) Try.func3
    (OpenSpec.witness (enc := enc) (C := Try.checked) (s := Rows.OpenSpec.upto Rows.frameBackSpec) (k := Rows.uptoSmall) rfl false ⟨#[], #[.agg #[.slice none 0 0, .int .i64 0, .int .u8 0, .slice none 0 0]], []⟩ 8 (by kernel_rfl) (by kernel_rfl) (by kernel_rfl)
      (x := ([.agg [.nil, .lit (.int .i64 0), .lit (.int .u8 0), .nil]], [], [])) (by kernel_rfl) (by kernel_rfl) (by kernel_rfl)) ?_
  intro W base args ds gs before hval0 hW hcnd hk _
  have hval : ∀ (j : Nat) t v, Try.f3.params[j]? = some t → args[j]? = some v → Value.okWide Try.prog W .any base t v := hval0
  have hW' := hW
  obtain ⟨p, q, hA0, hV, rfl, hfz, hnd⟩ := hW
  have hA : DataW.TrodAll enc Try.prog W 0 (fun _ => true) true Try.f3.params.toList args.toList ds p := hA0
  rw [Try.params3] at hA hval
  obtain ⟨v0, vs0, d0, ds0, p0, q0, hargs, rfl, rfl, h0, r0⟩ := trodAll_cons hA
  obtain ⟨rfl, rfl, rfl⟩ := trodAll_nil r0
  obtain rfl : args = #[v0] := by cases args; simp_all
  obtain ⟨rfl, rfl⟩ := trodVars_none hV
  have k0 := h0
  have lt0 : ∀ x ∈ p0, x.block < W.heap.size := by obtain ⟨m, hm⟩ := k0; exact DataW.trod_lt m _ _ _ hm
  have hk' : Rows.uptoBulk d0 + 0 ≤ 1048576 := of_decide_eq_true hk
  obtain ⟨u0, u1, u2, u3, q0, q1, q2, q3, n, rfl, hd, _, t0, t1, t2, t3⟩ := Go.Joins.open_agg4 Try.underlying24 (by kernel_rfl) (by kernel_rfl) (hval 0 24 v0 rfl rfl) h0
  have hbulk : Rows.uptoBulk q0.1 ≤ 1048576 ∧ Rows.uptoBulk q3.1 ≤ 1048576 := by
    rw [hd] at hk'
    have e : Rows.uptoBulk (.agg [q0.1, q1.1, q2.1, q3.1] : DataW H) = Rows.uptoBulk q0.1 + (Rows.uptoBulk q1.1 + (Rows.uptoBulk q2.1 + (Rows.uptoBulk q3.1 + 0))) + 1 := by simp [Rows.uptoBulk, Rows.uptoBulkAll]
    rw [e] at hk'
    omega
  obtain ⟨a0, len0, cap0, z0, rfl, w0, y0⟩ := open_small t0 hbulk.1
  obtain ⟨a1, len1, cap1, z1, rfl, w1, y1⟩ := open_small t3 hbulk.2
  obtain ⟨x1, e1, _, _⟩ := DataW.trod_int Try.underlying3 t1
  obtain ⟨x2, e2, _, hby⟩ := DataW.trod_int Try.underlying5 t2
  simp only [List.cons.injEq, and_true] at e1 e2
  subst e1 e2
  clear hA0 hval0
  refine (walk a0 len0 cap0 z0 a1 len1 cap1 z1 x1 x2 W w0 w1 y0 y1 hby).mono fun e W' ⟨he, bel⟩ => ?_
  subst he
  exact ⟨_, rfl, _, _, _, [], _, [], hW', trodAll_mk1 (shut_bool Try.underlying4 _), (trodAll_cons_mk (Below.trod laidOut (by kernel_rfl) (of_decide_eq_true (by kernel_rfl)) k0 bel lt0) trodAll_mk0), rfl, bel.frame _, fun h => by cases h⟩
theorem over : Rows.frameBackUptoRow.holds Try.pinned (Rows.OpenSpec.upto Rows.frameBackSpec) :=
  OpenClaim.holds_of_cond 3 Try.f3 rfl rfl rfl rfl rfl rfl rfl ⟨rfl, rfl, rfl, rfl, rfl⟩ rfl rfl rfl rfl rfl (by kernel_rfl) Try.func3 (by kernel_rfl)
    (of_decide_eq_true (by kernel_rfl)) (by unfold Func.isWrapper; first | (rw [if_pos (by decide +kernel)]; kernel_rfl) | (rw [if_neg (by decide +kernel)]; exact ⟨rfl, rfl⟩))
    (fun os started H enc _ F0 => lifted os started H enc F0)
theorem proved : Rows.FrameBackUptoSaid := over
#print axioms proved
end Go.Proofs.Ytinpofepmbbehaa.frameBackUpto
namespace Go.Proofs.Ytinpofepmbbehaa
/-- The row, under a short name, for the claim. -/
theorem frameBackUpto_holds : Rows.FrameBackUptoSaid := frameBackUpto.proved
end Go.Proofs.Ytinpofepmbbehaa
