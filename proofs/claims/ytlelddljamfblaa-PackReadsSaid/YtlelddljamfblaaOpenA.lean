/- The questions of a law, opened. -/
import Derived.Test.YtlelddljamfblaaOpen
import Derived.Test.YtlelddljamfblaaPkZ
namespace Go.Proofs.Ytlelddljamfblaa.Open
open Go.Joins Go.ChangeShapes Go.WideShapes Go.ChangeAt Go.RowKit Go.Deep
open Go.Proofs.YtlelddljamfblaaW.PrintWords Go.Proofs.Ytlelddljamfblaa.PPk Go.Proofs.Ytlelddljamfblaa.Pk
set_option linter.unusedVariables false
section
variable {H : Type} {enc : TypeId × Value → H} {W : World} {base : Nat} {spare : Nat → Bool} {held : Bool}
def cells_asks (W : World) (a : Addr) (i : Nat) (e : Int × Int) : Prop := W.cell? (a.add (i * 2 + 0)) = some (.int .i64 e.1) ∧ W.cell? (a.add (i * 2 + 1)) = some (.int .i64 e.2)
def Wf_asks (e : (Int × Int)) : Prop := Open.wfI e.1 ∧ Open.wfI e.2
theorem open_asks {b0 : Nat} {v : Value} {d : DataW H} {p : List MemPlace} {ts : List TypeId} {ds : List (DataW H)} {j : Nat}
    (hsz : (DataW.weightsEach Try.prog ts ds).all (· ≤ reachBytes) = true) (hts : ts[j]? = some 51) (hds : ds[j]? = some d)
    (hv : Value.okWide Try.prog W .any b0 51 v) (h : DataW.Trod enc Try.prog W base spare held 51 v d p) :
    ∃ (A : Option Addr) (c : Nat) (l : List (Int × Int)), v = .slice A l.length c ∧ Kd.C kAsk W A l.length l ∧ l.length ≤ c ∧ l.length * 16 ≤ 140737488351232 ∧ ∀ e ∈ l, Wf_asks e := by
  obtain ⟨A, len, cap, rfl⟩ := okWide_slice Try.underlying51 hv
  obtain ⟨fuel, hf⟩ := h
  rcases open_slice_fields Try.underlying51 Try.underlying56 (by kernel_rfl) (by kernel_rfl) hf with ⟨hcs, _⟩ | ⟨a, len', cap', m, D, Pl, hcs, hb, hl, hm, hmm, hx, hi⟩
  · simp [Value.cells] at hcs
    obtain ⟨rfl, rfl, rfl⟩ := hcs
    exact ⟨none, 0, [], rfl, ⟨rfl, by simp, fun h => absurd h (by simp)⟩, Nat.le_refl _, by simp, by simp⟩
  · simp [Value.cells] at hcs
    obtain ⟨rfl, rfl, rfl⟩ := hcs
    simp only [Prod.mk.injEq] at hx
    obtain ⟨rfl, _⟩ := hx
    have hlm : len ≤ m := by rw [hmm]; split <;> omega
    have key : ∀ i, i < len → ∃ e : (Int × Int), cells_asks W a i e ∧ Wf_asks e := by
      intro i hil
      obtain ⟨ys, n, _, _, _, hf⟩ := hi i (by omega)
      obtain ⟨v0, y0, c0, _, t0⟩ := hf 0 _ rfl
      obtain ⟨v1, y1, c1, _, t1⟩ := hf 1 _ rfl
      obtain ⟨x0, e0, _, w0⟩ := DataW.trod_int Try.underlying3 t0
      obtain ⟨x1, e1, _, w1⟩ := DataW.trod_int Try.underlying3 t1
      simp only [List.cons.injEq, and_true] at e0 e1
      subst e0 e1
      exact ⟨⟨x0, x1⟩, ⟨c0, c1⟩, ⟨w0, w1⟩⟩
    obtain ⟨l, hl1, hl2⟩ := list_of len key
    subst hl1
    refine ⟨some a, cap, l, rfl, ⟨rfl, ?_, fun _ => ⟨a, rfl, fun i e he => ?_⟩⟩, hl, ?_, fun e he => ?_⟩
    · unfold maxLen at hm; omega
    · obtain ⟨⟨c0, c1⟩, _⟩ := hl2 i e he
      refine ⟨[.int .i64 e.1, .int .i64 e.2], rfl, kAsk_mk W e, fun q u hq => ?_⟩
      match q, hq with
      | 0, hq => simp at hq; subst hq; exact c0
      | 1, hq => simp at hq; subst hq; exact c1
      | q + 2, hq => simp at hq
    · have z := sized_slice hsz hts hds Try.underlying51
      rw [show Try.prog.bytesOf 56 = 16 from by kernel_rfl] at z
      simp only [List.length_map, List.length_range] at z
      exact Nat.le_trans (Nat.mul_le_mul_right _ (by omega)) z
    · obtain ⟨i, hi⟩ := List.mem_iff_getElem?.1 he
      exact (hl2 i e hi).2
end
end Go.Proofs.Ytlelddljamfblaa.Open
