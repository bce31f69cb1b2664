/- The arguments of the laws on tables of epochs, opened: a table reads as a list of epochs, a position as two numbers. -/
import Derived.Test.YtlakicaemkgejaaPAllx0
import Derived.Test.YtlakicaemkgejaaRows
import Derived.ProofKit
import Derived.OpenShut
import Derived.SizedLaws
import Derived.Deep.Slices
import Derived.Deep.Fields
import Derived.ChangeSame
import Derived.ChangeArms
import Derived.ChangeSlices
import Derived.Lib.SmallJoins
namespace Go.Proofs.Ytlakicaemkgejaa.Open
open Go.Joins Go.ChangeShapes Go.WideShapes Go.ChangeAt Go.RowKit Go.Deep
open Go.Proofs.YtlakicaemkgejaaW.PrintWords
open Go.Proofs.Ytlakicaemkgejaa.PAll
set_option linter.unusedVariables false

theorem laidOut : laidOutB Try.prog = true := by kernel_rfl
theorem own : ownKnob Try.prog.godebug = none := by kernel_rfl

section
variable {H : Type} {enc : TypeId × Value → H} {P : Program} {w : World} {base : Nat} {spare : Nat → Bool} {held : Bool}
theorem open_slice_fields {t e : TypeId} {fs : Array Field} {fuel : Nat} {cs : List Value} {x : DataW H × List MemPlace} (ht : P.underlying t = some (.slice e)) (he : P.underlying e = some (.struct fs))
    (hone : oneCellFields P fs = true) (hC : P.cellsOf e = fs.size) (h : DataW.trod enc P w base spare held fuel t cs = some x) :
    (cs = [.slice none 0 0] ∧ x = (.nil, [])) ∨
    ∃ (a : Addr) (len cap m : Nat) (D : Nat → DataW H) (Pl : Nat → List MemPlace), cs = [.slice (some a) len cap] ∧ base ≤ a.block ∧ len ≤ cap ∧ cap ≤ maxLen ∧ m = (if spare a.block then cap else len) ∧
      x = (.slice ((List.range len).map D) ((List.range (m - len)).map fun j => D (len + j)), MemPlace.row a (m * fs.size) ++ (List.range m).flatMap Pl) ∧
      ∀ i, i < m → ∃ (ys : List (DataW H × List MemPlace)) (n : Nat), D i = .agg (ys.map (·.1)) ∧ Pl i = ys.flatMap (·.2) ∧ ys.length = fs.size ∧
        ∀ (j : Nat) (f : Field), fs[j]? = some f → ∃ (v : Value) (y : DataW H × List MemPlace), w.cell? (a.add (i * fs.size + j)) = some v ∧ ys[j]? = some y ∧ DataW.trod enc P w base spare held n f.type [v] = some y := by
  rcases open_slice ht h with h0 | ⟨a, len, cap, m, n, D, Pl, hcs, hb, hl, hm, hmm, hx, hi⟩
  · exact .inl h0
  · refine .inr ⟨a, len, cap, m, D, Pl, hcs, hb, hl, hm, hmm, by rw [hC] at hx; exact hx, fun i him => ?_⟩
    obtain ⟨cs', hc, ht'⟩ := hi i him
    rw [hC] at hc
    obtain ⟨ys, n', hn', hy, hlen, hyl, hf⟩ := DataW.trod_struct he ht'
    obtain ⟨_, hcl, hat⟩ := World.cells?_some hc
    simp only [Prod.mk.injEq] at hy
    refine ⟨ys, n', hy.1, hy.2, hyl, fun j f hj => ?_⟩
    obtain ⟨ho, hk⟩ := hone_of hone j f hj
    have hjl : j < fs.size := (Array.getElem?_eq_some_iff.1 hj).1
    have hcell := hat j hjl
    have hv : cs'[j]? = some (cs'[j]'(by omega)) := List.getElem?_eq_getElem (by omega)
    have h1 := hf j f hj
    rw [ho, hk] at h1
    have hone' : (cs'.drop j).take 1 = [cs'[j]'(by omega)] := by
      rw [List.drop_eq_getElem_cons (by omega)]
      rfl
    rw [hone'] at h1
    have hys : ys[j]? = some (ys[j]'(by omega)) := List.getElem?_eq_getElem (by omega)
    refine ⟨_, _, ?_, hys, h1.trans hys⟩
    rw [← Go.Deep.add_add, hcell, hv]
end

section
variable {H : Type} {enc : TypeId × Value → H} {W : World} {base : Nat} {spare : Nat → Bool} {held : Bool}

def w_cells (W : World) (a : Addr) (i : Nat) (e : S32) : Prop := W.cell? (a.add (i * 3 + 0)) = some (.int .i64 e.f0) ∧ W.cell? (a.add (i * 3 + 1)) = some (.int .i64 e.f1) ∧ W.cell? (a.add (i * 3 + 2)) = some (.bool e.f2)
def wfI (x : Int) : Prop := (Lit.int .i64 x).wf = true
structure WfE (e : S32) : Prop where
  m : wfI e.f0
  c : wfI e.f1

/-- A table of epochs, read as a list. -/
theorem open_epochs {b0 : Nat} {v : Value} {d : DataW H} {p : List MemPlace} {ts : List TypeId} {ds : List (DataW H)} {j : Nat}
    (hsz : (DataW.weightsEach Try.prog ts ds).all (· ≤ reachBytes) = true) (hts : ts[j]? = some 22) (hds : ds[j]? = some d)
    (hv : Value.okWide Try.prog W .any b0 22 v) (h : DataW.Trod enc Try.prog W base spare held 22 v d p) :
    ∃ (A : Option Addr) (c : Nat) (l : List S32), v = .slice A l.length c ∧ Kd.C k32 W A l.length l ∧ l.length ≤ c ∧ l.length * 24 ≤ 140737488351232 ∧ ∀ e ∈ l, WfE e := by
  obtain ⟨A, len, cap, rfl⟩ := okWide_slice Try.underlying22 hv
  obtain ⟨fuel, hf⟩ := h
  rcases open_slice_fields Try.underlying22 Try.underlying32 (by kernel_rfl) (by kernel_rfl) hf with ⟨hcs, _⟩ | ⟨a, len', cap', m, D, Pl, hcs, hb, hl, hm, hmm, hx, hi⟩
  · simp [Value.cells] at hcs
    obtain ⟨rfl, rfl, rfl⟩ := hcs
    exact ⟨none, 0, [], rfl, ⟨rfl, by simp, fun h => absurd h (by simp)⟩, Nat.le_refl _, by simp, by simp⟩
  · simp [Value.cells] at hcs
    obtain ⟨rfl, rfl, rfl⟩ := hcs
    simp only [Prod.mk.injEq] at hx
    obtain ⟨rfl, _⟩ := hx
    have hlm : len ≤ m := by rw [hmm]; split <;> omega
    have key : ∀ i, i < len → ∃ e : S32, w_cells W a i e ∧ WfE e := by
      intro i hil
      obtain ⟨ys, n, _, _, _, hf⟩ := hi i (by omega)
      obtain ⟨v0, y0, c0, _, t0⟩ := hf 0 _ rfl
      obtain ⟨v1, y1, c1, _, t1⟩ := hf 1 _ rfl
      obtain ⟨v2, y2, c2, _, t2⟩ := hf 2 _ rfl
      obtain ⟨x0, e0, _, w0⟩ := DataW.trod_int Try.underlying3 t0
      obtain ⟨x1, e1, _, w1⟩ := DataW.trod_int Try.underlying3 t1
      obtain ⟨x2, e2, _⟩ := DataW.trod_bool Try.underlying4 t2
      simp only [List.cons.injEq, and_true] at e0 e1 e2
      subst e0 e1 e2
      exact ⟨⟨x0, x1, x2⟩, ⟨c0, c1, c2⟩, ⟨w0, w1⟩⟩
    obtain ⟨l, hl1, hl2⟩ : ∃ l : List S32, l.length = len ∧ ∀ i e, l[i]? = some e → w_cells W a i e ∧ WfE e := by
      clear hi hmm hlm hf hsz hds hts hv hl
      induction len with
      | zero => exact ⟨[], rfl, fun i e h => by simp at h⟩
      | succ n ih =>
        obtain ⟨l, h1, h2⟩ := ih (fun i hi => key i (by omega))
        obtain ⟨e, he⟩ := key n (by omega)
        refine ⟨l ++ [e], by simp [h1], fun i e' h => ?_⟩
        rcases Nat.lt_or_ge i l.length with hlt | hge
        · rw [List.getElem?_append_left hlt] at h
          exact h2 i e' h
        · have hil : i = l.length := by
            have := (List.getElem?_eq_some_iff.1 h).1
            simp at this
            omega
          subst hil
          simp at h
          subst h
          rw [h1]
          exact he
    subst hl1
    refine ⟨some a, cap, l, rfl, ⟨rfl, ?_, fun _ => ⟨a, rfl, fun i e he => ?_⟩⟩, hl, ?_, fun e he => ?_⟩
    · unfold maxLen at hm; omega
    · obtain ⟨⟨c0, c1, c2⟩, _⟩ := hl2 i e he
      refine ⟨[.int .i64 e.f0, .int .i64 e.f1, .bool e.f2], rfl, k32_mk W e, fun q u hq => ?_⟩
      match q, hq with
      | 0, hq => simp at hq; subst hq; exact c0
      | 1, hq => simp at hq; subst hq; exact c1
      | 2, hq => simp at hq; subst hq; exact c2
      | q + 3, hq => simp at hq
    · have z := sized_slice hsz hts hds Try.underlying22
      rw [show Try.prog.bytesOf 32 = 24 from by kernel_rfl] at z
      simp only [List.length_map, List.length_range] at z
      exact Nat.le_trans (Nat.mul_le_mul_right _ (by omega)) z
    · obtain ⟨i, hi⟩ := List.mem_iff_getElem?.1 he
      exact (hl2 i e hi).2

/-- A position, read as two numbers. -/
theorem open_pos {b0 : Nat} {v : Value} {d : DataW H} {p : List MemPlace} (hv : Value.okWide Try.prog W .any b0 26 v) (h : DataW.Trod enc Try.prog W base spare held 26 v d p) :
    ∃ a b : Int, v = .agg #[.int .i64 a, .int .i64 b] ∧ wfI a ∧ wfI b := by
  obtain ⟨v0, v1, y0, y1, n, rfl, _, _, t0, t1⟩ := open_agg2 Try.underlying26 (by kernel_rfl) (by kernel_rfl) hv h
  obtain ⟨x0, e0, _, w0⟩ := DataW.trod_int Try.underlying3 t0
  obtain ⟨x1, e1, _, w1⟩ := DataW.trod_int Try.underlying3 t1
  simp only [List.cons.injEq, and_true] at e0 e1
  subst e0 e1
  exact ⟨x0, x1, rfl, w0, w1⟩

theorem places {t : TypeId} {v : Value} {d : DataW H} {p : List MemPlace} (h : DataW.Trod enc Try.prog W base spare held t v d p) : ∀ x ∈ p, x.block < W.heap.size := by
  obtain ⟨m, hm⟩ := h
  exact DataW.trod_lt m _ _ _ hm
end
end Go.Proofs.Ytlakicaemkgejaa.Open
