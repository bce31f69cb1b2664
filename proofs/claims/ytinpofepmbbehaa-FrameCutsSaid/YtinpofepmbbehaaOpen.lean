/- Arguments of the laws, opened: a slice of bytes and a slice of slices of bytes read as lists. -/
import Derived.Test.YtinpofepmbbehaaRows
import Derived.Test.YtinpofepmbbehaaWMore
import Derived.ProofKit
import Derived.OpenShut
import Derived.SizedLaws
import Derived.Deep.Slices
import Derived.Deep.Matrix
import Derived.ChangeSame
import Derived.ChangeArms
import Derived.ChangeSlices
import Derived.Lib.SmallJoins
namespace Go.Proofs.Ytinpofepmbbehaa.Open
open Go.Joins Go.ChangeShapes Go.WideShapes Go.ChangeAt Go.RowKit Go.Deep
open Go.Proofs.YtinpofepmbbehaaW.PrintWords
set_option linter.unusedVariables false

theorem laidOut : laidOutB Try.prog = true := by kernel_rfl
theorem own : ownKnob Try.prog.godebug = none := by kernel_rfl
def IsB (x : Int) : Prop := 0 ≤ x ∧ x < 256
theorem isB_of {x : Int} (h : (Lit.int .u8 x).wf = true) : IsB x := by
  simp [Lit.wf, IntKind.min, IntKind.max, IntKind.signed, IntKind.bits] at h
  unfold IsB
  omega
section
variable {H : Type} {enc : TypeId × Value → H} {P : Program} {W : World} {base : Nat} {spare : Nat → Bool} {held : Bool}

/-- a row of numbers that is read -/
theorem reads_row {k : IntKind} {A : Option Addr} {n : Nat} {xs : List Int} (hl : xs.length = n) (hn : n ≤ 9223372036854775807) (hc : ∀ i, i < n → ∃ a, A = some a ∧ W.cell? (a.add i) = some (.int k (xs.getD i 0))) :
    (Kd.int k).C W A n xs := by
  refine ⟨hl, hn, fun h => ?_⟩
  obtain ⟨a, e, _⟩ := hc 0 h
  refine ⟨a, e, fun j p hj => ⟨[.int k p], rfl, rfl, fun i u hu => ?_⟩⟩
  have hjl := (List.getElem?_eq_some_iff.1 hj).1
  obtain ⟨a', e', c⟩ := hc j (by omega)
  rw [e] at e'
  injection e' with e'
  subst e'
  match i, hu with
  | 0, hu =>
    simp at hu
    subst hu
    show W.cell? (a.add (j * 1 + 0)) = _
    rw [Nat.mul_one, Nat.add_zero, c, List.getD_eq_getElem?_getD, hj]
    rfl
  | i + 1, hu => simp at hu

theorem open_bytes {b0 : Nat} {v : Value} {d : DataW H} {p : List MemPlace} {ts : List TypeId} {ds : List (DataW H)} {j : Nat} {t q : TypeId}
    (ht : P.underlying t = some (.slice q)) (hq : P.underlying q = some (.int .u8)) (cq : P.cellsOf q = 1) (bq : P.bytesOf q = 1)
    (hsz : (DataW.weightsEach P ts ds).all (· ≤ reachBytes) = true) (hts : ts[j]? = some t) (hds : ds[j]? = some d)
    (hv : Value.okWide P W .any b0 t v) (h : DataW.Trod enc P W base spare held t v d p) :
    ∃ (A : Option Addr) (c : Nat) (l : List Int), v = .slice A l.length c ∧ (Kd.int .u8).C W A l.length l ∧ l.length ≤ c ∧ l.length ≤ 140737488351232 ∧ ∀ x ∈ l, IsB x := by
  obtain ⟨A, len, cap, rfl⟩ := okWide_slice ht hv
  obtain ⟨fuel, hf⟩ := h
  rcases open_ints ht hq cq hf with ⟨hcs, _⟩ | ⟨a, l, c, zs, hcs, _, hl, hm, hz, hx, hcell, hwz⟩
  · simp [Value.cells] at hcs
    obtain ⟨rfl, rfl, rfl⟩ := hcs
    exact ⟨none, 0, [], rfl, ⟨rfl, by simp, fun h => absurd h (by simp)⟩, Nat.le_refl _, by simp, by simp⟩
  · simp [Value.cells] at hcs
    obtain ⟨rfl, rfl, rfl⟩ := hcs
    have hlz : len ≤ zs.length := by rw [hz]; split <;> omega
    have hlen : (zs.take len).length = len := by rw [List.length_take]; omega
    obtain ⟨hx, _⟩ := Prod.mk.inj hx
    subst hx
    have z := sized_slice hsz hts hds ht
    rw [bq] at z
    have h1 : (lits (H := H) .u8 (zs.take len)).length + (lits (H := H) .u8 (zs.drop len)).length = zs.length := by
      simp [lits]
      omega
    rw [h1, show reachBytes = 140737488351232 from rfl] at z
    have hread : (Kd.int .u8).C W (some a) len (zs.take len) := by
      refine reads_row hlen (by unfold maxLen at hm; omega) (fun i hi => ⟨_, rfl, ?_⟩)
      rw [hcell i (by omega)]
      simp only [List.getD_eq_getElem?_getD, List.getElem?_take]
      rw [if_pos hi]
    refine ⟨some a, cap, zs.take len, by rw [hlen], by rw [hlen]; exact hread, by rw [hlen]; exact hl, by rw [hlen]; omega, fun x hx => isB_of (hwz x (List.mem_of_mem_take hx))⟩

theorem open_rows {b0 : Nat} {v : Value} {d : DataW H} {p : List MemPlace} {ts : List TypeId} {ds : List (DataW H)} {j : Nat} {t e q : TypeId}
    (ht : P.underlying t = some (.slice e)) (he : P.underlying e = some (.slice q)) (hq : P.underlying q = some (.int .u8)) (ce : P.cellsOf e = 1) (cq : P.cellsOf q = 1) (be : P.bytesOf e = 24)
    (hsz : (DataW.weightsEach P ts ds).all (· ≤ reachBytes) = true) (hts : ts[j]? = some t) (hds : ds[j]? = some d)
    (hv : Value.okWide P W .any b0 t v) (h : DataW.Trod enc P W base (fun _ => true) held t v d p) :
    ∃ (A : Option Addr) (c : Nat) (l : List (List Int)), v = .slice A l.length c ∧ (Kd.slice q (Kd.int .u8)).C W A l.length l ∧ l.length ≤ c ∧ l.length * 24 ≤ 140737488351232 ∧ ∀ r ∈ l, r.length ≤ 9223372036854775807 ∧ ∀ x ∈ r, IsB x := by
  obtain ⟨A, len, cap, rfl⟩ := okWide_slice ht hv
  obtain ⟨fuel, hf⟩ := h
  rcases open_int_rows ht he hq ce cq hf with ⟨hcs, _⟩ | ⟨a, len', cap', AA, L, C, Z, hcs, _, hl, hm, hx, hr⟩
  · simp [Value.cells] at hcs
    obtain ⟨rfl, rfl, rfl⟩ := hcs
    exact ⟨none, 0, [], rfl, ⟨rfl, by simp, fun h => absurd h (by simp)⟩, Nat.le_refl _, by simp, by simp⟩
  · simp [Value.cells] at hcs
    obtain ⟨rfl, rfl, rfl⟩ := hcs
    obtain ⟨hx, _⟩ := Prod.mk.inj hx
    subst hx
    have z := sized_slice hsz hts hds ht
    rw [be] at z
    simp only [List.length_map, List.length_range] at z
    rw [show reachBytes = 140737488351232 from rfl] at z
    have hlen : ((List.range len).map fun r => (Z r).take (L r)).length = len := by simp
    have hrow : ∀ r, r < len → ((Z r).take (L r)).length = L r := fun r h => by
      have := hr r (by omega)
      rw [List.length_take]
      omega
    have hread : (Kd.slice q (Kd.int .u8)).C W (some a) len ((List.range len).map fun r => (Z r).take (L r)) := by
      refine ⟨hlen, by unfold maxLen at hm; omega, fun _ => ⟨a, rfl, fun i p hp => ?_⟩⟩
      have hil : i < len := by
        have := (List.getElem?_eq_some_iff.1 hp).1
        rw [hlen] at this
        exact this
      rw [List.getElem?_map, List.getElem?_range hil] at hp
      simp only [Option.map_some, Option.some.injEq] at hp
      obtain ⟨h1, h2, h3, h4, h5, h6, h7⟩ := hr i (by omega)
      refine ⟨[.slice (AA i) (L i) (C i)], rfl, ⟨AA i, C i, ?_, ?_, ?_⟩, fun m u hu => ?_⟩
      · rw [← hp, hrow i hil]
      · rw [← hp, hrow i hil]; exact h2
      · rw [← hp, hrow i hil]
        refine reads_row (hrow i hil) (by unfold maxLen at h3; omega) (fun c hc => ?_)
        cases hA : AA i with
        | none => have := h6 hA; omega
        | some a' =>
          refine ⟨a', rfl, ?_⟩
          rw [(h7 a' hA).2 c (by omega)]
          simp only [List.getD_eq_getElem?_getD, List.getElem?_take]
          rw [if_pos hc]
      · match m, hu with
        | 0, hu =>
          simp at hu
          subst hu
          show W.cell? (a.add (i * 1 + 0)) = _
          rw [Nat.mul_one, Nat.add_zero]
          exact h1
        | m + 1, hu => simp at hu
    refine ⟨some a, cap, _, by rw [hlen], by rw [hlen]; exact hread, by rw [hlen]; exact hl, by rw [hlen]; omega, fun r hrr => ?_⟩
    obtain ⟨i, hi, rfl⟩ := List.mem_map.1 hrr
    have hil := List.mem_range.1 hi
    obtain ⟨h1, h2, h3, h4, h5, h6, h7⟩ := hr i (by omega)
    refine ⟨by rw [hrow i hil]; unfold maxLen at h3; omega, fun x hx => isB_of (h5 x (List.mem_of_mem_take hx))⟩

/-- an array of four bytes, by value -/
theorem open_arr4 {b0 : Nat} {v : Value} {d : DataW H} {p : List MemPlace} {t q : TypeId} (ht : P.underlying t = some (.array 4 q)) (hq : P.underlying q = some (.int .u8)) (cq : P.cellsOf q = 1) (ct : P.cellsOf t = 4)
    (hv : Value.okWide P W .any b0 t v) (h : DataW.Trod enc P W base spare held t v d p) :
    ∃ x0 x1 x2 x3 : Int, v = .agg #[.int .u8 x0, .int .u8 x1, .int .u8 x2, .int .u8 x3] ∧ IsB x0 ∧ IsB x1 ∧ IsB x2 ∧ IsB x3 := by
  simp only [Value.okWide, ht] at hv
  obtain ⟨cs, rfl, hsz, _⟩ := hv
  obtain ⟨fuel, hf⟩ := h
  obtain ⟨xs, m, _, _, hl, hx4, hg⟩ := DataW.trod_array ht hf
  rw [ct] at hsz
  obtain ⟨l⟩ := cs
  match l, hsz with
  | [c0, c1, c2, c3], _ =>
    have one : ∀ i (c : Value) y, DataW.trod enc P W base spare held m q [c] = xs[i]? → i < xs.length → xs[i]? = some y → ∃ x, c = .int .u8 x ∧ IsB x := by
      intro i c y h _ hy
      rw [hy] at h
      obtain ⟨x, e, _, w⟩ := DataW.trod_int hq h
      simp only [List.cons.injEq, and_true] at e
      exact ⟨x, e, isB_of w⟩
    have g : ∀ i, i < 4 → ∃ y, xs[i]? = some y := fun i hi => ⟨_, List.getElem?_eq_getElem (by omega)⟩
    have h0 := hg 0 (by omega)
    have h1 := hg 1 (by omega)
    have h2 := hg 2 (by omega)
    have h3 := hg 3 (by omega)
    rw [cq] at h0 h1 h2 h3
    obtain ⟨y0, e0⟩ := g 0 (by omega)
    obtain ⟨y1, e1⟩ := g 1 (by omega)
    obtain ⟨y2, e2⟩ := g 2 (by omega)
    obtain ⟨y3, e3⟩ := g 3 (by omega)
    obtain ⟨x0, rfl, w0⟩ := one 0 c0 y0 (by simpa [Value.cells] using h0) (by omega) e0
    obtain ⟨x1, rfl, w1⟩ := one 1 c1 y1 (by simpa [Value.cells] using h1) (by omega) e1
    obtain ⟨x2, rfl, w2⟩ := one 2 c2 y2 (by simpa [Value.cells] using h2) (by omega) e2
    obtain ⟨x3, rfl, w3⟩ := one 3 c3 y3 (by simpa [Value.cells] using h3) (by omega) e3
    exact ⟨x0, x1, x2, x3, rfl, w0, w1, w2, w3⟩

theorem places {t : TypeId} {v : Value} {d : DataW H} {p : List MemPlace} (h : DataW.Trod enc P W base spare held t v d p) : ∀ x ∈ p, x.block < W.heap.size := by
  obtain ⟨m, hm⟩ := h
  exact DataW.trod_lt m _ _ _ hm
end
end Go.Proofs.Ytinpofepmbbehaa.Open
