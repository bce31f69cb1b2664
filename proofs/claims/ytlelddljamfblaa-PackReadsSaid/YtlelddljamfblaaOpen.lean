/- Arguments of the packer's laws, opened: bytes, numbers, items and questions read as lists. -/
import Derived.Test.YtlelddljamfblaaPPkx0
import Derived.Test.YtlelddljamfblaaRows
import Derived.Test.YtlelddljamfblaaWMore
import Derived.ProofKit
import Derived.OpenShut
import Derived.SizedLaws
import Derived.Deep.Slices
import Derived.Deep.Fields
import Derived.Deep.Matrix
import Derived.ChangeSame
import Derived.ChangeArms
import Derived.ChangeSlices
import Derived.Lib.SmallJoins
namespace Go.Proofs.Ytlelddljamfblaa.Open
open Go.Joins Go.ChangeShapes Go.WideShapes Go.ChangeAt Go.RowKit Go.Deep
open Go.Proofs.YtlelddljamfblaaW.PrintWords Go.Proofs.Ytlelddljamfblaa.PPk
set_option linter.unusedVariables false

theorem laidOut : laidOutB Try.prog = true := by kernel_rfl
theorem own : ownKnob Try.prog.godebug = none := by kernel_rfl
def IsB (x : Int) : Prop := 0 ≤ x ∧ x < 256
def wfI (x : Int) : Prop := (Lit.int .i64 x).wf = true
theorem isB_of {x : Int} (h : (Lit.int .u8 x).wf = true) : IsB x := by
  simp [Lit.wf, IntKind.min, IntKind.max, IntKind.signed, IntKind.bits] at h
  unfold IsB
  omega
theorem wfI_bd {x : Int} (h : wfI x) : -9223372036854775808 ≤ x ∧ x ≤ 9223372036854775807 := by
  unfold wfI at h
  simp [Lit.wf, IntKind.min, IntKind.max, IntKind.signed, IntKind.bits] at h
  omega
section
variable {H : Type} {enc : TypeId × Value → H} {P : Program} {W : World} {base : Nat} {spare : Nat → Bool} {held : Bool}

/-- a row of numbers that is read -/
theorem reads_row {k : IntKind} {A : Option Addr} {n : Nat} {xs : List Int} (hl : xs.length = n) (hn : n ≤ 9223372036854775807) (hc : ∀ i, i < n → ∃ a, A = some a ∧ W.cell? (a.add i) = some (.int k (xs.getD i 0))) :
    (Kd.int k).C W A n xs := by
  refine ⟨hl, hn, fun h => ?_⟩
  obtain ⟨a, e, _⟩ := hc 0 h
  refine ⟨a, e, fun j p hj => ⟨[.int k p], rfl, rfl, fun i u hu => ?_⟩⟩
  have hjl := (List.getElem?_eq_some_iff.1 hj).1
  obtain ⟨a', e', c⟩ := hc j (by omega)
  rw [e] at e'
  injection e' with e'
  subst e'
  match i, hu with
  | 0, hu =>
    simp at hu
    subst hu
    show W.cell? (a.add (j * 1 + 0)) = _
    rw [Nat.mul_one, Nat.add_zero, c, List.getD_eq_getElem?_getD, hj]
    rfl
  | i + 1, hu => simp at hu

theorem open_bytes {b0 : Nat} {v : Value} {d : DataW H} {p : List MemPlace} {ts : List TypeId} {ds : List (DataW H)} {j : Nat} {t q : TypeId}
    (ht : P.underlying t = some (.slice q)) (hq : P.underlying q = some (.int .u8)) (cq : P.cellsOf q = 1) (bq : P.bytesOf q = 1)
    (hsz : (DataW.weightsEach P ts ds).all (· ≤ reachBytes) = true) (hts : ts[j]? = some t) (hds : ds[j]? = some d)
    (hv : Value.okWide P W .any b0 t v) (h : DataW.Trod enc P W base spare held t v d p) :
    ∃ (A : Option Addr) (c : Nat) (l : List Int), v = .slice A l.length c ∧ (Kd.int .u8).C W A l.length l ∧ l.length ≤ c ∧ l.length ≤ 140737488351232 ∧ ∀ x ∈ l, IsB x := by
  obtain ⟨A, len, cap, rfl⟩ := okWide_slice ht hv
  obtain ⟨fuel, hf⟩ := h
  rcases open_ints ht hq cq hf with ⟨hcs, _⟩ | ⟨a, l, c, zs, hcs, _, hl, hm, hz, hx, hcell, hwz⟩
  · simp [Value.cells] at hcs
    obtain ⟨rfl, rfl, rfl⟩ := hcs
    exact ⟨none, 0, [], rfl, ⟨rfl, by simp, fun h => absurd h (by simp)⟩, Nat.le_refl _, by simp, by simp⟩
  · simp [Value.cells] at hcs
    obtain ⟨rfl, rfl, rfl⟩ := hcs
    have hlz : len ≤ zs.length := by rw [hz]; split <;> omega
    have hlen : (zs.take len).length = len := by rw [List.length_take]; omega
    obtain ⟨hx, _⟩ := Prod.mk.inj hx
    subst hx
    have z := sized_slice hsz hts hds ht
    rw [bq] at z
    have h1 : (lits (H := H) .u8 (zs.take len)).length + (lits (H := H) .u8 (zs.drop len)).length = zs.length := by
      simp [lits]
      omega
    rw [h1, show reachBytes = 140737488351232 from rfl] at z
    have hread : (Kd.int .u8).C W (some a) len (zs.take len) := by
      refine reads_row hlen (by unfold maxLen at hm; omega) (fun i hi => ⟨_, rfl, ?_⟩)
      rw [hcell i (by omega)]
      simp only [List.getD_eq_getElem?_getD, List.getElem?_take]
      rw [if_pos hi]
    refine ⟨some a, cap, zs.take len, by rw [hlen], by rw [hlen]; exact hread, by rw [hlen]; exact hl, by rw [hlen]; omega, fun x hx => isB_of (hwz x (List.mem_of_mem_take hx))⟩

theorem open_nums {b0 : Nat} {v : Value} {d : DataW H} {p : List MemPlace} {ts : List TypeId} {ds : List (DataW H)} {j : Nat} {t q : TypeId}
    (ht : P.underlying t = some (.slice q)) (hq : P.underlying q = some (.int .i64)) (cq : P.cellsOf q = 1) (bq : P.bytesOf q = 8)
    (hsz : (DataW.weightsEach P ts ds).all (· ≤ reachBytes) = true) (hts : ts[j]? = some t) (hds : ds[j]? = some d)
    (hv : Value.okWide P W .any b0 t v) (h : DataW.Trod enc P W base spare held t v d p) :
    ∃ (A : Option Addr) (c : Nat) (l : List Int), v = .slice A l.length c ∧ (Kd.int .i64).C W A l.length l ∧ l.length ≤ c ∧ l.length * 8 ≤ 140737488351232 ∧ ∀ x ∈ l, wfI x := by
  obtain ⟨A, len, cap, rfl⟩ := okWide_slice ht hv
  obtain ⟨fuel, hf⟩ := h
  rcases open_ints ht hq cq hf with ⟨hcs, _⟩ | ⟨a, l, c, zs, hcs, _, hl, hm, hz, hx, hcell, hwz⟩
  · simp [Value.cells] at hcs
    obtain ⟨rfl, rfl, rfl⟩ := hcs
    exact ⟨none, 0, [], rfl, ⟨rfl, by simp, fun h => absurd h (by simp)⟩, Nat.le_refl _, by simp, by simp⟩
  · simp [Value.cells] at hcs
    obtain ⟨rfl, rfl, rfl⟩ := hcs
    have hlz : len ≤ zs.length := by rw [hz]; split <;> omega
    have hlen : (zs.take len).length = len := by rw [List.length_take]; omega
    obtain ⟨hx, _⟩ := Prod.mk.inj hx
    subst hx
    have z := sized_slice hsz hts hds ht
    rw [bq] at z
    have h1 : (lits (H := H) .i64 (zs.take len)).length + (lits (H := H) .i64 (zs.drop len)).length = zs.length := by
      simp [lits]
      omega
    rw [h1, show reachBytes = 140737488351232 from rfl] at z
    have hread : (Kd.int .i64).C W (some a) len (zs.take len) := by
      refine reads_row hlen (by unfold maxLen at hm; omega) (fun i hi => ⟨_, rfl, ?_⟩)
      rw [hcell i (by omega)]
      simp only [List.getD_eq_getElem?_getD, List.getElem?_take]
      rw [if_pos hi]
    refine ⟨some a, cap, zs.take len, by rw [hlen], by rw [hlen]; exact hread, by rw [hlen]; exact hl, by rw [hlen]; omega, fun x hx => hwz x (List.mem_of_mem_take hx)⟩

theorem open_slice_fields {t e : TypeId} {fs : Array Field} {fuel : Nat} {cs : List Value} {x : DataW H × List MemPlace} (ht : P.underlying t = some (.slice e)) (he : P.underlying e = some (.struct fs))
    (hone : oneCellFields P fs = true) (hC : P.cellsOf e = fs.size) (h : DataW.trod enc P W base spare held fuel t cs = some x) :
    (cs = [.slice none 0 0] ∧ x = (.nil, [])) ∨
    ∃ (a : Addr) (len cap m : Nat) (D : Nat → DataW H) (Pl : Nat → List MemPlace), cs = [.slice (some a) len cap] ∧ base ≤ a.block ∧ len ≤ cap ∧ cap ≤ maxLen ∧ m = (if spare a.block then cap else len) ∧
      x = (.slice ((List.range len).map D) ((List.range (m - len)).map fun j => D (len + j)), MemPlace.row a (m * fs.size) ++ (List.range m).flatMap Pl) ∧
      ∀ i, i < m → ∃ (ys : List (DataW H × List MemPlace)) (n : Nat), D i = .agg (ys.map (·.1)) ∧ Pl i = ys.flatMap (·.2) ∧ ys.length = fs.size ∧
        ∀ (j : Nat) (f : Field), fs[j]? = some f → ∃ (v : Value) (y : DataW H × List MemPlace), W.cell? (a.add (i * fs.size + j)) = some v ∧ ys[j]? = some y ∧ DataW.trod enc P W base spare held n f.type [v] = some y := by
  rcases open_slice ht h with h0 | ⟨a, len, cap, m, n, D, Pl, hcs, hb, hl, hm, hmm, hx, hi⟩
  · exact .inl h0
  · refine .inr ⟨a, len, cap, m, D, Pl, hcs, hb, hl, hm, hmm, by rw [hC] at hx; exact hx, fun i him => ?_⟩
    obtain ⟨cs', hc, ht'⟩ := hi i him
    rw [hC] at hc
    obtain ⟨ys, n', hn', hy, hlen, hyl, hf⟩ := DataW.trod_struct he ht'
    obtain ⟨_, hcl, hat⟩ := World.cells?_some hc
    simp only [Prod.mk.injEq] at hy
    refine ⟨ys, n', hy.1, hy.2, hyl, fun j f hj => ?_⟩
    obtain ⟨ho, hk⟩ := hone_of hone j f hj
    have hjl : j < fs.size := (Array.getElem?_eq_some_iff.1 hj).1
    have hcell := hat j hjl
    have hv : cs'[j]? = some (cs'[j]'(by omega)) := List.getElem?_eq_getElem (by omega)
    have h1 := hf j f hj
    rw [ho, hk] at h1
    have hone' : (cs'.drop j).take 1 = [cs'[j]'(by omega)] := by
      rw [List.drop_eq_getElem_cons (by omega)]
      rfl
    rw [hone'] at h1
    have hys : ys[j]? = some (ys[j]'(by omega)) := List.getElem?_eq_getElem (by omega)
    refine ⟨_, _, ?_, hys, h1.trans hys⟩
    rw [← Go.Deep.add_add, hcell, hv]
end
/-- What is so of each place is so of a list. -/
theorem list_of {α : Type} {p : Nat → α → Prop} : ∀ n : Nat, (∀ i, i < n → ∃ e, p i e) → ∃ l : List α, l.length = n ∧ ∀ i e, l[i]? = some e → p i e
  | 0, _ => ⟨[], rfl, fun i e h => by simp at h⟩
  | n + 1, key => by
    obtain ⟨l, h1, h2⟩ := list_of n (fun i hi => key i (by omega))
    obtain ⟨e, he⟩ := key n (by omega)
    refine ⟨l ++ [e], by simp [h1], fun i e' h => ?_⟩
    rcases Nat.lt_or_ge i l.length with hlt | hge
    · rw [List.getElem?_append_left hlt] at h
      exact h2 i e' h
    · have hil : i = l.length := by
        have := (List.getElem?_eq_some_iff.1 h).1
        simp at this
        omega
      subst hil
      simp at h
      subst h
      rw [h1]
      exact he
section
variable {H : Type} {enc : TypeId × Value → H} {W : World} {base : Nat} {spare : Nat → Bool} {held : Bool}
def cells_items (W : World) (a : Addr) (i : Nat) (e : S46) : Prop := W.cell? (a.add (i * 3 + 0)) = some (.int .i64 e.f0) ∧ W.cell? (a.add (i * 3 + 1)) = some (.int .i64 e.f1) ∧ W.cell? (a.add (i * 3 + 2)) = some (.string e.f2)
def Wf_items (e : S46) : Prop := wfI e.f0 ∧ wfI e.f1
theorem open_items {b0 : Nat} {v : Value} {d : DataW H} {p : List MemPlace} {ts : List TypeId} {ds : List (DataW H)} {j : Nat}
    (hsz : (DataW.weightsEach Try.prog ts ds).all (· ≤ reachBytes) = true) (hts : ts[j]? = some 35) (hds : ds[j]? = some d)
    (hv : Value.okWide Try.prog W .any b0 35 v) (h : DataW.Trod enc Try.prog W base spare held 35 v d p) :
    ∃ (A : Option Addr) (c : Nat) (l : List S46), v = .slice A l.length c ∧ Kd.C k46 W A l.length l ∧ l.length ≤ c ∧ l.length * 32 ≤ 140737488351232 ∧ ∀ e ∈ l, Wf_items e := by
  obtain ⟨A, len, cap, rfl⟩ := okWide_slice Try.underlying35 hv
  obtain ⟨fuel, hf⟩ := h
  rcases open_slice_fields Try.underlying35 Try.underlying46 (by kernel_rfl) (by kernel_rfl) hf with ⟨hcs, _⟩ | ⟨a, len', cap', m, D, Pl, hcs, hb, hl, hm, hmm, hx, hi⟩
  · simp [Value.cells] at hcs
    obtain ⟨rfl, rfl, rfl⟩ := hcs
    exact ⟨none, 0, [], rfl, ⟨rfl, by simp, fun h => absurd h (by simp)⟩, Nat.le_refl _, by simp, by simp⟩
  · simp [Value.cells] at hcs
    obtain ⟨rfl, rfl, rfl⟩ := hcs
    simp only [Prod.mk.injEq] at hx
    obtain ⟨rfl, _⟩ := hx
    have hlm : len ≤ m := by rw [hmm]; split <;> omega
    have key : ∀ i, i < len → ∃ e : S46, cells_items W a i e ∧ Wf_items e := by
      intro i hil
      obtain ⟨ys, n, _, _, _, hf⟩ := hi i (by omega)
      obtain ⟨v0, y0, c0, _, t0⟩ := hf 0 _ rfl
      obtain ⟨v1, y1, c1, _, t1⟩ := hf 1 _ rfl
      obtain ⟨v2, y2, c2, _, t2⟩ := hf 2 _ rfl
      obtain ⟨x0, e0, _, w0⟩ := DataW.trod_int Try.underlying3 t0
      obtain ⟨x1, e1, _, w1⟩ := DataW.trod_int Try.underlying3 t1
      obtain ⟨x2, e2, _, w2⟩ := DataW.trod_string Try.underlying9 t2
      simp only [List.cons.injEq, and_true] at e0 e1 e2
      subst e0 e1 e2
      exact ⟨⟨x0, x1, x2⟩, ⟨c0, c1, c2⟩, ⟨w0, w1⟩⟩
    obtain ⟨l, hl1, hl2⟩ := list_of len key
    subst hl1
    refine ⟨some a, cap, l, rfl, ⟨rfl, ?_, fun _ => ⟨a, rfl, fun i e he => ?_⟩⟩, hl, ?_, fun e he => ?_⟩
    · unfold maxLen at hm; omega
    · obtain ⟨⟨c0, c1, c2⟩, _⟩ := hl2 i e he
      refine ⟨[.int .i64 e.f0, .int .i64 e.f1, .string e.f2], rfl, k46_mk W e, fun q u hq => ?_⟩
      match q, hq with
      | 0, hq => simp at hq; subst hq; exact c0
      | 1, hq => simp at hq; subst hq; exact c1
      | 2, hq => simp at hq; subst hq; exact c2
      | q + 3, hq => simp at hq
    · have z := sized_slice hsz hts hds Try.underlying35
      rw [show Try.prog.bytesOf 46 = 32 from by kernel_rfl] at z
      simp only [List.length_map, List.length_range] at z
      exact Nat.le_trans (Nat.mul_le_mul_right _ (by omega)) z
    · obtain ⟨i, hi⟩ := List.mem_iff_getElem?.1 he
      exact (hl2 i e hi).2
theorem places {t : TypeId} {v : Value} {d : DataW H} {p : List MemPlace} (h : DataW.Trod enc Try.prog W base spare held t v d p) : ∀ x ∈ p, x.block < W.heap.size := by
  obtain ⟨m, hm⟩ := h
  exact DataW.trod_lt m _ _ _ hm
end
end Go.Proofs.Ytlelddljamfblaa.Open
