/- The packer's reader: what Text and Read come to. -/
import Derived.Test.YtlelddljamfblaaPkD
import Derived.Outline
namespace Go.Proofs.Ytlelddljamfblaa.Pk
open Go.RowKit Go.Proofs.YtlelddljamfblaaW.PrintWords Go.Proofs.YtlelddljamfblaaW.PrintLast Go.Proofs.YtlelddljamfblaaW.PrintMore
set_option linter.unusedVariables false
set_option linter.unusedSimpArgs false

def ResS (g q : Nat) (R : List Int × List Int × Bool) (w : World) (e : Ending) (w' : World) : Prop := e = .returned (.string (strOfNums R.1)) ∧ RdAt w' g q R.2.1 R.2.2 ∧ Only (· = g) w w'
theorem ResS.mk {g q : Nat} {R : List Int × List Int × Bool} {s : ByteArray} {n bs : List Int} {bad : Bool} {w w' : World} (h : R = (n, bs, bad)) (hs : s = strOfNums n) (hR : RdAt w' g q bs bad) (hO : Only (· = g) w w') : ResS g q R w (.returned (.string s)) w' := by
  subst h; subst hs
  exact ⟨rfl, hR, hO⟩
theorem rText_nil (most : Int) (w : World) : Calls Try.prog 20 #[.pointer none, .int .i64 most] w fun e w' => e = .returned (.string ⟨#[]⟩) ∧ w = w' := by
  go_enter Try.func20, Try.ntmps20
  go_wp2
  go_ret
  exact ⟨rfl, rfl⟩
theorem info_u8 : (Try.prog.info? 5).map (fun i => (i.zero, i.size, i.bytes)) = some (some (.int .u8 0), 1, 1) := by kernel_rfl
theorem cut_l (A : Option Addr) (n c m : Nat) (hm : m ≤ n) (W : World) :
    (Instr.slice 25 (.slice A n c) (some (.int .i64 (m : Int))) none none).run Try.prog W = .ok (.slice (if c = m then A else A.map (·.add m)) (n - m) (c - m)) W := by
  obtain ⟨i, hi, hz⟩ := Option.map_eq_some_iff.1 info_u8
  simp only [Prod.mk.injEq] at hz
  have hel : Try.prog.elem 25 = 5 := by simp [Program.elem, Try.underlying25]
  have hu : Try.prog.underlying 25 = some (.slice (Try.prog.elem 25)) := by rw [hel]; exact Try.underlying25
  rw [run_slice_l W 25 A n c hu .i64 (m : Int) (Int.natCast_nonneg _) (by omega), hel]
  simp [sizeOf, typeInfo, hi, hz.2.1, sliced, Result.andThen]
theorem cut_h (A : Option Addr) (n c m : Nat) (hm : m ≤ c) (W : World) :
    (Instr.slice 25 (.slice A n c) none (some (.int .i64 (m : Int))) none).run Try.prog W = .ok (.slice A m c) W := by
  obtain ⟨i, hi, hz⟩ := Option.map_eq_some_iff.1 info_u8
  simp only [Prod.mk.injEq] at hz
  have hel : Try.prog.elem 25 = 5 := by simp [Program.elem, Try.underlying25]
  have hu : Try.prog.underlying 25 = some (.slice (Try.prog.elem 25)) := by rw [hel]; exact Try.underlying25
  rw [run_slice_h W 25 A n c hu .i64 (m : Int) (Int.natCast_nonneg _) (by omega), hel]
  simp [sizeOf, typeInfo, hi, hz.2.1, sliced, Result.andThen]
  intro _
  cases A <;> rfl
theorem RdAt.cut {w : World} {g q : Nat} {bs : List Int} {bad : Bool} (h : RdAt w g q bs bad) (m : Nat) (hm : m ≤ bs.length) :
    ∃ off c, bs.length ≤ c ∧ c ≤ 9223372036854775807 ∧ w.cell? ⟨g, 0, none⟩ = some (.slice (some ⟨q, off, none⟩) bs.length c) ∧
      (∀ W : World, (Instr.slice 25 (.slice (some ⟨q, off, none⟩) bs.length c) none (some (.int .i64 (m : Int))) none).run Try.prog W = .ok (.slice (some ⟨q, off, none⟩) m c) W) ∧
      (convert 25 9 (.slice (some ⟨q, off, none⟩) m c)).run Try.prog w = .ok (.string (strOfNums (bs.take m))) w ∧
      ∃ A, (∀ W : World, (Instr.slice 25 (.slice (some ⟨q, off, none⟩) bs.length c) (some (.int .i64 (m : Int))) none none).run Try.prog W = .ok (.slice A (bs.length - m) (c - m)) W) ∧ RdAt (w.setCell ⟨g, 0, none⟩ (.slice A (bs.length - m) (c - m))) g q (bs.drop m) bad := by
  obtain ⟨off, c, hb, hc, hm', hg, hq, hx⟩ := h
  have h0 := blk_cell hb 0
  simp only [List.getElem?_toArray, List.getElem?_cons_zero] at h0
  refine ⟨off, c, hc, hm', h0, fun W => cut_h _ _ _ _ (by omega) W, ?_, some ⟨q, if c = m then off else off + m, none⟩, fun W => ?_, if c = m then off else off + m, c - m, ?_, ?_, by omega, hg, by simpa using hq, ?_⟩
  · refine run_convert_bytes_arg w _ _ Try.underlying25 Try.underlying5 q off m c (bs.take m) (by rw [List.length_take]; omega) (fun i hi => ?_) _ Try.underlying9
    refine hx i _ ?_
    have hil : i < bs.length := by omega
    simp [List.getD_eq_getElem?_getD, List.getElem?_take, hi, hil]
  · rw [cut_l _ _ _ _ hm W]
    congr 2
    by_cases e : c = m
    · rw [if_pos e, if_pos e]
    · rw [if_neg e, if_neg e]
      simp only [Option.map_some, Addr.add]
      by_cases e0 : m = 0
      · subst e0; rfl
      · rw [if_neg e0]
  · rw [blk_set hb, List.length_drop]; rfl
  · rw [List.length_drop]; omega
  · have hx' := (hx.drop m).move (w' := w.setCell ⟨g, 0, none⟩ (.slice (some ⟨q, if c = m then off else off + m, none⟩) (bs.length - m) (c - m))) (Below.heap_setCell _ _ _ _ (Ne.symm hg))
    by_cases e : c = m
    · intro j x hj
      have := (List.getElem?_eq_some_iff.1 hj).1
      rw [List.length_drop] at this
      omega
    · rw [if_neg e] at hx' ⊢
      exact hx'

set_option maxHeartbeats 1000000 in
theorem rText_c (most : Int) (g q : Nat) (bs : List Int) (bad : Bool) (w : World) (h : RdAt w g q bs bad) (hb : ∀ x ∈ bs, IsB x) :
    Calls Try.prog 20 #[.pointer (some ⟨g, 0, none⟩), .int .i64 most] w (ResS g q (rtext most bs bad) w) := by
  have C := Aside0.mk (number_c g q bs bad w h hb)
  have hn := rnum_nonneg bs bad
  clear hb
  have hT := Aside0.mk (show rtext most bs bad = if (rnum bs bad).2.2 = true ∨ (rnum bs bad).1 > most ∨ (rnum bs bad).1 > ((rnum bs bad).2.1.length : Int) then ([], (rnum bs bad).2.1, true) else ((rnum bs bad).2.1.take (rnum bs bad).1.toNat, (rnum bs bad).2.1.drop (rnum bs bad).1.toNat, false) from rfl)
  generalize rtext most bs bad = R at *
  generalize rnum bs bad = R1 at *
  obtain ⟨n, bs1, bad1⟩ := R1
  simp only at hT hn
  obtain ⟨m, rfl⟩ := Int.eq_ofNat_of_zero_le hn
  clear hn
  have empty : (⟨#[]⟩ : ByteArray) = strOfNums [] := rfl
  have E := Aside0.mk empty
  clear empty
  cases bad1
  · by_cases h1 : most < (m : Int)
    · have h6 := Aside0.mk (show R = ([], bs1, true) by rw [hT.out, if_pos (.inr (.inl h1))])
      have h1' : decide (most < (m : Int)) = true := decide_eq_true h1
      go_enter Try.func20, Try.ntmps20
      go_wp2_with (refine C.out.mono ?_; rintro e w' ⟨rfl, hR1, hO1⟩; have c1 := hR1.flag; have f1 := hR1.frozen1)
      go_ret
      exact ResS.mk h6.out E.out (hR1.spoil true) (hO1.set (.inr rfl) _)
    · have h1' : decide (most < (m : Int)) = false := decide_eq_false h1
      by_cases h2 : bs1.length < m
      · have h6 := Aside0.mk (show R = ([], bs1, true) by rw [hT.out, if_pos (.inr (.inr (by omega)))])
        have h2' : decide (bs1.length < m) = true := decide_eq_true h2
        go_enter Try.func20, Try.ntmps20
        go_wp2_with (refine C.out.mono ?_; rintro e w' ⟨rfl, hR1, hO1⟩; have c1 := hR1.flag; have f1 := hR1.frozen1; obtain ⟨off, c, hc, hm, c0, _⟩ := hR1.cut 0 (by omega))
        go_ret
        exact ResS.mk h6.out E.out (hR1.spoil true) (hO1.set (.inr rfl) _)
      · have h6 := Aside0.mk (show R = (bs1.take m, bs1.drop m, false) by rw [hT.out, if_neg (by simp; omega)]; rfl)
        have h2' : decide (bs1.length < m) = false := decide_eq_false h2
        have h2n : m ≤ bs1.length := by omega
        go_enter Try.func20, Try.ntmps20
        go_wp2_with (refine C.out.mono ?_; rintro e w' ⟨rfl, hR1, hO1⟩; have c1 := hR1.flag; have f0 := hR1.frozen0; obtain ⟨off, c, hc, hm, c0, k1, k2, A, k3, hR2⟩ := hR1.cut m h2n)
        go_ret
        exact ResS.mk h6.out rfl hR2 (hO1.set (.inr rfl) _)
  · have h6 := Aside0.mk (show R = ([], bs1, true) by rw [hT.out, if_pos (.inl rfl)])
    go_enter Try.func20, Try.ntmps20
    go_wp2_with (refine C.out.mono ?_; rintro e w' ⟨rfl, hR1, hO1⟩; have c1 := hR1.flag; have f1 := hR1.frozen1)
    go_ret
    exact ResS.mk h6.out E.out (hR1.spoil true) (hO1.set (.inr rfl) _)

/-- A new reader of the bytes xs. -/
def IsRead (xs : List Int) (w : World) (e : Ending) (w' : World) : Prop :=
  ∃ g q, e = .returned (.pointer (some ⟨g, 0, none⟩)) ∧ RdAt w' g q xs false ∧ w.heap.size ≤ g ∧ w.heap.size ≤ q ∧ g < w'.heap.size ∧ Below w.heap.size w w'
theorem row_some {w : World} {base : Nat} {v v0 : Value} {n : Nat} {e : TypeId} {xs : List Value} (h : w.ownsRow base e 1 v n xs) {b0 B : Nat} (hv : v0.ownBlock = some b0) (hat : v.ownBlock = v0.ownBlock ∨ ∃ b, v.ownBlock = some b ∧ B ≤ b) :
    ∃ g cap, v = .slice (some ⟨g, 0, none⟩) n cap ∧ base ≤ g ∧ g < w.heap.size ∧ n ≤ cap ∧ cap ≤ 9223372036854775807 ∧ ∀ j u, xs[j]? = some u → w.cell? ⟨g, j, none⟩ = some u := by
  rcases h.2 with ⟨rfl, _⟩ | ⟨g, cap, cur, rfl, hb, hh, h1, h2, h3, h4⟩
  · rw [hv] at hat
    simp [Value.ownBlock] at hat
  · refine ⟨g, cap, rfl, hb, (Array.getElem?_eq_some_iff.1 hh).1, h1, h2, fun j u hj => ?_⟩
    have := h.cells (g := g) rfl j u hj
    rwa [add_plain] at this
set_option maxHeartbeats 1000000 in
theorem read_c (A : Option Addr) (n c : Nat) (xs : List Int) (w : World) (hr : ReadsInt w .u8 A n xs) (hn : n ≤ 140737488355328) :
    Calls Try.prog 18 #[.slice A n c] w (IsRead xs w) := by
  have HL := Aside0.mk hr.1
  have HR := Aside0.mk hr
  have HO := Aside0.mk (own_lit w w.heap.size 5 .u8 [] (Nat.le_refl _) (by simp))
  clear hr
  go_enter Try.func18, Try.ntmps18
  go_wp2_with (at_builtin; refine print_append_row (w0 := w) w.heap.size rfl (.tmp 3) (.tmp 4) 25 5 .u8 1 rfl Try.underlying25 info_u8 (by decide) (.slice (some ⟨w.heap.size, 0, none⟩) 0 0) [] xs A n c rfl rfl HO.out (HR.out.allocS _) (below_alloc (Below.refl _ _) _) (by simp) (by simpa using hn) ?_; intro v1 w1 hO hB hg hat; obtain ⟨g1, cap, rfl, k1, k2, k3, k4, k5⟩ := row_some hO (b0 := w.heap.size) rfl hat; have K3 := Aside0.mk k3; have K5 := Aside0.mk k5; have HB := Aside0.mk hB; clear hO hg hat k3 k5 hB)
  go_ret
  refine ⟨_, g1, rfl, ⟨0, cap, heap_alloc_new _ _, ?_, k4, by omega, by simp; omega, ?_⟩, HB.out.size, k1, by simp, below_alloc HB.out _⟩
  · simpa using K3.out
  · intro j x hj
    rw [World.cell?_alloc_lt _ _ _ k2, Nat.zero_add]
    exact K5.out j _ (by simp [nums, hj])
end Go.Proofs.Ytlelddljamfblaa.Pk
