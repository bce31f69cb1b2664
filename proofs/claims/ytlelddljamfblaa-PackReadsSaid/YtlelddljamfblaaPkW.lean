/- The reference's reader: what Num, Flag, Text and Whole come to. -/
import Derived.Test.YtlelddljamfblaaPkV
import Derived.Test.YtlelddljamfblaaPkM
import Derived.Test.YtlelddljamfblaaPkI
import Derived.Outline
namespace Go.Proofs.Ytlelddljamfblaa.Pk
open Go.RowKit Go.Proofs.YtlelddljamfblaaW.PrintWords Go.Proofs.YtlelddljamfblaaW.PrintLast Go.Proofs.YtlelddljamfblaaW.PrintMore Go.Proofs.Ytlelddljamfblaa.PPk
set_option linter.unusedVariables false
set_option linter.unusedSimpArgs false

def fnum (most : Int) (B : List Int) (a : Nat) (bad : Bool) : Int × Nat × Bool :=
  if bad = true then (0, a, true) else
    if (rnum (B.drop a) false).2.2 = true ∨ (rnum (B.drop a) false).1 > most then (0, a, true) else ((rnum (B.drop a) false).1, B.length - (rnum (B.drop a) false).2.1.length, false)
/-- The reference's reader at block g; its bytes came in by w0. -/
structure Rf (w0 W : World) (g : Nat) (A : Option Addr) (c : Nat) (B : List Int) (a : Nat) (bad : Bool) : Prop where
  blk : W.heap[g]? = some (.cells #[.slice A B.length c, .int .i64 (a : Int), .bool bad] 54 (0, 0))
  ge : w0.heap.size ≤ g
  bel : Below w0.heap.size w0 W
  le : a ≤ B.length
/-- What is so of the bytes. -/
structure RfB (w0 : World) (A : Option Addr) (c : Nat) (B : List Int) : Prop where
  reads : ReadsInt w0 .u8 A B.length B
  cap : B.length ≤ c
  isB : ∀ x ∈ B, IsB x
section
variable {w0 W W2 : World} {g : Nat} {A : Option Addr} {c : Nat} {B : List Int} {a : Nat} {bad : Bool}
theorem Rf.c0 (h : Rf w0 W g A c B a bad) : W.cell? ⟨g, 0, none⟩ = some (.slice A B.length c) := by rw [blk_cell h.blk]; rfl
theorem Rf.c1 (h : Rf w0 W g A c B a bad) : W.cell? ⟨g, 1, none⟩ = some (.int .i64 (a : Int)) := by rw [blk_cell h.blk]; rfl
theorem Rf.c2 (h : Rf w0 W g A c B a bad) : W.cell? ⟨g, 2, none⟩ = some (.bool bad) := by rw [blk_cell h.blk]; rfl
theorem Rf.fz (h : Rf w0 W g A c B a bad) (i : Nat) : W.frozen? ⟨g, i, none⟩ = false := blk_frozen h.blk i
theorem Rf.spoil (h : Rf w0 W g A c B a bad) : Rf w0 (W.setCell ⟨g, 2, none⟩ (.bool true)) g A c B a true := ⟨by rw [blk_set h.blk]; rfl, h.ge, below_only h.bel (Only.at_ _ _ _ _) (fun k hk => by subst hk; exact h.ge), h.le⟩
theorem Rf.move (h : Rf w0 W g A c B a bad) (a2 : Nat) (h2 : a2 ≤ B.length) : Rf w0 (W.setCell ⟨g, 1, none⟩ (.int .i64 (a2 : Int))) g A c B a2 bad := ⟨by rw [blk_set h.blk]; rfl, h.ge, below_only h.bel (Only.at_ _ _ _ _) (fun k hk => by subst hk; exact h.ge), h2⟩
theorem Rf.only {S : Nat → Prop} (h : Rf w0 W g A c B a bad) (hO : Only S W W2) (hs : ∀ k, S k → w0.heap.size ≤ k) (hg : ¬ S g) : Rf w0 W2 g A c B a bad := ⟨hO.blk h.blk hg, h.ge, below_only h.bel hO hs, h.le⟩
theorem Rf.below (h : Rf w0 W g A c B a bad) (hB : Below W.heap.size W W2) : Rf w0 W2 g A c B a bad := h.only (Only.of_below hB (fun _ => False)) (fun _ h => h.elim) id
end
/-- What a call leaves. -/
def IsF (v : Value) (a : Nat) (bad : Bool) (w0 : World) (g : Nat) (A : Option Addr) (c : Nat) (B : List Int) (w : World) (e : Ending) (w' : World) : Prop := e = .returned v ∧ Rf w0 w' g A c B a bad ∧ Only (· = g) w w'
theorem fnum_cases (most : Int) (B : List Int) (a : Nat) (ha : a ≤ B.length) (bad : Bool) : (bad = true ∧ fnum most B a bad = (0, a, true)) ∨ (bad = false ∧ numR B a = (0, 0, false) ∧ fnum most B a bad = (0, a, true)) ∨
    (bad = false ∧ ∃ (n : Int) (b2 : Nat), numR B a = (n, (b2 : Int), true) ∧ b2 ≤ B.length ∧ 0 ≤ n ∧ ((most < n ∧ fnum most B a bad = (0, a, true)) ∨ (n ≤ most ∧ fnum most B a bad = (n, b2, false)))) := by
  unfold fnum
  cases bad
  · rw [if_neg (by simp)]
    have hn := rnum_nonneg (B.drop a) false
    obtain ⟨m, hm⟩ := rnum_suffix (B.drop a) false
    have hl := congrArg List.length hm
    rw [List.length_drop, List.length_drop] at hl
    generalize hR : rnum (B.drop a) false = R at *
    obtain ⟨n, t, b⟩ := R
    simp only at hl hn ⊢
    cases b
    · refine .inr (.inr ⟨by first | rfl | trivial, n, B.length - t.length, ?_, by omega, hn, ?_⟩)
      · rw [numR_ok hR]
        have : (B.length : Int) - (t.length : Int) = ((B.length - t.length : Nat) : Int) := by omega
        rw [this]
      · by_cases h : most < n
        · exact .inl ⟨h, if_pos (.inr h)⟩
        · exact .inr ⟨by omega, if_neg (by simp; omega)⟩
    · exact .inr (.inl ⟨by first | rfl | trivial, numR_bad (by rw [hR]; simp), if_pos (.inl (by first | rfl | trivial))⟩)
  · exact .inl ⟨rfl, if_pos rfl⟩
set_option maxRecDepth 100000 in
set_option maxHeartbeats 4000000 in
theorem fNum_c (most : Int) (w0 w : World) (g : Nat) (A : Option Addr) (c : Nat) (B : List Int) (a : Nat) (bad : Bool) (h : Rf w0 w g A c B a bad) (hb : RfB w0 A c B) :
    Calls Try.prog 23 #[.pointer (some ⟨g, 0, none⟩), .int .i64 most] w (IsF (.int .i64 (fnum most B a bad).1) (fnum most B a bad).2.1 (fnum most B a bad).2.2 w0 g A c B w) := by
  have c0 := h.c0
  have c1 := h.c1
  have c2 := h.c2
  have f1 := h.fz 1
  have f2 := h.fz 2
  have H := Aside0.mk h
  have HO := Aside0.mk (Only.refl (· = g) w)
  have C := Aside0.mk (fun W (hB : Below w.heap.size w W) => number_r A c B.length B a W rfl ((hb.reads.below h.bel).below hB) hb.cap h.le hb.isB)
  have e := fnum_cases most B a h.le bad
  have hle := h.le
  clear h hb
  generalize fnum most B a bad = R at *
  generalize numR B a = R2 at *
  generalize hlen : B.length = n at *
  have HLen := Aside0.mk hlen
  clear hlen
  have hga := World.block_lt_of_cell? w _ c0
  rcases e with ⟨rfl, e⟩ | ⟨rfl, e2, e⟩ | ⟨rfl, m, b2, e2, hto, hm0, e⟩
  · subst e
    go_enter Try.func23, Try.ntmps23
    go_wp2
    go_ret
    exact ⟨rfl, H.out, HO.out⟩
  · subst e2
    subst e
    go_enter Try.func23, Try.ntmps23
    go_wp2
    go_region_held3 (fun W => W.cell? ⟨g, 0, none⟩ = some (.slice A n c) ∧ W.cell? ⟨g, 1, none⟩ = some (.int .i64 (a : Int))) (go_keep) ((go_at_call 33; (with_reducible refine (C.out _ (Below.drew (Below.refl _ _))).mono ?_); rintro e w4 ⟨rfl, hB⟩; have HB4 := Aside0.mk (show Below w.heap.size w w4 from below_step (Below.drew (Below.refl _ _)) hB); have cc0 := (HB4.out.cell (p := ⟨g, 0, none⟩) hga).trans c0; have cc1 := (HB4.out.cell (p := ⟨g, 1, none⟩) hga).trans c1; have cc2 := (HB4.out.cell (p := ⟨g, 2, none⟩) hga).trans c2; have ff1 := (HB4.out.frozen (p := ⟨g, 1, none⟩) hga).trans f1; have ff2 := (HB4.out.frozen (p := ⟨g, 2, none⟩) hga).trans f2; clear hB))
    go_wp2
    go_ret
    exact ⟨rfl, (H.out.below HB4.out).spoil, (Only.of_below HB4.out (· = g)).then_ (Only.at_ _ _ _ _)⟩
  · subst e2
    rcases e with ⟨hm, rfl⟩ | ⟨hm, rfl⟩
    · have hm' : decide (most < m) = true := decide_eq_true hm
      go_enter Try.func23, Try.ntmps23
      go_wp2
      go_region_held3 (fun W => W.cell? ⟨g, 0, none⟩ = some (.slice A n c) ∧ W.cell? ⟨g, 1, none⟩ = some (.int .i64 (a : Int))) (go_keep) ((go_at_call 33; (with_reducible refine (C.out _ (Below.drew (Below.refl _ _))).mono ?_); rintro e w4 ⟨rfl, hB⟩; have HB4 := Aside0.mk (show Below w.heap.size w w4 from below_step (Below.drew (Below.refl _ _)) hB); have cc0 := (HB4.out.cell (p := ⟨g, 0, none⟩) hga).trans c0; have cc1 := (HB4.out.cell (p := ⟨g, 1, none⟩) hga).trans c1; have cc2 := (HB4.out.cell (p := ⟨g, 2, none⟩) hga).trans c2; have ff1 := (HB4.out.frozen (p := ⟨g, 1, none⟩) hga).trans f1; have ff2 := (HB4.out.frozen (p := ⟨g, 2, none⟩) hga).trans f2; clear hB))
      go_wp2
      go_ret
      exact ⟨rfl, (H.out.below HB4.out).spoil, (Only.of_below HB4.out (· = g)).then_ (Only.at_ _ _ _ _)⟩
    · have hm' : decide (most < m) = false := decide_eq_false (by omega)
      go_enter Try.func23, Try.ntmps23
      go_wp2
      go_region_held3 (fun W => W.cell? ⟨g, 0, none⟩ = some (.slice A n c) ∧ W.cell? ⟨g, 1, none⟩ = some (.int .i64 (a : Int))) (go_keep) ((go_at_call 33; (with_reducible refine (C.out _ (Below.drew (Below.refl _ _))).mono ?_); rintro e w4 ⟨rfl, hB⟩; have HB4 := Aside0.mk (show Below w.heap.size w w4 from below_step (Below.drew (Below.refl _ _)) hB); have cc0 := (HB4.out.cell (p := ⟨g, 0, none⟩) hga).trans c0; have cc1 := (HB4.out.cell (p := ⟨g, 1, none⟩) hga).trans c1; have cc2 := (HB4.out.cell (p := ⟨g, 2, none⟩) hga).trans c2; have ff1 := (HB4.out.frozen (p := ⟨g, 1, none⟩) hga).trans f1; have ff2 := (HB4.out.frozen (p := ⟨g, 2, none⟩) hga).trans f2; clear hB))
      go_wp2
      go_ret
      exact ⟨rfl, (H.out.below HB4.out).move b2 (by rw [HLen.out]; exact hto), (Only.of_below HB4.out (· = g)).then_ (Only.at_ _ _ _ _)⟩

def fwhole (B : List Int) (a : Nat) (bad : Bool) : Bool := !bad && ((a : Int) == (B.length : Int))
set_option maxRecDepth 100000 in
set_option maxHeartbeats 4000000 in
theorem fWhole_c (w0 w : World) (g : Nat) (A : Option Addr) (c : Nat) (B : List Int) (a : Nat) (bad : Bool) (h : Rf w0 w g A c B a bad) :
    Calls Try.prog 27 #[.pointer (some ⟨g, 0, none⟩)] w (IsF (.bool (fwhole B a bad)) a bad w0 g A c B w) := by
  have c0 := h.c0
  have c1 := h.c1
  have c2 := h.c2
  have H := Aside0.mk h
  clear h
  unfold fwhole
  generalize hlen : B.length = n at *
  clear hlen
  cases bad
  · by_cases he : a = n
    · subst he
      have e1 : ((a : Int) == (a : Int)) = true := beq_self_eq_true _
      rw [e1]
      clear e1
      go_enter Try.func27, Try.ntmps27
      go_wp2
      go_quiet (fail)
      go_wp2
      go_ret
      exact ⟨rfl, H.out.below (below_drewN _ _), (Only.refl _ _).drewN _⟩
    · have e1 : ((a : Int) == (n : Int)) = false := beq_eq_false_iff_ne.mpr (by omega)
      have E1 := Aside0.mk e1
      rw [E1.out]
      clear he
      go_enter Try.func27, Try.ntmps27
      go_wp2
      go_quiet (fail)
      go_wp2
      go_ret
      exact ⟨rfl, H.out.below (below_drewN _ _), (Only.refl _ _).drewN _⟩
  · go_enter Try.func27, Try.ntmps27
    go_wp2
    go_quiet (fail)
    go_wp2
    go_ret
    exact ⟨rfl, H.out.below (below_drewN _ _), (Only.refl _ _).drewN _⟩
def fflag (B : List Int) (a : Nat) (bad : Bool) : Bool × Nat × Bool :=
  if bad = true then (false, a, true) else if B.length ≤ a then (false, a, true) else if rd B a > 1 then (false, a, true) else (rd B a == 1, a + 1, false)
set_option maxRecDepth 100000 in
set_option maxHeartbeats 4000000 in
theorem fFlag_c (w0 w : World) (g : Nat) (A : Option Addr) (c : Nat) (B : List Int) (a : Nat) (bad : Bool) (h : Rf w0 w g A c B a bad) (hb : RfB w0 A c B) :
    Calls Try.prog 24 #[.pointer (some ⟨g, 0, none⟩)] w (IsF (.bool (fflag B a bad).1) (fflag B a bad).2.1 (fflag B a bad).2.2 w0 g A c B w) := by
  have c0 := h.c0
  have c1 := h.c1
  have c2 := h.c2
  have f1 := h.fz 1
  have f2 := h.fz 2
  have H := Aside0.mk h
  have HL := Aside0.mk (show B.length ≤ 9223372036854775807 from hb.reads.2.1)
  have HG := Aside0.mk h.ge
  have HR := Aside0.mk (fun (hlt : a < B.length) => hb.reads.at_ (a : Int) (by omega) (by omega))
  have HBel := Aside0.mk h.bel
  have hF : fflag B a bad = if bad = true then (false, a, true) else if B.length ≤ a then (false, a, true) else if rd B a > 1 then (false, a, true) else (rd B a == 1, a + 1, false) := rfl
  have HMv := Aside0.mk (fun (hlt : a < B.length) => (show a + 1 ≤ B.length from hlt))
  clear h hb
  generalize fflag B a bad = R at *
  generalize hlen : B.length = n at *
  have HLN := Aside0.mk hlen
  clear hlen
  cases bad
  · rw [if_neg (by simp)] at hF
    by_cases hle : n ≤ a
    · rw [if_pos hle] at hF
      subst hF
      have h1 : decide (n ≤ a) = true := decide_eq_true hle
      clear hle
      go_enter Try.func24, Try.ntmps24
      go_wp2
      go_quiet (fail)
      go_wp2
      go_ret
      exact ⟨rfl, (H.out.below (below_drewN w nq)).spoil, ((Only.refl (· = g) w).drewN nq).then_ (Only.at_ _ _ _ _)⟩
    · rw [if_neg hle] at hF
      have h1 : decide (n ≤ a) = false := decide_eq_false hle
      obtain ⟨ad, rfl, k0⟩ := HR.out (by omega)
      rw [Int.toNat_natCast] at k0
      have hblk := World.block_lt_of_cell? w0 _ k0
      replace k0 := (HBel.out.cell hblk).trans k0
      have HNe := Aside0.mk (show (ad.add a).block ≠ g by have := HG.out; omega)
      have i0 : (0 : Int) ≤ (a : Int) := by omega
      have i1 : (a : Int) < (n : Int) := by omega
      have HLe := Aside0.mk (show a + 1 ≤ B.length by rw [HLN.out]; omega)
      have hn := HL.out
      have hlt : a < n := by omega
      clear hle hblk HR HMv
      generalize rd B a = x at *
      by_cases hx : 1 < x
      · rw [if_pos hx] at hF
        subst hF
        have h2 : decide (1 < x) = true := decide_eq_true hx
        go_enter Try.func24, Try.ntmps24
        go_wp2
        go_quiet (fail)
        go_wp2
        go_ret
        exact ⟨rfl, (H.out.below (below_drewN w nq)).spoil, ((Only.refl (· = g) w).drewN nq).then_ (Only.at_ _ _ _ _)⟩
      · rw [if_neg hx] at hF
        subst hF
        have h2 : decide (1 < x) = false := decide_eq_false hx
        have k1 : (w.setCell ⟨g, 1, none⟩ (.int .i64 ((a : Int) + 1))).cell? (ad.add a) = some (.int .u8 x) := (World.cell?_of_block (Below.heap_setCell w _ _ _ HNe.out)).trans k0
        have k2 : (w.setCell ⟨g, 1, none⟩ (.int .i64 ((a : Int) + 1))).cell? ⟨g, 0, none⟩ = some (.slice (some ad) n c) := (World.cell?_setCell_other _ _ _ _ (by simp)).trans c0
        have k3 : (w.setCell ⟨g, 1, none⟩ (.int .i64 ((a : Int) + 1))).cell? ⟨g, 1, none⟩ = some (.int .i64 ((a : Int) + 1)) := World.cell?_setCell_same _ _ _ c1
        have KW := Aside0.mk (show IntKind.i64.wrap ((a : Int) + 1 - 1) = (a : Int) by rw [IntKind.wrap_i64]; omega)
        have KW2 := Aside0.mk (show IntKind.i64.wrap ((a : Int)) = (a : Int) by rw [IntKind.wrap_i64]; omega)
        go_enter Try.func24, Try.ntmps24
        go_wp2
        go_quiet (fail)
        go_wp2
        have w1 := KW.out
        have w2 := KW2.out
        have k1' : ((w.drewN nq).setCell ⟨g, 1, none⟩ (.int .i64 ((a : Int) + 1))).cell? (ad.add a) = some (.int .u8 x) := k1
        have k2' : ((w.drewN nq).setCell ⟨g, 1, none⟩ (.int .i64 ((a : Int) + 1))).cell? ⟨g, 0, none⟩ = some (.slice (some ad) n c) := k2
        have k3' : ((w.drewN nq).setCell ⟨g, 1, none⟩ (.int .i64 ((a : Int) + 1))).cell? ⟨g, 1, none⟩ = some (.int .i64 ((a : Int) + 1)) := k3
        go_quiet (fail)
        clear w1 w2
        go_wp2
        go_ret
        exact ⟨rfl, ((H.out.below (below_drewN w _)).move (a + 1) HLe.out).below (below_drewN _ _), (((Only.refl (· = g) w).drewN _).then_ (Only.at_ _ _ _ _)).drewN _⟩
  · rw [if_pos rfl] at hF
    subst hF
    go_enter Try.func24, Try.ntmps24
    go_wp2
    go_quiet (fail)
    go_wp2
    go_ret
    exact ⟨rfl, (H.out.below (below_drewN w nq)).spoil, ((Only.refl (· = g) w).drewN nq).then_ (Only.at_ _ _ _ _)⟩
end Go.Proofs.Ytlelddljamfblaa.Pk
