/- The packer's reader, call by call: what next, number, Num, Flag, Text, Count and End of a reader in memory come to. -/
import Derived.Test.YtlelddljamfblaaPkA
import Derived.Outline
namespace Go.Proofs.Ytlelddljamfblaa.Pk
open Go.RowKit Go.Proofs.YtlelddljamfblaaW.PrintWords Go.Proofs.YtlelddljamfblaaW.PrintLast Go.Proofs.YtlelddljamfblaaW.PrintMore
set_option linter.unusedVariables false
set_option linter.unusedSimpArgs false

def goN : Nat → Int → Int → List Int → Int × List Int × Bool
  | 0, _, _, bs => (0, bs, true)
  | _ + 1, _, _, [] => (0, [], true)
  | f + 1, n, b, c :: t => if c < 128 then (if (c = 0 ∧ f ≠ 7) ∨ n + c % 128 * b > 9007199254740992 then (0, t, true) else (n + c % 128 * b, t, false)) else goN f (n + c % 128 * b) (b * 128) t
def rnum (bs : List Int) (bad : Bool) : Int × List Int × Bool := if bad = true then (0, bs, true) else goN 8 0 1 bs
def IsB (x : Int) : Prop := 0 ≤ x ∧ x < 256

set_option maxHeartbeats 400000 in
theorem next_ok (g q : Nat) (x : Int) (t : List Int) (w : World) (h : RdAt w g q (x :: t) false) :
    Calls Try.prog 31 #[.pointer (some ⟨g, 0, none⟩)] w fun e w' => e = .returned (.tuple #[.int .u8 x, .bool true]) ∧ RdAt w' g q t false ∧ Only (· = g) w w' := by
  obtain ⟨off, c, hb, hc, hm, hg, hq, hx⟩ := h
  simp only [List.length_cons] at hb hc hm
  have h0 := blk_cell hb 0
  have h1 := blk_cell hb 1
  have f0 := blk_frozen hb 0
  have hx0 := hx.head
  simp only [List.getElem?_toArray, List.getElem?_cons_zero, List.getElem?_cons_succ] at h0 h1
  have K1 := Aside0.mk (show c ≠ 1 → RdAt (w.setCell ⟨g, 0, none⟩ (.slice (some ⟨q, off + 1, none⟩) t.length (c - 1))) g q t false from fun _ =>
    ⟨off + 1, c - 1, by rw [blk_set hb]; rfl, by omega, by omega, hg, by simpa using hq, (hx.tail).move (Below.heap_setCell _ _ _ _ (Ne.symm hg))⟩)
  have K2 := Aside0.mk (show c = 1 → RdAt (w.setCell ⟨g, 0, none⟩ (.slice (some ⟨q, off, none⟩) t.length 0)) g q t false from fun e =>
    ⟨off, 0, by rw [blk_set hb]; rfl, by omega, by omega, hg, by simpa using hq, fun j x hj => by
      have := (List.getElem?_eq_some_iff.1 hj).1
      omega⟩)
  clear hb hx
  generalize t.length = n at *
  have hlen : (((n + 1 : Nat) : Int) == 0) = false := by simp; omega
  go_enter Try.func31, Try.ntmps31
  go_wp2
  · go_ret2
    exact ⟨rfl, K2.out (by assumption), Only.at_ _ _ _ _⟩
  · go_ret2
    exact ⟨rfl, K1.out (by assumption), Only.at_ _ _ _ _⟩
set_option maxHeartbeats 400000 in
theorem next_no (g q : Nat) (bs : List Int) (bad : Bool) (w : World) (h : RdAt w g q bs bad) (hn : bad = true ∨ bs = []) :
    Calls Try.prog 31 #[.pointer (some ⟨g, 0, none⟩)] w fun e w' => e = .returned (.tuple #[.int .u8 0, .bool false]) ∧ RdAt w' g q bs true ∧ Only (· = g) w w' := by
  obtain ⟨off, c, hb, hc, hm, hg, hq, hx⟩ := h
  have h0 := blk_cell hb 0
  have h1 := blk_cell hb 1
  have f1 := blk_frozen hb 1
  simp only [List.getElem?_toArray, List.getElem?_cons_zero, List.getElem?_cons_succ] at h0 h1
  have K1 := Aside0.mk (show RdAt (w.setCell ⟨g, 1, none⟩ (.bool true)) g q bs true from
    ⟨off, c, by rw [blk_set hb]; rfl, hc, hm, hg, by simpa using hq, hx.move (Below.heap_setCell _ _ _ _ (Ne.symm hg))⟩)
  clear hb hx
  rcases hn with rfl | rfl
  · generalize bs.length = n at *
    go_enter Try.func31, Try.ntmps31
    go_wp2
    go_ret2
    exact ⟨rfl, K1.out, Only.at_ _ _ _ _⟩
  · cases bad
    all_goals
      go_enter Try.func31, Try.ntmps31
      go_wp2
      go_ret2
      exact ⟨rfl, K1.out, Only.at_ _ _ _ _⟩
end Go.Proofs.Ytlelddljamfblaa.Pk
