/- The packer's reader: what Num, Flag, Text, Count and End come to; and what they answer where there is no reader. -/
import Derived.Test.YtlelddljamfblaaPkC
import Derived.Outline
namespace Go.Proofs.Ytlelddljamfblaa.Pk
open Go.RowKit Go.Proofs.YtlelddljamfblaaW.PrintWords Go.Proofs.YtlelddljamfblaaW.PrintLast Go.Proofs.YtlelddljamfblaaW.PrintMore
set_option linter.unusedVariables false
set_option linter.unusedSimpArgs false

theorem goN_nonneg (f : Nat) : ∀ (n b : Int) (bs : List Int), 0 ≤ n → 0 ≤ b → 0 ≤ (goN f n b bs).1 := by
  induction f with
  | zero => intro n b bs _ _; exact Int.le_refl 0
  | succ f ih =>
    intro n b bs hn hb
    cases bs with
    | nil => exact Int.le_refl 0
    | cons c t =>
      have hp : 0 ≤ n + c % 128 * b := Int.add_nonneg hn (Int.mul_nonneg (by omega) hb)
      unfold goN
      split
      · split
        · exact Int.le_refl 0
        · exact hp
      · exact ih _ _ _ hp (by omega)
theorem goN_suffix (f : Nat) : ∀ (n b : Int) (bs : List Int), ∃ m, (goN f n b bs).2.1 = bs.drop m := by
  induction f with
  | zero => intro n b bs; exact ⟨0, rfl⟩
  | succ f ih =>
    intro n b bs
    cases bs with
    | nil => exact ⟨0, rfl⟩
    | cons c t =>
      unfold goN
      split
      · split
        · exact ⟨1, rfl⟩
        · exact ⟨1, rfl⟩
      · obtain ⟨m, e⟩ := ih (n + c % 128 * b) (b * 128) t
        exact ⟨m + 1, by rw [e]; rfl⟩
theorem rnum_nonneg (bs : List Int) (bad : Bool) : 0 ≤ (rnum bs bad).1 := by
  unfold rnum
  split
  · exact Int.le_refl 0
  · exact goN_nonneg _ _ _ _ (by decide) (by decide)
theorem rnum_suffix (bs : List Int) (bad : Bool) : ∃ m, (rnum bs bad).2.1 = bs.drop m := by
  unfold rnum
  split
  · exact ⟨0, rfl⟩
  · exact goN_suffix _ _ _ _
theorem rnum_mem {bs : List Int} {bad : Bool} {p : Int → Prop} (h : ∀ x ∈ bs, p x) : ∀ x ∈ (rnum bs bad).2.1, p x := by
  obtain ⟨m, e⟩ := rnum_suffix bs bad
  intro x hx
  rw [e] at hx
  exact h x (List.mem_of_mem_drop hx)

def rflag (bs : List Int) (bad : Bool) : Bool × List Int × Bool :=
  if bad = true then (false, bs, true) else match bs with
    | [] => (false, [], true)
    | c :: t => if c > 1 then (false, t, true) else (c == 1, t, false)
def rtext (most : Int) (bs : List Int) (bad : Bool) : List Int × List Int × Bool :=
  if (rnum bs bad).2.2 = true ∨ (rnum bs bad).1 > most ∨ (rnum bs bad).1 > ((rnum bs bad).2.1.length : Int) then ([], (rnum bs bad).2.1, true) else ((rnum bs bad).2.1.take (rnum bs bad).1.toNat, (rnum bs bad).2.1.drop (rnum bs bad).1.toNat, false)
def rcount (most : Int) (bs : List Int) (bad : Bool) : Int × List Int × Bool :=
  if (rnum bs bad).1 > most then (0, (rnum bs bad).2.1, true) else rnum bs bad
def rend (bs : List Int) (bad : Bool) : Int := if bad = true ∨ 0 < bs.length then 2 else 0

set_option maxHeartbeats 400000 in
theorem rNum_c (g q : Nat) (bs : List Int) (bad : Bool) (w : World) (h : RdAt w g q bs bad) (hb : ∀ x ∈ bs, IsB x) :
    Calls Try.prog 21 #[.pointer (some ⟨g, 0, none⟩)] w (Res g q (rnum bs bad) w) := by
  have C := Aside0.mk (number_c g q bs bad w h hb)
  clear hb
  generalize rnum bs bad = R at *
  go_enter Try.func21, Try.ntmps21
  go_wp2_with (refine C.out.mono ?_; rintro e w' ⟨rfl, hR1, hO1⟩)
  go_ret
  exact ⟨rfl, hR1, hO1⟩
set_option maxHeartbeats 400000 in
theorem rNum_nil (w : World) : Calls Try.prog 21 #[.pointer none] w fun e w' => e = .returned (.int .i64 0) ∧ w = w' := by
  go_enter Try.func21, Try.ntmps21
  go_wp2
  go_ret
  exact ⟨rfl, rfl⟩

def ResB (g q : Nat) (R : Bool × List Int × Bool) (w : World) (e : Ending) (w' : World) : Prop := e = .returned (.bool R.1) ∧ RdAt w' g q R.2.1 R.2.2 ∧ Only (· = g) w w'
theorem ResB.mk {g q : Nat} {R : Bool × List Int × Bool} {n : Bool} {bs : List Int} {bad : Bool} {w w' : World} (h : R = (n, bs, bad)) (hR : RdAt w' g q bs bad) (hO : Only (· = g) w w') : ResB g q R w (.returned (.bool n)) w' := by
  subst h
  exact ⟨rfl, hR, hO⟩
set_option maxHeartbeats 400000 in
theorem rFlag_c (g q : Nat) (bs : List Int) (bad : Bool) (w : World) (h : RdAt w g q bs bad) (hb : ∀ x ∈ bs, IsB x) :
    Calls Try.prog 19 #[.pointer (some ⟨g, 0, none⟩)] w (ResB g q (rflag bs bad) w) := by
  by_cases hc : bad = true ∨ bs = []
  · have h6 := Aside0.mk (show rflag bs bad = (false, bs, true) by unfold rflag; rcases hc with rfl | rfl; rfl; cases bad <;> rfl)
    generalize rflag bs bad = R at *
    have C := Aside0.mk (next_no g q bs bad w h hc)
    clear hb hc
    go_enter Try.func19, Try.ntmps19
    go_wp2_with (refine C.out.mono ?_; rintro e w' ⟨rfl, hR1, hO1⟩; have c1 := hR1.flag; have f1 := hR1.frozen1)
    go_ret
    exact ResB.mk h6.out (hR1.spoil true) (hO1.set (.inr rfl) _)
  · obtain ⟨rfl, x, t, rfl⟩ : bad = false ∧ ∃ x t, bs = x :: t := by
      cases bad <;> cases bs <;> simp at hc ⊢
    obtain ⟨x0, x1⟩ : IsB x := hb x (by simp)
    have C := Aside0.mk (next_ok g q x t w h)
    clear hb hc
    by_cases hx : 1 < x
    · have h6 := Aside0.mk (show rflag (x :: t) false = (false, t, true) by unfold rflag; simp; omega)
      generalize rflag (x :: t) false = R at *
      have hx1 : (x == 1) = false := by simp; omega
      have hx2 : decide (1 < x) = true := decide_eq_true hx
      go_enter Try.func19, Try.ntmps19
      go_wp2_with (refine C.out.mono ?_; rintro e w' ⟨rfl, hR1, hO1⟩; have c1 := hR1.flag; have f1 := hR1.frozen1)
      go_ret
      exact ResB.mk h6.out (hR1.spoil true) (hO1.set (.inr rfl) _)
    · have h6 := Aside0.mk (show rflag (x :: t) false = (x == 1, t, false) by unfold rflag; simp; omega)
      generalize rflag (x :: t) false = R at *
      have hx2 : decide (1 < x) = false := decide_eq_false hx
      go_enter Try.func19, Try.ntmps19
      go_wp2_with (refine C.out.mono ?_; rintro e w' ⟨rfl, hR1, hO1⟩; have c1 := hR1.flag; have f1 := hR1.frozen1)
      all_goals
        go_ret
        exact ResB.mk h6.out (hR1.spoil false) (hO1.set (.inr rfl) _)
set_option maxHeartbeats 400000 in
theorem rFlag_nil (w : World) : Calls Try.prog 19 #[.pointer none] w fun e w' => e = .returned (.bool false) ∧ w = w' := by
  go_enter Try.func19, Try.ntmps19
  go_wp2
  go_ret
  exact ⟨rfl, rfl⟩
set_option maxHeartbeats 400000 in
theorem rCount_c (most : Int) (g q : Nat) (bs : List Int) (bad : Bool) (w : World) (h : RdAt w g q bs bad) (hb : ∀ x ∈ bs, IsB x) :
    Calls Try.prog 26 #[.pointer (some ⟨g, 0, none⟩), .int .i64 most] w (Res g q (rcount most bs bad) w) := by
  have C := Aside0.mk (rNum_c g q bs bad w h hb)
  clear hb
  by_cases hm : most < (rnum bs bad).1
  · have h6 := Aside0.mk (show rcount most bs bad = (0, (rnum bs bad).2.1, true) from if_pos hm)
    generalize rcount most bs bad = R at *
    generalize rnum bs bad = R1 at *
    obtain ⟨n, bs1, bad1⟩ := R1
    have hm' : decide (most < n) = true := decide_eq_true hm
    go_enter Try.func26, Try.ntmps26
    go_wp2_with (refine C.out.mono ?_; rintro e w' ⟨rfl, hR1, hO1⟩; have c1 := hR1.flag; have f1 := hR1.frozen1)
    go_ret
    exact Res.mk h6.out (hR1.spoil true) (hO1.set (.inr rfl) _)
  · have h6 := Aside0.mk (show rcount most bs bad = rnum bs bad from if_neg hm)
    generalize rcount most bs bad = R at *
    generalize rnum bs bad = R1 at *
    obtain ⟨n, bs1, bad1⟩ := R1
    have hm' : decide (most < n) = false := decide_eq_false hm
    go_enter Try.func26, Try.ntmps26
    go_wp2_with (refine C.out.mono ?_; rintro e w' ⟨rfl, hR1, hO1⟩; have c1 := hR1.flag; have f1 := hR1.frozen1)
    go_ret
    exact Res.mk h6.out hR1 hO1
set_option maxHeartbeats 400000 in
theorem rCount_nil (most : Int) (w : World) : Calls Try.prog 26 #[.pointer none, .int .i64 most] w fun e w' => e = .returned (.int .i64 0) ∧ w = w' := by
  go_enter Try.func26, Try.ntmps26
  go_wp2_with (refine (rNum_nil _).mono ?_; rintro e w' ⟨rfl, rfl⟩)
  go_ret
  exact ⟨rfl, rfl⟩
set_option maxHeartbeats 400000 in
theorem rEnd_c (g q : Nat) (bs : List Int) (bad : Bool) (w : World) (h : RdAt w g q bs bad) :
    Calls Try.prog 22 #[.pointer (some ⟨g, 0, none⟩)] w fun e w' => e = .returned (.int .i64 (rend bs bad)) ∧ w = w' := by
  obtain ⟨off, c, hb, hc, hm, hg, hq, hx⟩ := h
  have h0 := blk_cell hb 0
  have h1 := blk_cell hb 1
  simp only [List.getElem?_toArray, List.getElem?_cons_zero, List.getElem?_cons_succ] at h0 h1
  clear hb hx
  unfold rend
  generalize bs.length = n at *
  cases bad
  · by_cases hn : 0 < n
    · rw [if_pos (.inr hn)]
      have hn' : decide (0 < n) = true := decide_eq_true hn
      go_enter Try.func22, Try.ntmps22
      go_wp2
      go_ret
      exact ⟨rfl, rfl⟩
    · rw [if_neg (by simp; omega)]
      have hn' : decide (0 < n) = false := decide_eq_false hn
      go_enter Try.func22, Try.ntmps22
      go_wp2
      go_ret
      exact ⟨rfl, rfl⟩
  · rw [if_pos (.inl rfl)]
    go_enter Try.func22, Try.ntmps22
    go_wp2
    go_ret
    exact ⟨rfl, rfl⟩
set_option maxHeartbeats 400000 in
theorem rEnd_nil (w : World) : Calls Try.prog 22 #[.pointer none] w fun e w' => e = .returned (.int .i64 2) ∧ w = w' := by
  go_enter Try.func22, Try.ntmps22
  go_wp2
  go_ret
  exact ⟨rfl, rfl⟩
end Go.Proofs.Ytlelddljamfblaa.Pk
