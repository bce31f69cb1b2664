/- The packer's reader: what number comes to. -/
import Derived.Test.YtlelddljamfblaaPkB
import Derived.Outline
namespace Go.Proofs.Ytlelddljamfblaa.Pk
open Go.RowKit Go.Proofs.YtlelddljamfblaaW.PrintWords Go.Proofs.YtlelddljamfblaaW.PrintLast Go.Proofs.YtlelddljamfblaaW.PrintMore
set_option linter.unusedVariables false
set_option linter.unusedSimpArgs false

theorem and127 (x : Int) (h0 : 0 ≤ x) (h1 : x < 256) : bits .and .u8 x 127 = x % 128 := by
  rw [u8_and x 127 h0 h1 (by decide) (by decide)]
  rw [show (127 : Int).toNat = 2 ^ 7 - 1 from rfl, Nat.and_two_pow_sub_one_eq_mod]
  omega
theorem pow128 {k : Nat} (h : k < 8) : (128 : Int) ^ k ≤ 562949953421312 ∧ 0 < (128 : Int) ^ k := by
  match k, h with
  | 0, _ => decide
  | 1, _ => decide
  | 2, _ => decide
  | 3, _ => decide
  | 4, _ => decide
  | 5, _ => decide
  | 6, _ => decide
  | 7, _ => decide
/-- One round's numbers. -/
theorem round_nums {k : Nat} {N B x : Int} (hk : k < 8) (hB : B = 128 ^ k) (h0 : 0 ≤ N) (h1 : N < B) (x0 : 0 ≤ x) (x1 : x < 256) :
    ∃ m p n2 b2 : Int, bits .and .u8 x 127 = m ∧ 0 ≤ m ∧ m < 128 ∧ wrap64 (m * B) = p ∧ wrap64 (N + p) = n2 ∧ wrap64 (B * 128) = b2 ∧ n2 = N + x % 128 * B ∧ b2 = B * 128 ∧ 0 ≤ n2 ∧ n2 < b2 ∧ b2 = 128 ^ (k + 1) := by
  obtain ⟨hb, hb0⟩ := pow128 hk
  rw [← hB] at hb hb0
  have hm : 0 ≤ x % 128 ∧ x % 128 < 128 := by omega
  have hp : 0 ≤ x % 128 * B := Int.mul_nonneg hm.1 (by omega)
  have hp2 : x % 128 * B ≤ 127 * B := Int.mul_le_mul_of_nonneg_right (by omega) (by omega)
  have e1 : wrap64 (x % 128 * B) = x % 128 * B := by unfold wrap64; omega
  refine ⟨x % 128, x % 128 * B, N + x % 128 * B, B * 128, and127 x x0 x1, hm.1, hm.2, e1, by unfold wrap64; omega, by unfold wrap64; omega, rfl, rfl, by omega, by omega, ?_⟩
  rw [hB, Int.pow_succ]

def Res (g q : Nat) (R : Int × List Int × Bool) (w : World) (e : Ending) (w' : World) : Prop := e = .returned (.int .i64 R.1) ∧ RdAt w' g q R.2.1 R.2.2 ∧ Only (· = g) w w'
theorem Res.mk {g q : Nat} {R : Int × List Int × Bool} {n : Int} {bs : List Int} {bad : Bool} {w w' : World} (h : R = (n, bs, bad)) (hR : RdAt w' g q bs bad) (hO : Only (· = g) w w') : Res g q R w (.returned (.int .i64 n)) w' := by
  subst h
  exact ⟨rfl, hR, hO⟩

set_option maxHeartbeats 2000000 in
theorem number_c (g q : Nat) (bs : List Int) (bad : Bool) (w : World) (h : RdAt w g q bs bad) (hb : ∀ x ∈ bs, IsB x) :
    Calls Try.prog 32 #[.pointer (some ⟨g, 0, none⟩)] w (Res g q (rnum bs bad) w) := by
  have HB := Aside0.mk hb
  clear hb
  cases bad
  · have HO : Only (· = g) w w := Only.refl _ _
    have HG := Aside0.mk (show rnum bs false = goN 8 0 1 bs from rfl)
    generalize rnum bs false = R at *
    go_enter Try.func32, Try.ntmps32
    go_wp2
    go_loopw [3, 4, 5] (fun n b i wr => ∃ (k : Nat) (N B : Int) (t : List Int), k ≤ 8 ∧ i = .int .i64 k ∧ n = .int .i64 N ∧ b = .int .i64 B ∧ 0 ≤ N ∧ N < B ∧ Aside0 (B = 128 ^ k) ∧ RdAt wr g q t false ∧ Only (· = g) w wr ∧ Aside0 (R = goN (8 - k) N B t) ∧ Aside0 (∀ x ∈ t, IsB x)) (fun _ _ i _ => 8 - (intOf i).toNat)
    case atStart => exact ⟨0, 0, 1, bs, by omega, rfl, rfl, rfl, by omega, by omega, ⟨rfl⟩, h, HO, HG, HB⟩
    case round =>
      obtain ⟨k, N, B, t, hk, rfl, rfl, rfl, h0, h1, h2, hR, hO, h3, h4⟩ := hrel
      by_cases hlt : k < 8
      · have h5 := Aside0.mk (show 8 - k = 7 - k + 1 by omega)
        cases t with
        | nil =>
          have h6 := Aside0.mk (show R = (0, [], true) by rw [h3.out, h5.out]; rfl)
          go_wp2_with (refine (next_no _ _ _ _ _ hR (.inr rfl)).mono ?_; rintro e w' ⟨rfl, hR1, hO1⟩)
          go_ret
          exact Res.mk h6.out hR1 (hO.then_ hO1)
        | cons x t =>
          have hx : 0 ≤ x ∧ x < 256 := h4.out x (by simp)
          obtain ⟨x0, x1⟩ := hx
          have h4' := Aside0.mk (show ∀ y ∈ t, IsB y from fun y hy => h4.out y (by simp [hy]))
          obtain ⟨m, p, n2, b2, e1, m0, m1, e2, e3, e4, en, eb, n0, nb, bb⟩ := round_nums hlt h2.out h0 h1 x0 x1
          have EN := Aside0.mk en
          have EB := Aside0.mk eb
          have BB := Aside0.mk bb
          clear en eb bb h4
          by_cases hx : x < 128
          · have hx' : decide (x < 128) = true := decide_eq_true hx
            by_cases hz : x = 0 ∧ 0 < k
            · obtain ⟨rfl, hk0⟩ := hz
              have h6 := Aside0.mk (show R = (0, t, true) by rw [h3.out, h5.out]; unfold goN; rw [if_pos hx, if_pos (.inl ⟨rfl, by omega⟩)])
              go_wp2_with (refine (next_ok _ _ _ _ _ hR).mono ?_; rintro e w' ⟨rfl, hR1, hO1⟩; have c1 := hR1.flag; have f1 := hR1.frozen1)
              go_ret
              exact Res.mk h6.out (hR1.spoil true) ((hO.then_ hO1).set (.inr rfl) _)
            · by_cases hm : n2 > 9007199254740992
              · have h6 := Aside0.mk (show R = (0, t, true) by rw [h3.out, h5.out]; unfold goN; rw [if_pos hx, if_pos (.inr (by rw [← EN.out]; exact hm))])
                by_cases hx0 : x = 0
                · obtain rfl : k = 0 := by omega
                  subst hx0
                  go_wp2_with (refine (next_ok _ _ _ _ _ hR).mono ?_; rintro e w' ⟨rfl, hR1, hO1⟩; have c1 := hR1.flag; have f1 := hR1.frozen1)
                  go_ret
                  exact Res.mk h6.out (hR1.spoil true) ((hO.then_ hO1).set (.inr rfl) _)
                · have hx0' : (x == 0) = false := by simpa using hx0
                  clear hz hx0
                  go_wp2_with (refine (next_ok _ _ _ _ _ hR).mono ?_; rintro e w' ⟨rfl, hR1, hO1⟩; have c1 := hR1.flag; have f1 := hR1.frozen1)
                  go_ret
                  exact Res.mk h6.out (hR1.spoil true) ((hO.then_ hO1).set (.inr rfl) _)
              · have h6 := Aside0.mk (show R = (wrap64 (N + p), t, false) by rw [h3.out, h5.out, e3]; unfold goN; rw [if_pos hx, if_neg (by rw [← EN.out]; omega), EN.out])
                by_cases hx0 : x = 0
                · obtain rfl : k = 0 := by omega
                  subst hx0
                  go_wp2_with (refine (next_ok _ _ _ _ _ hR).mono ?_; rintro e w' ⟨rfl, hR1, hO1⟩)
                  go_ret
                  exact Res.mk h6.out hR1 (hO.then_ hO1)
                · have hx0' : (x == 0) = false := by simpa using hx0
                  clear hz hx0
                  go_wp2_with (refine (next_ok _ _ _ _ _ hR).mono ?_; rintro e w' ⟨rfl, hR1, hO1⟩)
                  go_ret
                  exact Res.mk h6.out hR1 (hO.then_ hO1)
          · have h6 := Aside0.mk (show R = goN (8 - (k + 1)) n2 b2 t by rw [h3.out, h5.out, show 8 - (k + 1) = 7 - k by omega, EN.out, EB.out]; exact if_neg hx)
            have hx' : decide (x < 128) = false := decide_eq_false hx
            go_wp2_with (refine (next_ok _ _ _ _ _ hR).mono ?_; rintro e w' ⟨rfl, hR1, hO1⟩)
            go_roundw
            case rel => exact ⟨k + 1, n2, b2, t, by omega, by go_num, congrArg (Value.int .i64) e3, congrArg (Value.int .i64) e4, n0, nb, BB, hR1, hO.then_ hO1, h6, h4'⟩
            case measure => simp [intOf]; omega
      · obtain rfl : k = 8 := by omega
        have h6 := Aside0.mk (show R = (0, t, true) by rw [h3.out]; rfl)
        have c1 := hR.flag
        have f1 := hR.frozen1
        go_wp2
        go_ret
        exact Res.mk h6.out (hR.spoil true) (hO.set (.inr rfl) _)
  · have HG := Aside0.mk (show rnum bs true = (0, bs, true) from rfl)
    generalize rnum bs true = R at *
    go_enter Try.func32, Try.ntmps32
    go_wp2
    go_loopw [3, 4, 5] (fun n b i wr => i = .int .i64 0 ∧ wr = w) (fun _ _ i _ => 8 - (intOf i).toNat)
    case atStart => exact ⟨rfl, rfl⟩
    case round =>
      obtain ⟨rfl, rfl⟩ := hrel
      go_wp2_with (refine (next_no _ _ _ _ _ h (.inl rfl)).mono ?_; rintro e w' ⟨rfl, hR1, hO1⟩)
      go_ret
      exact Res.mk HG.out hR1 hO1
end Go.Proofs.Ytlelddljamfblaa.Pk
