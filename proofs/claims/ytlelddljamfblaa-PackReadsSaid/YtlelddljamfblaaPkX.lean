/- The reference's reader: what Text comes to. -/
import Derived.Test.YtlelddljamfblaaPkW
import Derived.Outline
namespace Go.Proofs.Ytlelddljamfblaa.Pk
open Go.RowKit Go.Proofs.YtlelddljamfblaaW.PrintWords Go.Proofs.YtlelddljamfblaaW.PrintLast Go.Proofs.YtlelddljamfblaaW.PrintMore Go.Proofs.Ytlelddljamfblaa.PPk
set_option linter.unusedVariables false
set_option linter.unusedSimpArgs false

def ftext (most : Int) (B : List Int) (a : Nat) (bad : Bool) : List Int × Nat × Bool :=
  if (fnum 9007199254740992 B a bad).2.2 = true ∨ (fnum 9007199254740992 B a bad).1 > most ∨ (fnum 9007199254740992 B a bad).1 > ((B.length : Int) - ((fnum 9007199254740992 B a bad).2.1 : Int)) then ([], (fnum 9007199254740992 B a bad).2.1, true)
  else ((B.drop (fnum 9007199254740992 B a bad).2.1).take (fnum 9007199254740992 B a bad).1.toNat, (fnum 9007199254740992 B a bad).2.1 + (fnum 9007199254740992 B a bad).1.toNat, false)
theorem fnum_nonneg (most : Int) (B : List Int) (a : Nat) (bad : Bool) : 0 ≤ (fnum most B a bad).1 := by
  unfold fnum
  split
  · exact Int.le_refl 0
  · split
    · exact Int.le_refl 0
    · exact rnum_nonneg _ _
set_option maxRecDepth 100000 in
set_option maxHeartbeats 8000000 in
theorem fText_c (most : Int) (w0 w : World) (g : Nat) (A : Option Addr) (c : Nat) (B : List Int) (a : Nat) (bad : Bool) (h : Rf w0 w g A c B a bad) (hb : RfB w0 A c B) :
    Calls Try.prog 25 #[.pointer (some ⟨g, 0, none⟩), .int .i64 most] w (IsF (.string (strOfNums (ftext most B a bad).1)) (ftext most B a bad).2.1 (ftext most B a bad).2.2 w0 g A c B w) := by
  have C := Aside0.mk (fNum_c 9007199254740992 w0 w g A c B a bad h hb)
  have hF : ftext most B a bad = if (fnum 9007199254740992 B a bad).2.2 = true ∨ (fnum 9007199254740992 B a bad).1 > most ∨ (fnum 9007199254740992 B a bad).1 > ((B.length : Int) - ((fnum 9007199254740992 B a bad).2.1 : Int)) then ([], (fnum 9007199254740992 B a bad).2.1, true)
    else ((B.drop (fnum 9007199254740992 B a bad).2.1).take (fnum 9007199254740992 B a bad).1.toNat, (fnum 9007199254740992 B a bad).2.1 + (fnum 9007199254740992 B a bad).1.toNat, false) := rfl
  have hn0 := fnum_nonneg 9007199254740992 B a bad
  generalize ftext most B a bad = R at *
  generalize fnum 9007199254740992 B a bad = R1 at *
  obtain ⟨n, a1, b1⟩ := R1
  simp only at hF hn0
  obtain ⟨m, rfl⟩ := Int.eq_ofNat_of_zero_le hn0
  rw [Int.toNat_natCast] at hF
  clear hn0 h
  have HB := Aside0.mk hb
  have hlm : B.length ≤ 9223372036854775807 := hb.reads.2.1
  have HLM := Aside0.mk hlm
  clear hb hlm
  have empty : (⟨#[]⟩ : ByteArray) = strOfNums [] := rfl
  have E0 := Aside0.mk empty
  clear empty
  by_cases hq : b1 = true ∨ (m : Int) > most ∨ (m : Int) > ((B.length : Int) - (a1 : Int))
  · rw [if_pos hq] at hF
    subst hF
    simp only
    rw [← E0.out]
    generalize hlen : B.length = N at *
    have HLen := Aside0.mk hlen
    clear hlen
    cases b1
    · by_cases h1 : most < (m : Int)
      · have h1' : decide (most < (m : Int)) = true := decide_eq_true h1
        clear hq h1
        go_enter Try.func25, Try.ntmps25
        go_wp2_with (go_at_call 23; (with_reducible refine C.out.mono ?_); rintro e w1 ⟨rfl, hR, hO⟩; have c0 := hR.c0; have c1 := hR.c1; have c2 := hR.c2; have f2 := hR.fz 2; rw [HLen.out] at c0; have HR := Aside0.mk hR; have HO := Aside0.mk hO; clear hR hO)
        go_quiet (fail)
        go_wp2
        go_ret
        exact ⟨rfl, (HR.out.below (below_drewN w1 nq)).spoil, (HO.out.drewN nq).then_ (Only.at_ _ _ _ _)⟩
      · have h1' : decide (most < (m : Int)) = false := decide_eq_false h1
        have h2 : (N : Int) - (a1 : Int) < (m : Int) := by
          rcases hq with h | h | h
          · cases h
          · omega
          · exact h
        have H2 := Aside0.mk h2
        clear hq h1 h2
        go_enter Try.func25, Try.ntmps25
        go_wp2_with (go_at_call 23; (with_reducible refine C.out.mono ?_); rintro e w1 ⟨rfl, hR, hO⟩; have c0 := hR.c0; have c1 := hR.c1; have c2 := hR.c2; have f2 := hR.fz 2; have hle := hR.le; rw [HLen.out] at c0 hle; have HR := Aside0.mk hR; have HO := Aside0.mk hO; clear hR hO)
        have kw : IntKind.i64.wrap ((N : Int) - (a1 : Int)) = (N : Int) - (a1 : Int) := by rw [IntKind.wrap_i64]; have := HLM.out; omega
        have h2' : decide ((N : Int) - (a1 : Int) < (m : Int)) = true := decide_eq_true H2.out
        go_quiet (fail)
        clear kw h2'
        go_wp2
        go_ret
        exact ⟨rfl, (HR.out.below (below_drewN w1 nq)).spoil, (HO.out.drewN nq).then_ (Only.at_ _ _ _ _)⟩
    · clear hq
      go_enter Try.func25, Try.ntmps25
      go_wp2_with (go_at_call 23; (with_reducible refine C.out.mono ?_); rintro e w1 ⟨rfl, hR, hO⟩; have c0 := hR.c0; have c1 := hR.c1; have c2 := hR.c2; have f2 := hR.fz 2; rw [HLen.out] at c0; have HR := Aside0.mk hR; have HO := Aside0.mk hO; clear hR hO)
      go_quiet (fail)
      go_wp2
      go_ret
      exact ⟨rfl, (HR.out.below (below_drewN w1 nq)).spoil, (HO.out.drewN nq).then_ (Only.at_ _ _ _ _)⟩
  · rw [if_neg hq] at hF
    subst hF
    simp only
    have hb1 : b1 = false := by cases b1; rfl; exact absurd (.inl rfl) hq
    subst hb1
    have h1' : decide (most < (m : Int)) = false := decide_eq_false (by omega)
    have H2 := Aside0.mk (show ¬ (B.length : Int) - (a1 : Int) < (m : Int) by omega)
    clear hq
    have HLen := Aside0.mk (show B.length = B.length from rfl)
    go_enter Try.func25, Try.ntmps25
    go_wp2_with (go_at_call 23; (with_reducible refine C.out.mono ?_); rintro e w1 ⟨rfl, hR, hO⟩; have c0 := hR.c0; have c1 := hR.c1; have c2 := hR.c2; have f1 := hR.fz 1; have hle := hR.le; have HR := Aside0.mk hR; have HO := Aside0.mk hO; clear hR hO)
    have hN := HLM.out
    have h2n := H2.out
    have kw : IntKind.i64.wrap ((B.length : Int) - (a1 : Int)) = (B.length : Int) - (a1 : Int) := by rw [IntKind.wrap_i64]; omega
    have h2' : decide ((B.length : Int) - (a1 : Int) < (m : Int)) = false := decide_eq_false (by have := H2.out; omega)
    have KS := Aside0.mk (show IntKind.i64.wrap ((a1 : Int) + (m : Int)) = (a1 : Int) + (m : Int) by rw [IntKind.wrap_i64]; omega)
    obtain ⟨A2, c2', m1, m2⟩ := mid_text (at_ := a1) (e := a1 + m) rfl (HB.out.reads.below HR.out.bel) HB.out.cap (by omega) (by omega)
    rw [show ((a1 + m : Nat) : Int) = (a1 : Int) + (m : Int) from rfl] at m1
    simp only [Nat.add_sub_cancel_left] at m1 m2
    have hmid : (B.take (a1 + m)).drop a1 = (B.drop a1).take m := by rw [List.drop_take, Nat.add_sub_cancel_left]
    rw [hmid] at m2
    have M1 := Aside0.mk m1
    have M2 := Aside0.mk m2
    have HLe := Aside0.mk (show a1 + m ≤ B.length by omega)
    clear hmid m1 m2 h2n
    go_quiet (fail)
    clear kw h2'
    go_wp2
    have m1 := M1.out
    have m2 := fun a => M2.out (w1.drewN a) (below_drewN w1 a)
    have ks := KS.out
    go_quiet (fail)
    clear m1 m2 ks
    have hz1 : a1 + m ≤ 9223372036854775807 := Nat.le_trans HLe.out hN
    go_wp2
    go_ret
    exact ⟨rfl, (HR.out.below (below_drewN w1 _)).move (a1 + m) HLe.out, (HO.out.drewN _).then_ (Only.at_ _ _ _ _)⟩
end Go.Proofs.Ytlelddljamfblaa.Pk
