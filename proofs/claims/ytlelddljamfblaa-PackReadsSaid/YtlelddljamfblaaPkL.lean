/- Any numbers, flags and texts are written as the document says, or the writer is spoilt: the walk of the law. -/
import Derived.Test.YtlelddljamfblaaPkK
import Derived.Outline
namespace Go.Proofs.Ytlelddljamfblaa.Pk
open Go.RowKit Go.Proofs.YtlelddljamfblaaW.PrintWords Go.Proofs.YtlelddljamfblaaW.PrintLast Go.Proofs.YtlelddljamfblaaW.PrintMore Go.Proofs.Ytlelddljamfblaa.PPk
set_option linter.unusedVariables false
set_option linter.unusedSimpArgs false

theorem C_of {w : World} {A : Option Addr} {xs : List Int} {n : Nat} (h : ReadsInt w .u8 A n xs) : Kd.C (Kd.int .u8) w A n xs := Kd.C_of_reads (enc := Value.int .u8) (d := (0 : Int)) (h1 := fun _ => rfl) h
theorem GoodRow.reads {R : List Int × Bool} {w w1 w2 : World} {q c : Nat} (h : GoodRow R w w1 q c) (hb : Below w1.heap.size w1 w2) : Kd.C (Kd.int .u8) w2 (some ⟨q, 0, none⟩) R.1.length R.1 := C_of ((own_reads' h.1).below hb)
theorem GoodRow.bel {R : List Int × Bool} {w w1 : World} {q c : Nat} (h : GoodRow R w w1 q c) : Below w.heap.size w w1 := h.2.2.2.2
theorem GoodRow.cap {R : List Int × Bool} {w w1 : World} {q c : Nat} (h : GoodRow R w w1 q c) : R.1.length ≤ c := h.2.1
theorem same_refl (xs : List Int) : meridianref01_Same.f xs xs = some true := by
  unfold meridianref01_Same.f
  exact congrArg some (beq_self_eq_true _)
theorem C_nil (w : World) : Kd.C (Kd.int .u8) w none ([] : List Int).length [] := C_of (ReadsInt.nil _ _)
theorem drawn_below {w0 w w' : World} (hb : Below w0.heap.size w0 w) (h : Drawn0 w w') : Below w0.heap.size w0 w' := below_step hb h.below

set_option maxRecDepth 100000 in
set_option maxHeartbeats 4000000 in
theorem packWrites_c (A : Option Addr) (c : Nat) (l : List S46) (w : World) (hr : Kd.C k46 w A l.length l) (hc : l.length ≤ c) (hlen : l.length * 32 ≤ 140737488351232) :
    Calls Try.prog 4 #[.slice A l.length c] w fun e w' => e = .returned (.bool true) ∧ Below w.heap.size w w' := by
  obtain ⟨b, kf, hf, hbt⟩ := few_f l (by omega)
  have HR := Aside0.mk hr
  have HC := Aside0.mk hc
  have HF := Aside0.mk hf
  have C0 := Aside0.mk (awake_c w)
  clear hr hc hf hlen
  cases b
  · clear hbt
    go_enter Try.func4, Try.ntmps4
    go_wp2_with (first
      | (go_at_call 9; (with_reducible refine C0.out.mono ?_); rintro e w1 ⟨rfl, hB⟩; have HB := Aside0.mk hB; clear hB)
      | (go_at_call 12; (with_reducible refine (meridianlaw02_few.calls kf _ _ l false _ (Kd.C_below HR.out HB.out) HC.out HF.out).mono ?_); rintro e w2 ⟨rfl, hB2⟩; have HB2 := Aside0.mk (below_step HB.out hB2); clear hB2))
    go_ret
    exact ⟨rfl, HB2.out⟩
  · obtain ⟨hs, hl⟩ := hbt rfl
    have HS := Aside0.mk hs
    have HL := Aside0.mk hl
    clear hs hl hbt
    rcases hbad : (wall l).2 with _ | _
    · have HBAD := Aside0.mk hbad
      clear hbad
      go_enter Try.func4, Try.ntmps4
      go_wp2_with (first
        | (go_at_call 9; (with_reducible refine C0.out.mono ?_); rintro e w1 ⟨rfl, hB⟩; have HB := Aside0.mk hB; clear hB)
        | (go_at_call 12; (with_reducible refine (meridianlaw02_few.calls kf _ _ l true _ (Kd.C_below HR.out HB.out) HC.out HF.out).mono ?_); rintro e w2 ⟨rfl, hB2⟩; have HB2 := Aside0.mk (below_step HB.out hB2); clear hB2)
        | (go_at_call 13; (with_reducible refine (written_c _ _ l _ (Kd.C_below HR.out HB2.out) HS.out HL.out).mono ?_); intro e w3 hw; obtain ⟨q1, d1, rfl, hG⟩ := hw.good HBAD.out; have HB3 := Aside0.mk (below_step HB2.out hG.2.2.2.2); have HG1 := Aside0.mk hG; clear hG)
        | (go_at_call 14; (with_reducible refine (refBytes_c _ _ l _ (Kd.C_below HR.out HB3.out) HS.out HL.out).mono ?_); intro e w4 hw; obtain ⟨q2, d2, rfl, hG⟩ := hw.good HBAD.out; have HB4 := Aside0.mk (below_step HB3.out hG.2.2.2.2); have HG2 := Aside0.mk hG; clear hG)
        | (go_at_call 10; (with_reducible refine (wNum_nil _ _).mono ?_); rintro e w5 ⟨rfl, rfl⟩)
        | (go_at_call 15; (with_reducible refine (wText_nil _ _).mono ?_); rintro e w5 ⟨rfl, rfl⟩)
        | (go_at_call 11; (with_reducible refine (wBytes_nil _).mono ?_); rintro e w5 ⟨rfl, rfl⟩)
        | (go_at_call 16; (with_reducible refine (meridianref01_Same.calls _ _ _ _ _ _ true _ (GoodRow.reads HG1.out (GoodRow.bel HG2.out)) (GoodRow.cap HG1.out) (GoodRow.reads HG2.out (Below.refl _ _)) (GoodRow.cap HG2.out) (same_refl _)).mono ?_); rintro e w6 ⟨rfl, hD⟩; have HB5 := Aside0.mk (drawn_below HB4.out hD); clear hD))
      go_ret
      exact ⟨rfl, HB5.out⟩
    · have HBAD := Aside0.mk hbad
      clear hbad
      go_enter Try.func4, Try.ntmps4
      go_wp2_with (first
        | (go_at_call 9; (with_reducible refine C0.out.mono ?_); rintro e w1 ⟨rfl, hB⟩; have HB := Aside0.mk hB; clear hB)
        | (go_at_call 12; (with_reducible refine (meridianlaw02_few.calls kf _ _ l true _ (Kd.C_below HR.out HB.out) HC.out HF.out).mono ?_); rintro e w2 ⟨rfl, hB2⟩; have HB2 := Aside0.mk (below_step HB.out hB2); clear hB2)
        | (go_at_call 13; (with_reducible refine (written_c _ _ l _ (Kd.C_below HR.out HB2.out) HS.out HL.out).mono ?_); intro e w3 hw; obtain ⟨rfl, hG⟩ := hw.spoilt HBAD.out; have HB3 := Aside0.mk (below_step HB2.out hG); clear hG)
        | (go_at_call 14; (with_reducible refine (refBytes_c _ _ l _ (Kd.C_below HR.out HB3.out) HS.out HL.out).mono ?_); intro e w4 hw; obtain ⟨rfl, hG⟩ := hw.spoilt HBAD.out; have HB4 := Aside0.mk (below_step HB3.out hG); clear hG)
        | (go_at_call 10; (with_reducible refine (wNum_nil _ _).mono ?_); rintro e w5 ⟨rfl, rfl⟩)
        | (go_at_call 15; (with_reducible refine (wText_nil _ _).mono ?_); rintro e w5 ⟨rfl, rfl⟩)
        | (go_at_call 11; (with_reducible refine (wBytes_nil _).mono ?_); rintro e w5 ⟨rfl, rfl⟩)
        | (go_at_call 16; (refine (meridianref01_Same.calls none 0 [] none 0 [] true _ (C_nil _) (Nat.le_refl _) (C_nil _) (Nat.le_refl _) (same_refl _)).mono ?_); rintro e w6 ⟨rfl, hD⟩; have HB5 := Aside0.mk (drawn_below HB4.out hD); clear hD))
      go_ret
      exact ⟨rfl, HB5.out⟩
end Go.Proofs.Ytlelddljamfblaa.Pk
