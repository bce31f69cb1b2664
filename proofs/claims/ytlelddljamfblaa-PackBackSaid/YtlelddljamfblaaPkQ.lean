/- What was written is read in its order, and nothing is left; without the last byte a fault is met: the walk of the law. -/
import Derived.Test.YtlelddljamfblaaPkP
import Derived.Test.YtlelddljamfblaaPkL
import Derived.Outline
namespace Go.Proofs.Ytlelddljamfblaa.Pk
open Go.RowKit Go.Proofs.YtlelddljamfblaaW.PrintWords Go.Proofs.YtlelddljamfblaaW.PrintLast Go.Proofs.YtlelddljamfblaaW.PrintMore Go.Proofs.Ytlelddljamfblaa.PPk
set_option linter.unusedVariables false
set_option linter.unusedSimpArgs false

theorem GoodRow.readsInt {R : List Int × Bool} {w w1 w2 : World} {q c : Nat} (h : GoodRow R w w1 q c) (hb : Below w1.heap.size w1 w2) : ReadsInt w2 .u8 (some ⟨q, 0, none⟩) R.1.length R.1 := (own_reads' h.1).below hb
theorem GoodRow.readsN {R : List Int × Bool} {n : Nat} (hn : R.1.length = n) {w w1 w2 : World} {q c : Nat} (h : GoodRow R w w1 q c) (hb : Below w1.heap.size w1 w2) : ReadsInt w2 .u8 (some ⟨q, 0, none⟩) n R.1 := hn ▸ h.readsInt hb
set_option maxRecDepth 100000 in
set_option maxHeartbeats 8000000 in
theorem packBack_c (A : Option Addr) (c : Nat) (l : List S46) (w : World) (hr : Kd.C k46 w A l.length l) (hc : l.length ≤ c) (hlen : l.length * 32 ≤ 140737488351232) :
    Calls Try.prog 5 #[.slice A l.length c] w fun e w' => e = .returned (.bool true) ∧ Below w.heap.size w w' := by
  obtain ⟨b, kf, hf, hbt⟩ := few_f l (by omega)
  have HR := Aside0.mk hr
  have HC := Aside0.mk hc
  have HF := Aside0.mk hf
  have C0 := Aside0.mk (awake_c w)
  clear hr hc hf hlen
  cases b
  · clear hbt
    go_enter Try.func5, Try.ntmps5
    go_wp2_with (first
      | (go_at_call 9; (with_reducible refine C0.out.mono ?_); rintro e w1 ⟨rfl, hB⟩; have HB := Aside0.mk hB; clear hB)
      | (go_at_call 12; (with_reducible refine (meridianlaw02_few.calls kf _ _ l false _ (Kd.C_below HR.out HB.out) HC.out HF.out).mono ?_); rintro e w2 ⟨rfl, hB2⟩; have HB2 := Aside0.mk (below_step HB.out hB2); clear hB2))
    go_ret
    exact ⟨rfl, HB2.out⟩
  · obtain ⟨hs, hl⟩ := hbt rfl
    have HS := Aside0.mk hs
    have HL := Aside0.mk hl
    have hle := wall_le hs l.length (Nat.le_refl _)
    rw [List.take_length] at hle
    have HLE := Aside0.mk (show (wall l).1.length ≤ 140737488355328 by omega)
    clear hs hl hbt hle
    rcases hbad : (wall l).2 with _ | _
    · have HBAD := Aside0.mk hbad
      obtain ⟨hg, he⟩ := wall_good hbad
      have HI := Aside0.mk (show ∀ x ∈ (wall l).1, IsB x by rw [he]; exact items_isB l)
      have HA1 := Aside0.mk (show ragain l (wall l).1 false = true by rw [he]; exact ragain_all hg)
      have HA2 := Aside0.mk (show 0 < (wall l).1.length → ragain l ((wall l).1.take ((wall l).1.length - 1)) false = false by rw [he]; exact ragain_less (items_isB l))
      clear hbad hg he
      generalize hn : (wall l).1.length = n at *
      have HLN := Aside0.mk hn
      have hle := HLE.out
      clear hn
      cases n with
      | zero =>
        go_enter Try.func5, Try.ntmps5
        go_wp2_with (
          first
          | (go_at_call 9; (with_reducible refine C0.out.mono ?_); rintro e w1 ⟨rfl, hB⟩; have HB := Aside0.mk hB; clear hB)
          | (go_at_call 12; (with_reducible refine (meridianlaw02_few.calls kf _ _ l true _ (Kd.C_below HR.out HB.out) HC.out HF.out).mono ?_); rintro e w2 ⟨rfl, hB2⟩; have HB2 := Aside0.mk (below_step HB.out hB2); clear hB2)
          | (go_at_call 13; (with_reducible refine (written_c _ _ l _ (Kd.C_below HR.out HB2.out) HS.out HL.out).mono ?_); intro e w3 hw; obtain ⟨q1, d1, he, hG⟩ := hw.good HBAD.out; rw [HLN.out] at he; subst he; have hcap := GoodRow.cap hG; rw [HLN.out] at hcap; have HB3 := Aside0.mk (below_step HB2.out hG.2.2.2.2); have HG1 := Aside0.mk hG; clear hG hw)
          | (go_at_call 18; (with_reducible refine (read_new (w := w3) _ _ _ (wall l).1 (Below.refl _ _) (GoodRow.readsN HLN.out HG1.out (Below.refl _ _)) HLE.out).mono ?_); rintro e w4 ⟨g, q, rfl, hN⟩; have HN := Aside0.mk hN; clear hN)
          | (go_at_call 17; (with_reducible refine (again_rd g q (wall l).1 false _ _ l w3 _ HN.out HI.out (Kd.C_below HR.out HB3.out)).mono ?_); rw [HA1.out]; rintro e w5 ⟨rfl, hB⟩; have HB5 := Aside0.mk (below_step HB3.out hB); have HB35 := Aside0.mk hB; clear hB))
        go_ret
        exact ⟨rfl, HB5.out⟩
      | succ m =>
        have h0' : (((m + 1 : Nat) : Int) == 0) = false := by simp; omega
        have HTL := Aside0.mk (show ((wall l).1.take m).length = m by rw [List.length_take, HLN.out]; omega)
        have HI2 := Aside0.mk (show ∀ x ∈ (wall l).1.take m, IsB x from fun x hx => HI.out x (List.mem_of_mem_take hx))
        have HA3 := Aside0.mk (show ragain l ((wall l).1.take m) false = false from HA2.out (by omega))
        have HLE2 := Aside0.mk (show m ≤ 140737488355328 by omega)
        go_enter Try.func5, Try.ntmps5
        go_wp2_with (
          first
          | (go_at_call 9; (with_reducible refine C0.out.mono ?_); rintro e w1 ⟨rfl, hB⟩; have HB := Aside0.mk hB; clear hB)
          | (go_at_call 12; (with_reducible refine (meridianlaw02_few.calls kf _ _ l true _ (Kd.C_below HR.out HB.out) HC.out HF.out).mono ?_); rintro e w2 ⟨rfl, hB2⟩; have HB2 := Aside0.mk (below_step HB.out hB2); clear hB2)
          | (go_at_call 13; (with_reducible refine (written_c _ _ l _ (Kd.C_below HR.out HB2.out) HS.out HL.out).mono ?_); intro e w3 hw; obtain ⟨q1, d1, he, hG⟩ := hw.good HBAD.out; rw [HLN.out] at he; subst he; have hcap := GoodRow.cap hG; rw [HLN.out] at hcap; have HB3 := Aside0.mk (below_step HB2.out hG.2.2.2.2); have HG1 := Aside0.mk hG; clear hG hw)
          | (go_at_call 18; (with_reducible refine (read_new (w := w3) _ _ _ (wall l).1 (Below.refl _ _) (GoodRow.readsN HLN.out HG1.out (Below.refl _ _)) HLE.out).mono ?_); rintro e w4 ⟨g, q, rfl, hN⟩; have HN := Aside0.mk hN; clear hN)
          | (go_at_call 17; (with_reducible refine (again_rd g q (wall l).1 false _ _ l w3 _ HN.out HI.out (Kd.C_below HR.out HB3.out)).mono ?_); rw [HA1.out]; rintro e w5 ⟨rfl, hB⟩; have HB5 := Aside0.mk (below_step HB3.out hB); have HB35 := Aside0.mk hB; clear hB)
          | (go_at_call 18; (with_reducible refine (read_new (w := w5) _ _ _ ((wall l).1.take m) (Below.refl _ _) (ReadsInt.take_ (GoodRow.readsN HLN.out HG1.out HB35.out) m (Nat.le_succ m)) HLE2.out).mono ?_); rintro e w6 ⟨g2, q2, rfl, hN⟩; have HN2 := Aside0.mk hN; clear hN)
          | (go_at_call 17; (with_reducible refine (again_rd g2 q2 ((wall l).1.take m) false _ _ l w5 _ HN2.out HI2.out (Kd.C_below HR.out HB5.out)).mono ?_); rw [HA3.out]; rintro e w7 ⟨rfl, hB⟩; have HB7 := Aside0.mk (below_step HB5.out hB); clear hB))
        go_ret
        exact ⟨rfl, HB7.out⟩
    · have HBAD := Aside0.mk hbad
      clear hbad
      go_enter Try.func5, Try.ntmps5
      go_wp2_with (
          first
          | (go_at_call 9; (with_reducible refine C0.out.mono ?_); rintro e w1 ⟨rfl, hB⟩; have HB := Aside0.mk hB; clear hB)
          | (go_at_call 12; (with_reducible refine (meridianlaw02_few.calls kf _ _ l true _ (Kd.C_below HR.out HB.out) HC.out HF.out).mono ?_); rintro e w2 ⟨rfl, hB2⟩; have HB2 := Aside0.mk (below_step HB.out hB2); clear hB2)
          | (go_at_call 13; (with_reducible refine (written_c _ _ l _ (Kd.C_below HR.out HB2.out) HS.out HL.out).mono ?_); intro e w3 hw; obtain ⟨rfl, hG⟩ := hw.spoilt HBAD.out; have HB3 := Aside0.mk (below_step HB2.out hG); clear hG))
      go_ret
      exact ⟨rfl, HB3.out⟩
end Go.Proofs.Ytlelddljamfblaa.Pk
