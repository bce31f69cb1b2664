/- A reader that has met a fault answers 0, false, "" to all that is asked, and ErrForm in the end: the walk of the law. -/
import Derived.Test.YtlelddljamfblaaPkL
import Derived.Outline
namespace Go.Proofs.Ytlelddljamfblaa.Pk
open Go.RowKit Go.Proofs.YtlelddljamfblaaW.PrintWords Go.Proofs.YtlelddljamfblaaW.PrintLast Go.Proofs.YtlelddljamfblaaW.PrintMore Go.Proofs.Ytlelddljamfblaa.PPk
set_option linter.unusedVariables false
set_option linter.unusedSimpArgs false

/-- A reader that was made behind w. -/
def RdNew (w w' : World) (g q : Nat) (bs : List Int) (bad : Bool) : Prop := RdAt w' g q bs bad ∧ w.heap.size ≤ g ∧ w.heap.size ≤ q ∧ Below w.heap.size w w'
theorem RdNew.next {w w1 w2 : World} {g q : Nat} {bs bs2 : List Int} {bad bad2 : Bool} (h : RdNew w w1 g q bs bad) (hR : RdAt w2 g q bs2 bad2) (hO : Only (· = g) w1 w2) : RdNew w w2 g q bs2 bad2 :=
  ⟨hR, h.2.1, h.2.2.1, ⟨hO.os.trans h.2.2.2.os, hO.tape.trans h.2.2.2.tape, hO.output.trans h.2.2.2.output, Nat.le_trans h.2.2.2.size hO.size, fun i hi => (hO.block i (Nat.lt_of_lt_of_le hi h.2.2.2.size) (fun e => by have := h.2.1; omega)).trans (h.2.2.2.block i hi)⟩⟩
theorem RdNew.below {w w1 w2 : World} {g q : Nat} {bs : List Int} {bad : Bool} (h : RdNew w w1 g q bs bad) (hB : Below w1.heap.size w1 w2) : RdNew w w2 g q bs bad :=
  ⟨h.1.only (Only.of_below hB (fun _ => False)) id id, h.2.1, h.2.2.1, below_step h.2.2.2 hB⟩
theorem RdNew.bel {w w1 : World} {g q : Nat} {bs : List Int} {bad : Bool} (h : RdNew w w1 g q bs bad) : Below w.heap.size w w1 := h.2.2.2
theorem num_rd {w w1 : World} {g q : Nat} {bs : List Int} {bad : Bool} (h : RdNew w w1 g q bs bad) (hb : ∀ x ∈ bs, IsB x) :
    Calls Try.prog 21 #[.pointer (some ⟨g, 0, none⟩)] w1 fun e w2 => e = .returned (.int .i64 (rnum bs bad).1) ∧ RdNew w w2 g q (rnum bs bad).2.1 (rnum bs bad).2.2 :=
  (rNum_c g q bs bad w1 h.1 hb).mono fun e w2 ⟨he, hR, hO⟩ => ⟨he, h.next hR hO⟩
theorem flag_rd {w w1 : World} {g q : Nat} {bs : List Int} {bad : Bool} (h : RdNew w w1 g q bs bad) (hb : ∀ x ∈ bs, IsB x) :
    Calls Try.prog 19 #[.pointer (some ⟨g, 0, none⟩)] w1 fun e w2 => e = .returned (.bool (rflag bs bad).1) ∧ RdNew w w2 g q (rflag bs bad).2.1 (rflag bs bad).2.2 :=
  (rFlag_c g q bs bad w1 h.1 hb).mono fun e w2 ⟨he, hR, hO⟩ => ⟨he, h.next hR hO⟩
theorem count_rd {w w1 : World} {g q : Nat} {bs : List Int} {bad : Bool} (most : Int) (h : RdNew w w1 g q bs bad) (hb : ∀ x ∈ bs, IsB x) :
    Calls Try.prog 26 #[.pointer (some ⟨g, 0, none⟩), .int .i64 most] w1 fun e w2 => e = .returned (.int .i64 (rcount most bs bad).1) ∧ RdNew w w2 g q (rcount most bs bad).2.1 (rcount most bs bad).2.2 :=
  (rCount_c most g q bs bad w1 h.1 hb).mono fun e w2 ⟨he, hR, hO⟩ => ⟨he, h.next hR hO⟩
theorem text_rd {w w1 : World} {g q : Nat} {bs : List Int} {bad : Bool} (most : Int) (h : RdNew w w1 g q bs bad) (hb : ∀ x ∈ bs, IsB x) :
    Calls Try.prog 20 #[.pointer (some ⟨g, 0, none⟩), .int .i64 most] w1 fun e w2 => e = .returned (.string (strOfNums (rtext most bs bad).1)) ∧ RdNew w w2 g q (rtext most bs bad).2.1 (rtext most bs bad).2.2 :=
  (rText_c most g q bs bad w1 h.1 hb).mono fun e w2 ⟨he, hR, hO⟩ => ⟨he, h.next hR hO⟩
theorem end_rd {w w1 : World} {g q : Nat} {bs : List Int} {bad : Bool} (h : RdNew w w1 g q bs bad) :
    Calls Try.prog 22 #[.pointer (some ⟨g, 0, none⟩)] w1 fun e w2 => e = .returned (.int .i64 (rend bs bad)) ∧ w1 = w2 := rEnd_c g q bs bad w1 h.1
theorem read_new {w w1 : World} (A : Option Addr) (n c : Nat) (xs : List Int) (hb : Below w.heap.size w w1) (hr : ReadsInt w1 .u8 A n xs) (hn : n ≤ 140737488355328) :
    Calls Try.prog 18 #[.slice A n c] w1 fun e w2 => ∃ g q, e = .returned (.pointer (some ⟨g, 0, none⟩)) ∧ RdNew w w2 g q xs false :=
  (read_c A n c xs w1 hr hn).mono fun e w2 ⟨g, q, he, hR, h1, h2, h3, h4⟩ => ⟨g, q, he, hR, Nat.le_trans hb.size h1, Nat.le_trans hb.size h2, below_step hb h4⟩

theorem rnum_bad (bs : List Int) : rnum bs true = (0, bs, true) := rfl
theorem rflag_bad (bs : List Int) : rflag bs true = (false, bs, true) := rfl
theorem rtext_bad (most : Int) (bs : List Int) : rtext most bs true = ([], bs, true) := rfl
theorem rcount_bad (most : Int) (h : 0 ≤ most) (bs : List Int) : rcount most bs true = (0, bs, true) := by
  unfold rcount; rw [rnum_bad, if_neg (by omega)]
theorem rtext_neg (bs : List Int) : (rtext (-1) bs false).1 = [] ∧ (rtext (-1) bs false).2.2 = true ∧ ∃ m, (rtext (-1) bs false).2.1 = bs.drop m := by
  have h := rnum_nonneg bs false
  unfold rtext
  rw [if_pos (.inr (.inl (by omega)))]
  exact ⟨rfl, rfl, rnum_suffix bs false⟩

section
variable {w w1 : World} {g q : Nat} {bs : List Int}
theorem num_b (h : RdNew w w1 g q bs true) (hb : ∀ x ∈ bs, IsB x) :
    Calls Try.prog 21 #[.pointer (some ⟨g, 0, none⟩)] w1 fun e w2 => e = .returned (.int .i64 0) ∧ RdNew w w2 g q bs true := num_rd h hb
theorem flag_b (h : RdNew w w1 g q bs true) (hb : ∀ x ∈ bs, IsB x) :
    Calls Try.prog 19 #[.pointer (some ⟨g, 0, none⟩)] w1 fun e w2 => e = .returned (.bool false) ∧ RdNew w w2 g q bs true := flag_rd h hb
theorem text_b (most : Int) (h : RdNew w w1 g q bs true) (hb : ∀ x ∈ bs, IsB x) :
    Calls Try.prog 20 #[.pointer (some ⟨g, 0, none⟩), .int .i64 most] w1 fun e w2 => e = .returned (.string ⟨#[]⟩) ∧ RdNew w w2 g q bs true := text_rd most h hb
theorem count_b (most : Int) (h0 : 0 ≤ most) (h : RdNew w w1 g q bs true) (hb : ∀ x ∈ bs, IsB x) :
    Calls Try.prog 26 #[.pointer (some ⟨g, 0, none⟩), .int .i64 most] w1 fun e w2 => e = .returned (.int .i64 0) ∧ RdNew w w2 g q bs true := by
  have := count_rd most h hb
  rw [rcount_bad most h0] at this
  exact this
theorem end_b (h : RdNew w w1 g q bs true) :
    Calls Try.prog 22 #[.pointer (some ⟨g, 0, none⟩)] w1 fun e w2 => e = .returned (.int .i64 2) ∧ w1 = w2 := end_rd h
end
set_option maxRecDepth 100000 in
set_option maxHeartbeats 8000000 in
theorem packFaults_c (A : Option Addr) (c : Nat) (l : List Int) (A1 : Option Addr) (c1 : Nat) (l1 : List Int) (w : World) (hr : ReadsInt w .u8 A l.length l) (hl : l.length ≤ 140737488351232) (hb : ∀ x ∈ l, IsB x) (hr1 : ReadsInt w .u8 A1 l1.length l1) (hb1 : ∀ x ∈ l1, IsB x) :
    Calls Try.prog 8 #[.slice A l.length c, .slice A1 l1.length c1] w fun e w' => e = .returned (.bool true) ∧ Below w.heap.size w w' := by
  have HR := Aside0.mk hr
  have HR1 := Aside0.mk hr1
  have HL := Aside0.mk (show l.length ≤ 140737488355328 by omega)
  have HB0 := Aside0.mk hb
  have HB1 := Aside0.mk hb1
  have C0 := Aside0.mk (awake_c w)
  obtain ⟨ht1, ht2, mm, ht3⟩ := rtext_neg l
  have HT1 := Aside0.mk ht1
  have HT2 := Aside0.mk ht2
  have HS := Aside0.mk (show ∀ x ∈ (rtext (-1) l false).2.1, IsB x by rw [ht3]; exact fun x hx => hb x (List.mem_of_mem_drop hx))
  have e0 : strOfNums [] = (⟨#[]⟩ : ByteArray) := rfl
  have E0 := Aside0.mk e0
  have EL := Aside0.mk (show ((⟨#[]⟩ : ByteArray).toList == (⟨#[]⟩ : ByteArray).toList) = true from beq_self_eq_true _)
  have ER : ∀ bs, rend bs true = 2 := fun bs => if_pos (.inl rfl)
  have EREnd := Aside0.mk ER
  have hn1 : l1.length ≤ 9223372036854775807 := hr1.2.1
  have HN1 := Aside0.mk hn1
  clear hr hl hr1 ht1 ht2 ht3 hb hb1 e0 ER hn1
  generalize hbs : (rtext (-1) l false).2.1 = bs at *
  have HBS := Aside0.mk hbs
  clear hbs
  generalize hll : l1.length = n1 at *
  have HLL := Aside0.mk hll
  clear hll
  go_enter Try.func8, Try.ntmps8
  go_wp2_with (first
    | (go_at_call 9; (with_reducible refine C0.out.mono ?_); rintro e w1 ⟨rfl, hB⟩; have HB := Aside0.mk hB; clear hB)
    | (go_at_call 18; (with_reducible refine (read_new (w := w) _ _ _ l HB.out (ReadsInt.below HR.out HB.out) HL.out).mono ?_); rintro e w2 ⟨g, q, rfl, hN⟩; have HN := Aside0.mk hN; clear hN)
    | (go_at_call 20; (with_reducible refine (text_rd (-1) HN.out HB0.out).mono ?_); rintro e w3 ⟨rfl, hN⟩; rw [HT1.out, E0.out]; rw [HT2.out, HBS.out] at hN; have HN2 := Aside0.mk hN; clear hN))
  clear HT1 HT2 HN E0 C0
  go_loopw [6] (fun i wr => ∃ k : Nat, i = .int .i64 k ∧ k ≤ n1 ∧ k ≤ 100 ∧ Aside0 (RdNew w wr g q bs true)) (fun i _ => 100 - (intOf i).toNat)
  case atStart => exact ⟨0, rfl, by omega, by omega, HN2⟩
  case round =>
    clear HN2
    obtain ⟨k, rfl, hk, hk2, HV⟩ := hrel
    by_cases hlt : k < n1
    · by_cases hlt2 : k < 100
      · obtain ⟨ad, e, c0⟩ := HR1.out.at_ (k : Int) (by omega) (by omega)
        cases e
        rw [Int.toNat_natCast] at c0
        have K0 := Aside0.mk c0
        have hx : IsB (rd l1 k) := by
          have : rd l1 k ∈ l1 := by
            unfold rd
            rw [Int.toNat_natCast, List.getD_eq_getElem?_getD, List.getElem?_eq_getElem (by rw [HLL.out]; exact hlt)]
            exact List.getElem_mem _
          exact HB1.out _ this
        obtain ⟨x0, x1⟩ := hx
        generalize rd l1 k = x at *
        clear c0
        go_wp2_with (first
          | (go_at_call 21; (with_reducible refine (num_b HV.out HS.out).mono ?_); rintro e w4 ⟨rfl, hN⟩; have HN4 := Aside0.mk hN; clear hN)
          | (go_at_call 19; (with_reducible refine (flag_b HN4.out HS.out).mono ?_); rintro e w5 ⟨rfl, hN⟩; have c5 := (hN.bel.cell (World.block_lt_of_cell? w _ K0.out)).trans K0.out; have HN5 := Aside0.mk hN; clear hN)
          | (go_at_call 20; (with_reducible refine (text_b _ HN5.out HS.out).mono ?_); rintro e w6 ⟨rfl, hN⟩; have c6 := (hN.bel.cell (World.block_lt_of_cell? w _ K0.out)).trans K0.out; have HN6 := Aside0.mk hN; clear hN)
          | (go_at_call 26; (with_reducible refine (count_b _ x0 HN6.out HS.out).mono ?_); rintro e w7 ⟨rfl, hN⟩; have HN7 := Aside0.mk hN; clear hN))
        go_roundw
        case rel => exact ⟨k + 1, by go_num, by omega, by omega, HN7⟩
        case measure => simp [intOf]; omega
      · have hlt2' : decide (k < 100) = false := decide_eq_false hlt2
        go_wp2_with (go_at_call 22; (with_reducible refine (end_b HV.out).mono ?_); rintro e w4 ⟨rfl, rfl⟩)
        go_ret
        exact ⟨rfl, HV.out.bel⟩
    · have hlt' : decide (k < n1) = false := decide_eq_false hlt
      go_wp2_with (go_at_call 22; (with_reducible refine (end_b HV.out).mono ?_); rintro e w4 ⟨rfl, rfl⟩)
      go_ret
      exact ⟨rfl, HV.out.bel⟩
end Go.Proofs.Ytlelddljamfblaa.Pk
