/- What the reference's register comes to: the same eight single steps a byte. -/
import Derived.Test.YtinpofepmbbehaaFrameA
namespace Go.Proofs.Ytinpofepmbbehaa.PFrame
open Go.RowKit Go.Proofs.YtinpofepmbbehaaW.PrintWords Go.Proofs.YtinpofepmbbehaaW.PrintLast Go.Proofs.YtinpofepmbbehaaW.PrintMore
set_option linter.unusedVariables false
set_option linter.unusedSimpArgs false

theorem V_mod2 (a : B) : Int.tmod (V a) 2 = if a.getLsbD 0 then 1 else 0 := by
  have h : a.getLsbD 0 = decide (a.toNat % 2 = 1) := by
    unfold BitVec.getLsbD
    rw [Nat.testBit_zero]
  rw [h, Int.tmod_eq_emod_of_nonneg (V_lt a).1]
  unfold V
  by_cases e : a.toNat % 2 = 1
  · rw [decide_eq_true e, if_pos rfl]; omega
  · rw [decide_eq_false e, if_neg (by decide)]; omega
theorem V_div2 (a : B) : (Int.tdiv (V a) 2 % (4294967296 : Int) : Int) = V (a >>> 1) := by
  have := V_lt a
  rw [Int.tdiv_eq_ediv_of_nonneg this.1]
  unfold V at *
  rw [BitVec.toNat_ushiftRight, Nat.shiftRight_eq_div_pow]
  omega
theorem V_poly : (3988292384 : Int) = V 0xEDB88320#32 := by decide
def bitN : Nat → B → B
  | 0, a => a
  | n + 1, a => bitN n (bit a)
theorem reg_l0 (d : Nat) : ∀ (i : Nat) (a : B), i + d = 8 → Ev (fun k => meridianref01_Register.l0 k (V a) (i : Int)) (V (bitN d a)) := by
  induction d with
  | zero =>
    intro i a hi
    refine Ev.step (f := fun _ => some (V a)) (fun k => ?_) (Ev.now _)
    simp only [meridianref01_Register.l0]; rw [if_neg (by omega)]
  | succ d ih =>
    intro i a hi
    refine Ev.step (fun k => ?_) (ih (i + 1) (bit a) (by omega))
    simp only [meridianref01_Register.l0]
    rw [if_pos (by omega), V_mod2, V_div2, V_poly, V_xor, w64 (by omega) (by omega)]
    unfold bit
    cases a.getLsbD 0 with
    | true => rw [if_pos rfl, if_pos rfl, if_pos rfl]; rfl
    | false => rw [if_neg (by decide), if_neg (by decide)]; rfl
theorem reg_f (a : B) (c : Int) (hc : IsB c) : Ev (fun k => meridianref01_Register.f k (V a) c) (V (byt a c)) := by
  unfold meridianref01_Register.f
  obtain ⟨b0, b1⟩ := hc
  obtain ⟨e, he⟩ := V_of (x := c) b0 (by omega)
  have e1 : c % 4294967296 = V e := by rw [he] at b0 b1 ⊢; omega
  rw [e1, V_xor]
  unfold byt
  rw [he, ofInt_V]
  exact reg_l0 8 0 (a ^^^ e) (by omega)
theorem V_not' (a : B) : (((4294967295 : Int) - V a) % (4294967296 : Int) : Int) = V (~~~ a) := by
  unfold V
  rw [BitVec.toNat_not]
  have := a.isLt
  omega
theorem rmore_l0 (l : List Int) (hb : ∀ x ∈ l, IsB x) (hl : l.length ≤ 1000000000000000000) (d : Nat) : ∀ (i : Nat) (r : B), i + d = l.length →
    Ev (fun k => meridianref01_More.l0 k l (V r) (i : Int)) (V (~~~ reg r (l.drop i))) := by
  induction d with
  | zero =>
    intro i r hi
    refine Ev.step (f := fun _ => some (V (~~~ r))) (fun k => ?_) ?_
    · simp only [meridianref01_More.l0]; rw [if_neg (by omega), V_not']
    · rw [List.drop_eq_nil_of_le (by omega)]; exact Ev.now _
  | succ d ih =>
    intro i r hi
    have hlt : i < l.length := by omega
    have hm : rd l i ∈ l := by
      have : rd l i :: l.drop (i + 1) = l.drop i := (drop_rd l i hlt).symm
      exact List.mem_of_mem_drop (i := i) (by rw [← this]; exact List.mem_cons_self)
    rw [drop_rd l i hlt, reg_cons]
    refine Ev.step (f := fun k => (meridianref01_Register.f k (V r) (rd l i)).bind fun t106 => (meridianref01_More.l0 k l t106 ((i + 1 : Nat) : Int))) (fun k => ?_) ?_
    · simp only [meridianref01_More.l0]
      rw [if_pos (by omega), if_pos (by omega), w64 (by omega) (by omega)]
      rfl
    · exact Ev.bind (reg_f r (rd l i) (hb _ hm)) (ih (i + 1) _ (by omega))
theorem rmore_f (l : List Int) (hb : ∀ x ∈ l, IsB x) (hl : l.length ≤ 1000000000000000000) (s : B) : Ev (fun k => meridianref01_More.f k (V s) l) (V (~~~ reg (~~~ s) l)) := by
  unfold meridianref01_More.f
  rw [V_not']
  exact rmore_l0 l hb hl l.length 0 (~~~ s) (by omega)
theorem rof_f (l : List Int) (hb : ∀ x ∈ l, IsB x) (hl : l.length ≤ 1000000000000000000) : Ev (fun k => meridianref01_Of.f k l) (V (~~~ reg (BitVec.allOnes 32) l)) := by
  unfold meridianref01_Of.f
  refine Ev.bind (a := V (~~~ reg (BitVec.allOnes 32) l)) ?_ (Ev.now _)
  have := rmore_f l hb hl 0#32
  rw [show V 0#32 = 0 from rfl] at this
  rw [show (~~~ (0#32 : B)) = BitVec.allOnes 32 from by decide] at this
  exact this
end Go.Proofs.Ytinpofepmbbehaa.PFrame
