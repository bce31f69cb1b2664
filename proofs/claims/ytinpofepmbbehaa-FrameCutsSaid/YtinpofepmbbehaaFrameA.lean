/- Plain laws of the sum: the register as 32 bits, a byte as eight single steps; what More, Of and the reference come to. -/
import Derived.Test.YtinpofepmbbehaaPFramex6
namespace Go.Proofs.Ytinpofepmbbehaa.PFrame
open Go.RowKit Go.Proofs.YtinpofepmbbehaaW.PrintWords Go.Proofs.YtinpofepmbbehaaW.PrintLast Go.Proofs.YtinpofepmbbehaaW.PrintMore
set_option linter.unusedVariables false
set_option linter.unusedSimpArgs false

abbrev B := BitVec 32
def V (r : B) : Int := (r.toNat : Int)
theorem V_lt (r : B) : 0 ≤ V r ∧ V r < 4294967296 := by unfold V; have := r.isLt; omega
theorem V_inj {a b : B} (h : V a = V b) : a = b := by unfold V at h; exact BitVec.eq_of_toNat_eq (by omega)
theorem ofInt_V (r : B) : BitVec.ofInt 32 (V r) = r := by
  unfold V
  rw [BitVec.ofInt_natCast]
  simp
theorem V_ofInt {x : Int} (h0 : 0 ≤ x) (h1 : x < 4294967296) : V (BitVec.ofInt 32 x) = x := by
  unfold V
  rw [BitVec.toNat_ofInt]
  omega
theorem V_of {x : Int} (h0 : 0 ≤ x) (h1 : x < 4294967296) : ∃ r, x = V r := ⟨_, (V_ofInt h0 h1).symm⟩
theorem V_xor (a b : B) : Go.bits .xor .u32 (V a) (V b) = V (a ^^^ b) := by
  show IntKind.u32.wrap (((BitVec.ofInt 32 (V a) ^^^ BitVec.ofInt 32 (V b)).toNat : Nat) : Int) = _
  rw [ofInt_V, ofInt_V, IntKind.wrap_u32]
  have := V_lt (a ^^^ b)
  unfold V at *
  omega
theorem V_and (a b : B) : Go.bits .and .u32 (V a) (V b) = V (a &&& b) := by
  show IntKind.u32.wrap (((BitVec.ofInt 32 (V a) &&& BitVec.ofInt 32 (V b)).toNat : Nat) : Int) = _
  rw [ofInt_V, ofInt_V, IntKind.wrap_u32]
  have := V_lt (a &&& b)
  unfold V at *
  omega
theorem V_div16 (a : B) : (V a / (16 : Int) : Int) = V (a >>> 4) := by
  unfold V
  rw [BitVec.toNat_ushiftRight, Nat.shiftRight_eq_div_pow]
  omega
theorem V_ones : (4294967295 : Int) = V (BitVec.allOnes 32) := by decide
theorem V_15 : (15 : Int) = V 15#32 := by decide
theorem V_not (a : B) : Go.bits .xor .u32 4294967295 (V a) = V (~~~ a) := by
  rw [V_ones, V_xor, BitVec.allOnes_xor]

/-- one step of the register -/
def bit (a : B) : B := if a.getLsbD 0 then (a >>> 1) ^^^ 0xEDB88320#32 else a >>> 1
theorem bit_xor (a b : B) : bit (a ^^^ b) = bit a ^^^ bit b := by
  unfold bit
  rw [BitVec.getLsbD_xor, BitVec.ushiftRight_xor_distrib]
  cases a.getLsbD 0 <;> cases b.getLsbD 0 <;> simp
  · rw [BitVec.xor_assoc]
  · rw [BitVec.xor_assoc, BitVec.xor_assoc, BitVec.xor_comm 0xEDB88320#32]
  · rw [show a >>> 1 ^^^ 0xEDB88320#32 ^^^ (b >>> 1 ^^^ 0xEDB88320#32) = a >>> 1 ^^^ b >>> 1 ^^^ (0xEDB88320#32 ^^^ 0xEDB88320#32) from by ac_rfl]
    simp
theorem bit_zero : bit 0#32 = 0#32 := by decide
def bits4 (a : B) : B := bit (bit (bit (bit a)))
def bits8 (a : B) : B := bits4 (bits4 a)
theorem bits4_xor (a b : B) : bits4 (a ^^^ b) = bits4 a ^^^ bits4 b := by unfold bits4; simp only [bit_xor]
theorem bits8_xor (a b : B) : bits8 (a ^^^ b) = bits8 a ^^^ bits8 b := by unfold bits8; simp only [bits4_xor]
theorem bits8_zero : bits8 0#32 = 0#32 := by decide
def tabB (j : Nat) : B := match j with
  | 0 => 0 | 1 => 498536548 | 2 => 997073096 | 3 => 651767980 | 4 => 1994146192 | 5 => 1802195444 | 6 => 1303535960 | 7 => 1342533948 | 8 => 3988292384 | 9 => 4027552580
  | 10 => 3604390888 | 11 => 3412177804 | 12 => 2607071920 | 13 => 2262029012 | 14 => 2685067896 | _ => 3183342108
theorem tabB_is (j : Nat) (hj : j < 16) : bits4 (BitVec.ofNat 32 j) = tabB j ∧ sum_half.t.getD j 0 = V (tabB j) := by
  have : ∀ j : Fin 16, bits4 (BitVec.ofNat 32 j.val) = tabB j.val ∧ sum_half.t.getD j.val 0 = V (tabB j.val) := by decide +kernel
  exact this ⟨j, hj⟩
theorem low_shift (a : B) (h : a &&& 15#32 = 0#32) : bits4 a = a >>> 4 := by
  have key : ∀ i, i < 4 → a.getLsbD i = false := by
    intro i hi
    have h1 : (a &&& 15#32).getLsbD i = false := by rw [h]; simp
    rw [BitVec.getLsbD_and] at h1
    have h2 : (15#32 : B).getLsbD i = true := by
      have : ∀ i : Fin 4, (15#32 : B).getLsbD i.val = true := by decide
      exact this ⟨i, hi⟩
    simpa [h2] using h1
  have s1 : ∀ b : B, b.getLsbD 0 = false → bit b = b >>> 1 := fun b hb => by unfold bit; rw [hb]; rfl
  unfold bits4
  rw [s1 a (key 0 (by omega))]
  rw [s1 (a >>> 1) (by rw [BitVec.getLsbD_ushiftRight]; exact key 1 (by omega))]
  rw [← BitVec.shiftRight_add, s1 (a >>> (1 + 1)) (by rw [BitVec.getLsbD_ushiftRight]; exact key 2 (by omega))]
  rw [← BitVec.shiftRight_add, s1 (a >>> (1 + 1 + 1)) (by rw [BitVec.getLsbD_ushiftRight]; exact key 3 (by omega))]
  rw [← BitVec.shiftRight_add]
theorem nib (a : B) : (a >>> 4) ^^^ tabB (a &&& 15#32).toNat = bits4 a := by
  have h15 : (a &&& 15#32).toNat < 16 := by
    rw [BitVec.toNat_and]
    have : (15#32 : B).toNat = 2 ^ 4 - 1 := by decide
    rw [this, Nat.and_two_pow_sub_one_eq_mod]
    omega
  obtain ⟨t1, _⟩ := tabB_is _ h15
  have e : BitVec.ofNat 32 (a &&& 15#32).toNat = a &&& 15#32 := by simp
  rw [e] at t1
  have hx : a = (a ^^^ (a &&& 15#32)) ^^^ (a &&& 15#32) := by rw [BitVec.xor_assoc]; simp
  have hz : (a ^^^ (a &&& 15#32)) &&& 15#32 = 0#32 := by
    ext i hi
    simp
  conv => rhs; rw [hx]
  rw [bits4_xor, low_shift _ hz, t1, BitVec.ushiftRight_xor_distrib]
  have : (a &&& 15#32) >>> 4 = 0#32 := by
    apply BitVec.eq_of_toNat_eq
    rw [BitVec.toNat_ushiftRight, Nat.shiftRight_eq_div_pow]
    simp only [BitVec.toNat_ofNat]
    all_goals omega
  rw [this]
  simp
theorem half_V (a : B) : sum_half.f (V a) = some (V (tabB (a &&& 15#32).toNat)) := by
  unfold sum_half.f
  rw [V_15, V_and]
  have h15 : (a &&& 15#32).toNat < 16 := by
    rw [BitVec.toNat_and]
    have : (15#32 : B).toNat = 2 ^ 4 - 1 := by decide
    rw [this, Nat.and_two_pow_sub_one_eq_mod]
    omega
  rw [← (tabB_is _ h15).2]
  unfold V
  rw [Int.toNat_natCast]

/-- a byte's step, and a text's -/
def byt (r : B) (c : Int) : B := bits8 (r ^^^ BitVec.ofInt 32 c)
def reg (r : B) (l : List Int) : B := l.foldl byt r
def IsB (x : Int) : Prop := 0 ≤ x ∧ x < 256
theorem reg_cons (r : B) (c : Int) (l : List Int) : reg r (c :: l) = reg (byt r c) l := rfl
theorem reg_append (r : B) (a b : List Int) : reg r (a ++ b) = reg (reg r a) b := by unfold reg; rw [List.foldl_append]

theorem drop_rd (l : List Int) (i : Nat) (h : i < l.length) : l.drop i = rd l i :: l.drop (i + 1) := by
  rw [List.drop_eq_getElem_cons h]
  unfold rd
  rw [Int.toNat_natCast, List.getD_eq_getElem?_getD, List.getElem?_eq_getElem h]
  rfl
theorem w64 {x : Int} (h : -9223372036854775808 ≤ x) (h2 : x ≤ 9223372036854775807) : wrap64 x = x := by unfold wrap64; omega

theorem more_l0 (l : List Int) (hb : ∀ x ∈ l, IsB x) (hl : l.length ≤ 1000000000000000000) (d : Nat) : ∀ (i : Nat) (r : B), i + d = l.length →
    Ev (fun k => sum_More.l0 k (V r) l (l.length : Int) (i : Int)) (V (~~~ reg r (l.drop i))) := by
  induction d with
  | zero =>
    intro i r hi
    refine Ev.step (f := fun _ => some (V (~~~ r))) (fun k => ?_) ?_
    · simp only [sum_More.l0]; rw [if_neg (by omega), V_not]
    · rw [List.drop_eq_nil_of_le (by omega)]; exact Ev.now _
  | succ d ih =>
    intro i r hi
    have hlt : i < l.length := by omega
    have hm : rd l i ∈ l := by
      have : rd l i :: l.drop (i + 1) = l.drop i := (drop_rd l i hlt).symm
      exact List.mem_of_mem_drop (i := i) (by rw [← this]; exact List.mem_cons_self)
    obtain ⟨b0, b1⟩ := hb _ hm
    rw [drop_rd l i hlt, reg_cons]
    refine Ev.step (fun k => ?_) (ih (i + 1) (byt r (rd l i)) (by omega))
    simp only [sum_More.l0]
    rw [if_pos (by omega), if_pos (by omega), if_pos (by omega)]
    obtain ⟨c, hc⟩ := V_of (x := rd l i) b0 (by omega)
    have e1 : rd l i % 4294967296 = V c := by rw [hc] at b0 b1 ⊢; omega
    rw [e1, V_xor, half_V, Option.bind_some, V_div16, V_xor, nib, half_V, Option.bind_some, V_div16, V_xor, nib, w64 (by omega) (by omega)]
    unfold byt bits8
    rw [hc, ofInt_V]
    rfl

theorem more_f (l : List Int) (hb : ∀ x ∈ l, IsB x) (hl : l.length ≤ 1000000000000000000) (s : B) : Ev (fun k => sum_More.f k (V s) l) (V (~~~ reg (~~~ s) l)) := by
  unfold sum_More.f
  rw [V_not]
  exact more_l0 l hb hl l.length 0 (~~~ s) (by omega)
theorem of_f (l : List Int) (hb : ∀ x ∈ l, IsB x) (hl : l.length ≤ 1000000000000000000) : Ev (fun k => sum_Of.f k l) (V (~~~ reg (BitVec.allOnes 32) l)) := by
  unfold sum_Of.f
  refine Ev.bind (a := V (~~~ reg (BitVec.allOnes 32) l)) ?_ (Ev.now _)
  have := more_f l hb hl 0#32
  rw [show V 0#32 = 0 from rfl] at this
  rw [show (~~~ (0#32 : B)) = BitVec.allOnes 32 from by decide] at this
  exact this
theorem isB_of {l : List Int} (h : ∀ x ∈ l, (Lit.int .u8 x).wf = true) : ∀ x ∈ l, IsB x := fun x hx => by
  have := h x hx
  simp [Lit.wf, IntKind.min, IntKind.max, IntKind.signed, IntKind.bits] at this
  unfold IsB
  omega
end Go.Proofs.Ytinpofepmbbehaa.PFrame
