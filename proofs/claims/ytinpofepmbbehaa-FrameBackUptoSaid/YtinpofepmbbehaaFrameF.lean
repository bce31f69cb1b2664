/- One byte turned in a frame: it is opened no more; a frame with some missing or more behind it is opened no more. -/
import Derived.Test.YtinpofepmbbehaaFrameE
namespace Go.Proofs.Ytinpofepmbbehaa.PFrame
open Go.RowKit Go.Proofs.YtinpofepmbbehaaW.PrintWords Go.Proofs.YtinpofepmbbehaaW.PrintLast Go.Proofs.YtinpofepmbbehaaW.PrintMore
set_option linter.unusedVariables false
set_option linter.unusedSimpArgs false

theorem bit_zero_of {x : B} (h : bit x = 0#32) : x = 0#32 := by
  unfold bit at h
  cases h0 : x.getLsbD 0 with
  | true =>
    rw [h0, if_pos rfl] at h
    have h1 : ((x >>> 1) ^^^ 0xEDB88320#32).getLsbD 31 = false := by rw [h]; simp
    rw [BitVec.getLsbD_xor, BitVec.getLsbD_ushiftRight] at h1
    have h2 : x.getLsbD (1 + 31) = false := BitVec.getLsbD_of_ge _ _ (by decide)
    rw [h2] at h1
    exact absurd h1 (by decide)
  | false =>
    rw [h0, if_neg (by decide)] at h
    apply BitVec.eq_of_getLsbD_eq
    intro i hi
    rw [BitVec.getLsbD_zero]
    cases i with
    | zero => exact h0
    | succ i =>
      have h1 : (x >>> 1).getLsbD i = false := by rw [h]; simp
      rw [BitVec.getLsbD_ushiftRight] at h1
      rw [show i + 1 = 1 + i from by omega]
      exact h1
theorem bits8_zero_of {x : B} (h : bits8 x = 0#32) : x = 0#32 := by
  unfold bits8 bits4 at h
  exact bit_zero_of (bit_zero_of (bit_zero_of (bit_zero_of (bit_zero_of (bit_zero_of (bit_zero_of (bit_zero_of h)))))))
theorem xor_zero_eq {a b : B} (h : a ^^^ b = 0#32) : a = b := by
  have : a ^^^ b ^^^ b = 0#32 ^^^ b := by rw [h]
  rw [BitVec.xor_assoc] at this
  simpa using this
theorem xor_same (a : B) : a ^^^ a = 0#32 := by simp
theorem bits8_inj {a b : B} (h : bits8 a = bits8 b) : a = b := by
  apply xor_zero_eq
  apply bits8_zero_of
  rw [bits8_xor, h, xor_same]
theorem byte_inj {x y : Int} (hx : IsB x) (hy : IsB y) (h : BitVec.ofInt 32 x = BitVec.ofInt 32 y) : x = y := by
  obtain ⟨a0, a1⟩ := hx
  obtain ⟨b0, b1⟩ := hy
  have := congrArg V h
  rwa [V_ofInt a0 (by omega), V_ofInt b0 (by omega)] at this
theorem reg_inj (l : List Int) : ∀ (r s : B), reg r l = reg s l → r = s := by
  induction l with
  | nil => intro r s h; exact h
  | cons c l ih =>
    intro r s h
    have := bits8_inj (ih _ _ h)
    have h2 : r ^^^ BitVec.ofInt 32 c ^^^ BitVec.ofInt 32 c = s ^^^ BitVec.ofInt 32 c ^^^ BitVec.ofInt 32 c := by rw [this]
    rw [BitVec.xor_assoc, BitVec.xor_assoc] at h2
    simpa using h2
def x2 (a b : Int) : Int := Go.bits .xor .u8 a b
theorem x2_is (a b : Int) (ha : IsB a) (hb : IsB b) : IsB (x2 a b) ∧ BitVec.ofInt 32 (x2 a b) = BitVec.ofInt 32 a ^^^ BitVec.ofInt 32 b := by
  obtain ⟨a0, a1⟩ := ha
  obtain ⟨b0, b1⟩ := hb
  obtain ⟨n, rfl⟩ := Int.eq_ofNat_of_zero_le a0
  obtain ⟨m, rfl⟩ := Int.eq_ofNat_of_zero_le b0
  have hx : n ^^^ m < 256 := Nat.xor_lt_two_pow (n := 8) (by omega) (by omega)
  have e : Go.bits .xor .u8 (n : Int) (m : Int) = ((n ^^^ m : Nat) : Int) := by
    show IntKind.u8.wrap (((BitVec.ofInt 8 (n : Int) ^^^ BitVec.ofInt 8 (m : Int)).toNat : Nat) : Int) = _
    rw [Go.IntKind.wrap_u8, BitVec.toNat_xor, BitVec.toNat_ofInt, BitVec.toNat_ofInt]
    rw [show ((n : Int) % ((2 ^ 8 : Nat) : Int)).toNat = n from by omega, show ((m : Int) % ((2 ^ 8 : Nat) : Int)).toNat = m from by omega]
    omega
  unfold x2
  rw [e]
  refine ⟨⟨by omega, by omega⟩, ?_⟩
  apply BitVec.eq_of_toNat_eq
  rw [BitVec.toNat_xor, BitVec.toNat_ofInt, BitVec.toNat_ofInt, BitVec.toNat_ofInt]
  rw [show ((n : Int) % ((2 ^ 32 : Nat) : Int)).toNat = n from by omega, show ((m : Int) % ((2 ^ 32 : Nat) : Int)).toNat = m from by omega]
  omega
theorem x2_same (a b : Int) (ha : IsB a) (hb : IsB b) : x2 a b = a ↔ b = 0 := by
  obtain ⟨h1, h2⟩ := x2_is a b ha hb
  constructor
  · intro h
    rw [h] at h2
    have h3 : BitVec.ofInt 32 b = BitVec.ofInt 32 a ^^^ (BitVec.ofInt 32 a ^^^ BitVec.ofInt 32 b) := by rw [← BitVec.xor_assoc]; simp
    rw [← h2, xor_same] at h3
    exact byte_inj hb ⟨by decide, by decide⟩ h3
  · intro h
    subst h
    refine byte_inj h1 ha ?_
    rw [h2]
    simp
/-- the text with n bytes from a place on turned -/
def turnedT (l bs : List Int) (p n : Nat) : List Int := l.take p ++ ((List.range n).map fun j => x2 (l.getD (p + j) 0) (bs.getD j 0)) ++ l.drop (p + n)
theorem reg_turn (r : B) (a b : List Int) (x y : Int) (hx : IsB x) (hy : IsB y) (h : reg r (a ++ x :: b) = reg r (a ++ y :: b)) : x = y := by
  rw [reg_append, reg_append, reg_cons, reg_cons] at h
  have h2 := bits8_inj (reg_inj b _ _ h)
  have h3 : BitVec.ofInt 32 x = BitVec.ofInt 32 y := by
    have h4 : reg r a ^^^ (reg r a ^^^ BitVec.ofInt 32 x) = reg r a ^^^ (reg r a ^^^ BitVec.ofInt 32 y) := by rw [h2]
    rw [← BitVec.xor_assoc, ← BitVec.xor_assoc, xor_same, BitVec.zero_xor, BitVec.zero_xor] at h4
    exact h4
  exact byte_inj hx hy h3
theorem crc_turn (a b : List Int) (x y : Int) (hx : IsB x) (hy : IsB y) (h : crc (a ++ x :: b) = crc (a ++ y :: b)) : x = y := by
  unfold crc at h
  have h1 := V_inj h
  have h2 : reg (BitVec.allOnes 32) (a ++ x :: b) = reg (BitVec.allOnes 32) (a ++ y :: b) := by
    have := congrArg (fun z => ~~~ z) h1
    simpa using this
  exact reg_turn _ a b x y hx hy h2
theorem openL_take {p : List Int} (ok : Ok p) {n : Nat} (h : n < (sealL p).length) : openL ((sealL p).take n) = none := by
  cases ho : openL ((sealL p).take n) with
  | none => rfl
  | some q =>
    exfalso
    obtain ⟨okq, e, _⟩ := openL_some ho
    have hl := congrArg List.length e
    rw [List.length_take, sealL_length, sealL_length] at hl
    rw [sealL_length] at h
    have okp := ok
    unfold Ok at okp okq
    have h1 : val4 ((sealL p).take n) = q.length := by
      have := val4_sealL okq []
      rw [List.append_nil, ← e] at this
      exact this
    have h2 : val4 ((sealL p).take n) = p.length := by
      have hv := val4_sealL ok []
      rw [List.append_nil] at hv
      rw [← hv]
      unfold val4
      have g : ∀ i : Nat, i < 4 → rd ((sealL p).take n) i = rd (sealL p) i := by
        intro i hi
        unfold rd
        rw [Int.toNat_natCast, List.getD_eq_getElem?_getD, List.getD_eq_getElem?_getD, List.getElem?_take_of_lt (by omega)]
      have g0 := g 0 (by omega)
      have g1 := g 1 (by omega)
      have g2 := g 2 (by omega)
      have g3 := g 3 (by omega)
      rw [show ((0 : Nat) : Int) = 0 from rfl] at g0
      rw [show ((1 : Nat) : Int) = 1 from rfl] at g1
      rw [show ((2 : Nat) : Int) = 2 from rfl] at g2
      rw [show ((3 : Nat) : Int) = 3 from rfl] at g3
      rw [g0, g1, g2, g3]
    omega
theorem openL_more {p m : List Int} (ok : Ok p) (h : m ≠ []) : openL (sealL p ++ m) = none := by
  cases ho : openL (sealL p ++ m) with
  | none => rfl
  | some q =>
    exfalso
    obtain ⟨okq, e, _⟩ := openL_some ho
    have hl := congrArg List.length e
    rw [List.length_append, sealL_length, sealL_length] at hl
    have h1 : val4 (sealL p ++ m) = q.length := by
      have := val4_sealL okq []
      rw [List.append_nil, ← e] at this
      exact this
    rw [val4_sealL ok m] at h1
    exact h (List.eq_nil_of_length_eq_zero (by omega))
theorem openL_turn {p : List Int} (ok : Ok p) (hb : ∀ x ∈ p, IsB x) {n : Nat} (hn : n < (sealL p).length) {v : Int} (hv : IsB v) (hne : v ≠ rd (sealL p) n) : openL ((sealL p).set n v) = none := by
  cases ho : openL ((sealL p).set n v) with
  | none => rfl
  | some q =>
    exfalso
    obtain ⟨okq, e, eq⟩ := openL_some ho
    have hl := congrArg List.length e
    rw [List.length_set, sealL_length, sealL_length] at hl
    have hget : rd (sealL q) n = v := by
      rw [← e]
      unfold rd
      rw [Int.toNat_natCast, List.getD_eq_getElem?_getD, List.getElem?_set_self hn]
      rfl
    have hn4 : num4 (q.length : Int) = num4 (p.length : Int) := by congr 1; omega
    have split3 : ∀ z : List Int, sealL z = num4 (z.length : Int) ++ (num4 (crc (num4 (z.length : Int) ++ z)) ++ z) := fun z => by unfold sealL; rw [List.append_assoc]
    by_cases h4 : n < 4
    · apply hne
      rw [← hget, split3 q, split3 p, hn4]
      unfold rd
      rw [Int.toNat_natCast, List.getD_eq_getElem?_getD, List.getD_eq_getElem?_getD, List.getElem?_append_left (by rw [num4_length]; omega), List.getElem?_append_left (by rw [num4_length]; omega)]
    by_cases h8 : n < 8
    · have hq : q = p := by
        rw [eq, List.drop_set_of_lt (by omega), sealL_drop]
      apply hne
      rw [← hget, hq]
    · have hq : q = p.set (n - 8) v := by
        rw [eq, List.drop_set, if_neg (by omega), sealL_drop]
      have hnp : n - 8 < p.length := by rw [sealL_length] at hn; omega
      have hc : num4 (crc (num4 (q.length : Int) ++ q)) = num4 (crc (num4 (p.length : Int) ++ p)) := by
        have h1 := congrArg (fun z => (z.drop 4).take 4) e
        have h2 : (((sealL p).set n v).drop 4).take 4 = ((sealL p).drop 4).take 4 := by
          rw [List.drop_set, if_neg (by omega), List.take_set_of_le (by omega)]
        rw [h2] at h1
        have h3 : ∀ z : List Int, ((sealL z).drop 4).take 4 = num4 (crc (num4 (z.length : Int) ++ z)) := fun z => by unfold sealL num4; rfl
        rw [h3, h3] at h1
        exact h1.symm
      have hc2 : crc (num4 (q.length : Int) ++ q) = crc (num4 (p.length : Int) ++ p) := by
        have h1 := congrArg val4 hc
        have r1 := crc_range (num4 (q.length : Int) ++ q)
        have r2 := crc_range (num4 (p.length : Int) ++ p)
        have e1 := val4_num4 r1.1 r1.2 []
        have e2 := val4_num4 r2.1 r2.2 []
        rw [List.append_nil] at e1 e2
        rw [← e1, ← e2, h1]
      have hp : p = p.take (n - 8) ++ p[n - 8] :: p.drop (n - 8 + 1) := by
        rw [← List.drop_eq_getElem_cons hnp, List.take_append_drop]
      have hq2 : q = p.take (n - 8) ++ v :: p.drop (n - 8 + 1) := by
        rw [hq, List.set_eq_take_append_cons_drop, if_pos hnp]
      rw [hn4] at hc2
      rw [hq2] at hc2
      have hc3 : crc ((num4 (p.length : Int) ++ p.take (n - 8)) ++ v :: p.drop (n - 8 + 1)) = crc ((num4 (p.length : Int) ++ p.take (n - 8)) ++ p[n - 8] :: p.drop (n - 8 + 1)) := by
        rw [List.append_assoc, List.append_assoc, ← hp]
        exact hc2
      have hvp := crc_turn _ _ _ _ hv (hb _ (List.getElem_mem hnp)) hc3
      apply hne
      rw [hvp]
      unfold rd
      rw [Int.toNat_natCast, List.getD_eq_getElem?_getD]
      have h5 : (sealL p)[n]? = p[n - 8]? := by
        have := List.getElem?_drop (xs := sealL p) (i := 8) (j := n - 8)
        rw [sealL_drop, show 8 + (n - 8) = n from by omega] at this
        exact this.symm
      rw [h5, List.getElem?_eq_getElem hnp]
      rfl
end Go.Proofs.Ytinpofepmbbehaa.PFrame
