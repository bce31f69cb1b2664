/- A text of which up to four bytes side by side are others has another sum. No conditions. -/
import Derived.Test.YtiphaodokhdkgaaRows
import Derived.Test.YtiphaodokhdkgaaOpen
import Derived.Test.YtiphaodokhdkgaaTells
import Derived.Test.YtiphaodokhdkgaaSumA
import Derived.WalkKit
import Derived.ProofKit
import Derived.OpenShut
import Derived.ShutString
import Derived.ChangeOld
import Derived.Below
import Derived.SizedLaws
namespace Go.Proofs.Ytiphaodokhdkgaa.PSum
open Go.RowKit Go.Proofs.YtiphaodokhdkgaaW.PrintWords Go.Proofs.YtiphaodokhdkgaaW.PrintLast Go.Proofs.YtiphaodokhdkgaaW.PrintMore
set_option linter.unusedVariables false
set_option linter.unusedSimpArgs false

/-! ### the register tells four bytes side by side -/
theorem bit_zero_of {x : B} (h : bit x = 0#32) : x = 0#32 := by
  unfold bit at h
  cases h0 : x.getLsbD 0 with
  | true =>
    rw [h0, if_pos rfl] at h
    have h1 : ((x >>> 1) ^^^ 0xEDB88320#32).getLsbD 31 = false := by rw [h]; simp
    rw [BitVec.getLsbD_xor, BitVec.getLsbD_ushiftRight] at h1
    have h2 : x.getLsbD (1 + 31) = false := BitVec.getLsbD_of_ge _ _ (by decide)
    rw [h2] at h1
    exact absurd h1 (by decide)
  | false =>
    rw [h0, if_neg (by decide)] at h
    apply BitVec.eq_of_getLsbD_eq
    intro i hi
    rw [BitVec.getLsbD_zero]
    cases i with
    | zero => exact h0
    | succ i =>
      have h1 : (x >>> 1).getLsbD i = false := by rw [h]; simp
      rw [BitVec.getLsbD_ushiftRight] at h1
      rw [show i + 1 = 1 + i from by omega]
      exact h1
theorem bits8_zero_of {x : B} (h : bits8 x = 0#32) : x = 0#32 := by
  unfold bits8 bits4 at h
  exact bit_zero_of (bit_zero_of (bit_zero_of (bit_zero_of (bit_zero_of (bit_zero_of (bit_zero_of (bit_zero_of h)))))))
theorem xor_zero_eq {a b : B} (h : a ^^^ b = 0#32) : a = b := by
  have : a ^^^ b ^^^ b = 0#32 ^^^ b := by rw [h]
  rw [BitVec.xor_assoc] at this
  simpa using this
theorem xor_same (a : B) : a ^^^ a = 0#32 := by simp
theorem bits8_inj {a b : B} (h : bits8 a = bits8 b) : a = b := by
  apply xor_zero_eq
  apply bits8_zero_of
  rw [bits8_xor, h, xor_same]
theorem bit_shift {a : B} (h : a.getLsbD 31 = false) : bit (a <<< 1) = a := by
  unfold bit
  have h0 : (a <<< 1).getLsbD 0 = false := by simp
  rw [h0, if_neg (by decide)]
  apply BitVec.eq_of_getLsbD_eq
  intro i hi
  rw [BitVec.getLsbD_ushiftRight, BitVec.getLsbD_shiftLeft]
  by_cases h31 : i = 31
  · subst h31
    rw [h]
    simp
  · have : decide (1 + i < 32) = true := decide_eq_true (by omega)
    rw [this]
    simp
theorem bits8_shift {a : B} (h : ∀ i, 24 ≤ i → a.getLsbD i = false) : bits8 (a <<< 8) = a := by
  have s : ∀ n, n < 8 → (a <<< n).getLsbD 31 = false := by
    intro n hn
    rw [BitVec.getLsbD_shiftLeft]
    by_cases h1 : 31 < n
    · omega
    · rw [h (31 - n) (by omega)]
      simp
  unfold bits8 bits4
  rw [show a <<< 8 = (a <<< 7) <<< 1 from (BitVec.shiftLeft_add a 7 1), bit_shift (s 7 (by omega))]
  rw [show a <<< 7 = (a <<< 6) <<< 1 from (BitVec.shiftLeft_add a 6 1), bit_shift (s 6 (by omega))]
  rw [show a <<< 6 = (a <<< 5) <<< 1 from (BitVec.shiftLeft_add a 5 1), bit_shift (s 5 (by omega))]
  rw [show a <<< 5 = (a <<< 4) <<< 1 from (BitVec.shiftLeft_add a 4 1), bit_shift (s 4 (by omega))]
  rw [show a <<< 4 = (a <<< 3) <<< 1 from (BitVec.shiftLeft_add a 3 1), bit_shift (s 3 (by omega))]
  rw [show a <<< 3 = (a <<< 2) <<< 1 from (BitVec.shiftLeft_add a 2 1), bit_shift (s 2 (by omega))]
  rw [show a <<< 2 = (a <<< 1) <<< 1 from (BitVec.shiftLeft_add a 1 1), bit_shift (s 1 (by omega))]
  have := bit_shift (a := a) (h 31 (by omega))
  exact this
/-- a byte, as bits -/
def Small (n : Nat) (a : B) : Prop := ∀ i, n ≤ i → a.getLsbD i = false
theorem small_xor {n : Nat} {a b : B} (ha : Small n a) (hb : Small n b) : Small n (a ^^^ b) := fun i hi => by rw [BitVec.getLsbD_xor, ha i hi, hb i hi]; rfl
theorem small_mono {n m : Nat} {a : B} (h : n ≤ m) (ha : Small n a) : Small m a := fun i hi => ha i (by omega)
theorem small_shift {n : Nat} {a : B} (ha : Small n a) : Small (n + 8) (a <<< 8) := fun i hi => by
  rw [BitVec.getLsbD_shiftLeft, ha (i - 8) (by omega)]
  simp
theorem small_byte {x : Int} (h : IsB x) : Small 8 (BitVec.ofInt 32 x) := by
  obtain ⟨h0, h1⟩ := h
  obtain ⟨n, rfl⟩ := Int.eq_ofNat_of_zero_le h0
  intro i hi
  rw [BitVec.ofInt_natCast, BitVec.getLsbD_ofNat]
  have : n.testBit i = false := Nat.testBit_lt_two_pow (Nat.lt_of_lt_of_le (show n < 2 ^ 8 by omega) (Nat.pow_le_pow_right (by decide) hi))
  rw [this]
  simp
theorem byte_inj {x y : Int} (hx : IsB x) (hy : IsB y) (h : BitVec.ofInt 32 x = BitVec.ofInt 32 y) : x = y := by
  obtain ⟨a0, a1⟩ := hx
  obtain ⟨b0, b1⟩ := hy
  have := congrArg V h
  rwa [V_ofInt a0 (by omega), V_ofInt b0 (by omega)] at this
theorem low_split {a b : B} (ha : Small 8 a) (h : a = b <<< 8) : a = 0#32 ∧ b <<< 8 = 0#32 := by
  have h0 : a = 0#32 := by
    apply BitVec.eq_of_getLsbD_eq
    intro i hi
    rw [BitVec.getLsbD_zero]
    by_cases h8 : i < 8
    · rw [h, BitVec.getLsbD_shiftLeft, decide_eq_true h8]
      simp
    · exact ha i (by omega)
  exact ⟨h0, by rw [← h]; exact h0⟩
theorem shift_zero {b : B} (hb : Small 24 b) (h : b <<< 8 = 0#32) : b = 0#32 := by
  have := bits8_shift hb
  rw [h] at this
  exact this.symm.trans bits8_zero
theorem four_inj (r : B) (a0 a1 a2 a3 c0 c1 c2 c3 : Int) (ha0 : IsB a0) (ha1 : IsB a1) (ha2 : IsB a2) (ha3 : IsB a3) (hc0 : IsB c0) (hc1 : IsB c1) (hc2 : IsB c2) (hc3 : IsB c3)
    (h : reg r [a0, a1, a2, a3] = reg r [c0, c1, c2, c3]) : a0 = c0 ∧ a1 = c1 ∧ a2 = c2 ∧ a3 = c3 := by
  have e0 := small_xor (small_byte ha0) (small_byte hc0)
  have e1 := small_xor (small_byte ha1) (small_byte hc1)
  have e2 := small_xor (small_byte ha2) (small_byte hc2)
  have e3 := small_xor (small_byte ha3) (small_byte hc3)
  have z0 : BitVec.ofInt 32 a0 ^^^ BitVec.ofInt 32 c0 = 0#32 → a0 = c0 := fun h => byte_inj ha0 hc0 (xor_zero_eq h)
  have z1 : BitVec.ofInt 32 a1 ^^^ BitVec.ofInt 32 c1 = 0#32 → a1 = c1 := fun h => byte_inj ha1 hc1 (xor_zero_eq h)
  have z2 : BitVec.ofInt 32 a2 ^^^ BitVec.ofInt 32 c2 = 0#32 → a2 = c2 := fun h => byte_inj ha2 hc2 (xor_zero_eq h)
  have z3 : BitVec.ofInt 32 a3 ^^^ BitVec.ofInt 32 c3 = 0#32 → a3 = c3 := fun h => byte_inj ha3 hc3 (xor_zero_eq h)
  simp only [reg, List.foldl_cons, List.foldl_nil, byt] at h
  generalize BitVec.ofInt 32 a0 = A0 at *
  generalize BitVec.ofInt 32 a1 = A1 at *
  generalize BitVec.ofInt 32 a2 = A2 at *
  generalize BitVec.ofInt 32 a3 = A3 at *
  generalize BitVec.ofInt 32 c0 = C0 at *
  generalize BitVec.ofInt 32 c1 = C1 at *
  generalize BitVec.ofInt 32 c2 = C2 at *
  generalize BitVec.ofInt 32 c3 = C3 at *
  have key : ∀ (p q u v e : B), Small 24 e → bits8 p ^^^ bits8 q = e → p ^^^ q = e <<< 8 := by
    intro p q u v e he h
    apply bits8_inj
    rw [bits8_xor, h, bits8_shift he]
  have rot : ∀ (x y p q : B), (x ^^^ p) = (y ^^^ q) → x ^^^ y = p ^^^ q := by
    intro x y p q h
    have : x ^^^ y = (x ^^^ p) ^^^ (y ^^^ q) ^^^ (p ^^^ q) := by
      rw [show (x ^^^ p) ^^^ (y ^^^ q) ^^^ (p ^^^ q) = x ^^^ y ^^^ (p ^^^ p) ^^^ (q ^^^ q) from by ac_rfl]
      simp
    rw [this, h, xor_same]
    simp
  have rot2 : ∀ (x y p q e : B), (x ^^^ p) ^^^ (y ^^^ q) = e → x ^^^ y = e ^^^ (p ^^^ q) := by
    intro x y p q e h
    rw [← h, show (x ^^^ p) ^^^ (y ^^^ q) ^^^ (p ^^^ q) = x ^^^ y ^^^ (p ^^^ p) ^^^ (q ^^^ q) from by ac_rfl]
    simp
  have h3 := rot _ _ _ _ (bits8_inj h)
  have h2 := rot2 _ _ _ _ _ (key _ _ 0 0 _ (small_mono (by omega) e3) h3)
  have s2 : Small 16 ((A3 ^^^ C3) <<< 8 ^^^ (A2 ^^^ C2)) := small_xor (small_shift e3) (small_mono (by omega) e2)
  have h1 := rot2 _ _ _ _ _ (key _ _ 0 0 _ (small_mono (by omega) s2) h2)
  have s1 : Small 24 (((A3 ^^^ C3) <<< 8 ^^^ (A2 ^^^ C2)) <<< 8 ^^^ (A1 ^^^ C1)) := small_xor (small_shift s2) (small_mono (by omega) e1)
  have h0 := key _ _ 0 0 _ s1 h1
  have h0' : A0 ^^^ C0 = (((A3 ^^^ C3) <<< 8 ^^^ (A2 ^^^ C2)) <<< 8 ^^^ (A1 ^^^ C1)) <<< 8 := by
    rw [← h0, show (r ^^^ A0) ^^^ (r ^^^ C0) = A0 ^^^ C0 ^^^ (r ^^^ r) from by ac_rfl]
    simp
  obtain ⟨k0, k1⟩ := low_split e0 h0'
  have k1 := shift_zero s1 k1
  have k1 := xor_zero_eq k1
  obtain ⟨k2, k3⟩ := low_split e1 k1.symm
  have k3 := xor_zero_eq (shift_zero (small_mono (by omega) s2) k3)
  obtain ⟨k4, k5⟩ := low_split e2 k3.symm
  have k5 := shift_zero (small_mono (by omega) e3) k5
  exact ⟨z0 k0, z1 k2, z2 k4, z3 k5⟩
theorem reg_inj (l : List Int) : ∀ (r s : B), reg r l = reg s l → r = s := by
  induction l with
  | nil => intro r s h; exact h
  | cons c l ih =>
    intro r s h
    have := bits8_inj (ih _ _ h)
    have h2 : r ^^^ BitVec.ofInt 32 c ^^^ BitVec.ofInt 32 c = s ^^^ BitVec.ofInt 32 c ^^^ BitVec.ofInt 32 c := by rw [this]
    rw [BitVec.xor_assoc, BitVec.xor_assoc] at h2
    simpa using h2
theorem burst (r : B) (m m' : List Int) (hl : m.length = m'.length) (h4 : m.length ≤ 4) (hm : ∀ x ∈ m, IsB x) (hm' : ∀ x ∈ m', IsB x) (h : reg r m = reg r m') : m = m' := by
  have z : IsB 0 := ⟨by decide, by decide⟩
  match m, m', hl, h4 with
  | [], [], _, _ => rfl
  | [a], [b], _, _ =>
    have : reg r ([a] ++ [0, 0, 0]) = reg r ([b] ++ [0, 0, 0]) := by rw [reg_append, reg_append, h]
    obtain ⟨h0, _⟩ := four_inj r a 0 0 0 b 0 0 0 (hm a (by simp)) z z z (hm' b (by simp)) z z z this
    rw [h0]
  | [a, c], [b, d], _, _ =>
    have : reg r ([a, c] ++ [0, 0]) = reg r ([b, d] ++ [0, 0]) := by rw [reg_append, reg_append, h]
    obtain ⟨h0, h1, _⟩ := four_inj r a c 0 0 b d 0 0 (hm a (by simp)) (hm c (by simp)) z z (hm' b (by simp)) (hm' d (by simp)) z z this
    rw [h0, h1]
  | [a, c, e], [b, d, f], _, _ =>
    have : reg r ([a, c, e] ++ [0]) = reg r ([b, d, f] ++ [0]) := by rw [reg_append, reg_append, h]
    obtain ⟨h0, h1, h2, _⟩ := four_inj r a c e 0 b d f 0 (hm a (by simp)) (hm c (by simp)) (hm e (by simp)) z (hm' b (by simp)) (hm' d (by simp)) (hm' f (by simp)) z this
    rw [h0, h1, h2]
  | [a, c, e, g], [b, d, f, i], _, _ =>
    obtain ⟨h0, h1, h2, h3⟩ := four_inj r a c e g b d f i (hm a (by simp)) (hm c (by simp)) (hm e (by simp)) (hm g (by simp)) (hm' b (by simp)) (hm' d (by simp)) (hm' f (by simp)) (hm' i (by simp)) h
    rw [h0, h1, h2, h3]

/-! ### the law -/
def x2 (a b : Int) : Int := Go.bits .xor .u8 a b
theorem x2_is (a b : Int) (ha : IsB a) (hb : IsB b) : IsB (x2 a b) ∧ BitVec.ofInt 32 (x2 a b) = BitVec.ofInt 32 a ^^^ BitVec.ofInt 32 b := by
  obtain ⟨a0, a1⟩ := ha
  obtain ⟨b0, b1⟩ := hb
  obtain ⟨n, rfl⟩ := Int.eq_ofNat_of_zero_le a0
  obtain ⟨m, rfl⟩ := Int.eq_ofNat_of_zero_le b0
  have hx : n ^^^ m < 256 := Nat.xor_lt_two_pow (n := 8) (by omega) (by omega)
  have e : Go.bits .xor .u8 (n : Int) (m : Int) = ((n ^^^ m : Nat) : Int) := by
    show IntKind.u8.wrap (((BitVec.ofInt 8 (n : Int) ^^^ BitVec.ofInt 8 (m : Int)).toNat : Nat) : Int) = _
    rw [Go.IntKind.wrap_u8, BitVec.toNat_xor, BitVec.toNat_ofInt, BitVec.toNat_ofInt]
    rw [show ((n : Int) % ((2 ^ 8 : Nat) : Int)).toNat = n from by omega, show ((m : Int) % ((2 ^ 8 : Nat) : Int)).toNat = m from by omega]
    omega
  unfold x2
  rw [e]
  refine ⟨⟨by omega, by omega⟩, ?_⟩
  apply BitVec.eq_of_toNat_eq
  rw [BitVec.toNat_xor, BitVec.toNat_ofInt, BitVec.toNat_ofInt, BitVec.toNat_ofInt]
  rw [show ((n : Int) % ((2 ^ 32 : Nat) : Int)).toNat = n from by omega, show ((m : Int) % ((2 ^ 32 : Nat) : Int)).toNat = m from by omega]
  omega
theorem x2_same (a b : Int) (ha : IsB a) (hb : IsB b) : x2 a b = a ↔ b = 0 := by
  obtain ⟨h1, h2⟩ := x2_is a b ha hb
  constructor
  · intro h
    rw [h] at h2
    have h3 : BitVec.ofInt 32 b = BitVec.ofInt 32 a ^^^ (BitVec.ofInt 32 a ^^^ BitVec.ofInt 32 b) := by rw [← BitVec.xor_assoc]; simp
    rw [← h2, xor_same] at h3
    exact byte_inj hb ⟨by decide, by decide⟩ h3
  · intro h
    subst h
    refine byte_inj h1 ha ?_
    rw [h2]
    simp
/-- the text with n bytes from a place on turned -/
def turnedT (l bs : List Int) (p n : Nat) : List Int := l.take p ++ ((List.range n).map fun j => x2 (l.getD (p + j) 0) (bs.getD j 0)) ++ l.drop (p + n)
theorem getD_isB {l : List Int} (h : ∀ x ∈ l, IsB x) (j : Nat) : IsB (l.getD j 0) := by
  rw [List.getD_eq_getElem?_getD]
  by_cases hj : j < l.length
  · rw [List.getElem?_eq_getElem hj]; exact h _ (List.getElem_mem hj)
  · rw [List.getElem?_eq_none (by omega)]; exact ⟨by decide, by decide⟩
theorem turnedT_length (l bs : List Int) (p n : Nat) (h : p + n ≤ l.length) : (turnedT l bs p n).length = l.length := by
  unfold turnedT
  simp
  omega
theorem turnedT_isB {l bs : List Int} (hl : ∀ x ∈ l, IsB x) (hb : ∀ x ∈ bs, IsB x) (p n : Nat) : ∀ x ∈ turnedT l bs p n, IsB x := by
  intro x hx
  unfold turnedT at hx
  rcases List.mem_append.1 hx with hx | hx
  · rcases List.mem_append.1 hx with hx | hx
    · exact hl x (List.mem_of_mem_take hx)
    · obtain ⟨j, _, rfl⟩ := List.mem_map.1 hx
      exact (x2_is _ _ (getD_isB hl _) (getD_isB hb _)).1
  · exact hl x (List.mem_of_mem_drop hx)
theorem turnedT_succ (l bs : List Int) (p n : Nat) (h : p + n < l.length) : (turnedT l bs p n).set (p + n) (x2 (l.getD (p + n) 0) (bs.getD n 0)) = turnedT l bs p (n + 1) := by
  unfold turnedT
  have hp : (l.take p).length = p := by rw [List.length_take]; omega
  have e1 : l.drop (p + n) = l.getD (p + n) 0 :: l.drop (p + n + 1) := by
    rw [List.drop_eq_getElem_cons h, List.getD_eq_getElem?_getD, List.getElem?_eq_getElem h]
    rfl
  rw [e1, List.set_append_right _ _ (by simp [hp]), List.range_succ, List.map_append]
  simp only [List.length_append, hp, List.length_map, List.length_range]
  rw [Nat.sub_self]
  simp [Nat.add_assoc]
theorem turnedT_get (l bs : List Int) (p n : Nat) (h : p + n < l.length) : (turnedT l bs p n).getD (p + n) 0 = l.getD (p + n) 0 := by
  unfold turnedT
  have hp : (l.take p).length = p := by rw [List.length_take]; omega
  rw [List.getD_eq_getElem?_getD, List.getElem?_append_right (by simp [hp])]
  simp only [List.length_append, hp, List.length_map, List.length_range]
  rw [Nat.sub_self, List.getElem?_drop, Nat.add_zero, ← List.getD_eq_getElem?_getD]
theorem whole_split (l : List Int) (p n : Nat) (h : p + n ≤ l.length) : l = l.take p ++ ((List.range n).map fun j => l.getD (p + j) 0) ++ l.drop (p + n) := by
  have e : ((List.range n).map fun j => l.getD (p + j) 0) = (l.drop p).take n := by
    apply List.ext_getElem (by simp; omega)
    intro j h1 h2
    simp only [List.length_map, List.length_range] at h1
    rw [List.getElem_map, List.getElem_range, List.getElem_take, List.getElem_drop, List.getD_eq_getElem?_getD, List.getElem?_eq_getElem (by omega)]
    rfl
  rw [e, List.append_assoc, show l.drop (p + n) = (l.drop p).drop n from by rw [List.drop_drop], List.take_append_drop, List.take_append_drop]
/-- has one of the first n bytes something to turn? -/
def anyT (bs : List Int) : Nat → Bool
  | 0 => false
  | n + 1 => anyT bs n || bs.getD n 0 != 0
theorem anyT_false (bs : List Int) : ∀ n, anyT bs n = false → ∀ j, j < n → bs.getD j 0 = 0
  | n + 1, h, j, hj => by
    simp only [anyT, Bool.or_eq_false_iff, bne_eq_false_iff_eq] at h
    by_cases e : j = n
    · rw [e]; exact h.2
    · exact anyT_false bs n h.1 j (by omega)
theorem anyT_true (bs : List Int) : ∀ n, anyT bs n = true → ∃ j, j < n ∧ bs.getD j 0 ≠ 0
  | n + 1, h => by
    simp only [anyT, Bool.or_eq_true, bne_iff_ne] at h
    rcases h with h | h
    · obtain ⟨j, h1, h2⟩ := anyT_true bs n h
      exact ⟨j, by omega, h2⟩
    · exact ⟨n, by omega, h⟩
theorem turned_tells (l bs : List Int) (hl : ∀ x ∈ l, IsB x) (hb : ∀ x ∈ bs, IsB x) (p n : Nat) (h : p + n ≤ l.length) (h4 : n ≤ 4) (r : B) :
    (V (~~~ reg r (turnedT l bs p n)) != V (~~~ reg r l)) = anyT bs n := by
  cases ha : anyT bs n with
  | false =>
    have hz := anyT_false bs n ha
    have : turnedT l bs p n = l := by
      conv => rhs; rw [whole_split l p n h]
      unfold turnedT
      congr 2
      apply List.map_congr_left
      intro j hj
      exact (x2_same _ _ (getD_isB hl _) (getD_isB hb _)).2 (hz j (List.mem_range.1 hj))
    rw [this]
    simp
  | true =>
    obtain ⟨j, hj, hne⟩ := anyT_true bs n ha
    rw [bne_iff_ne]
    intro he
    have he := V_inj he
    have he : reg r (turnedT l bs p n) = reg r l := by
      have := congrArg (fun x : B => ~~~ x) he
      simpa using this
    have e2 : reg r l = reg r (l.take p ++ ((List.range n).map fun j => l.getD (p + j) 0) ++ l.drop (p + n)) := congrArg (reg r) (whole_split l p n h)
    rw [e2] at he
    unfold turnedT at he
    rw [reg_append, reg_append, reg_append, reg_append] at he
    have he := reg_inj _ _ _ he
    have he := burst _ _ _ (by simp) (by simp; exact h4) (fun x hx => by
      obtain ⟨j, _, rfl⟩ := List.mem_map.1 hx
      exact (x2_is _ _ (getD_isB hl _) (getD_isB hb _)).1) (fun x hx => by
      obtain ⟨j, _, rfl⟩ := List.mem_map.1 hx
      exact getD_isB hl _) he
    have := List.map_inj_left.1 he j (List.mem_range.2 hj)
    exact hne ((x2_same _ _ (getD_isB hl _) (getD_isB hb _)).1 this)

theorem tells_l0 (l bs : List Int) (hl : ∀ x ∈ l, IsB x) (hb : ∀ x ∈ bs, IsB x) (hn : bs.length = 4) (hs : l.length ≤ 100000) (p : Nat) (hp : p < l.length) (d : Nat) : ∀ n : Nat, n + d = 4 → p + n ≤ l.length →
    Ev (fun k => meridianlaw01_SumTells.l0 k l (p : Int) bs (turnedT l bs p n) (anyT bs n) (n : Int)) true := by
  have fin : ∀ n : Nat, n ≤ 4 → p + n ≤ l.length → Ev (fun k => ((sum_Of.f k (turnedT l bs p n)).bind fun t116 => ((sum_Of.f k l).bind fun t117 => (some ((t116 != t117) == anyT bs n))))) true := by
    intro n h4 h
    refine Ev.bind (of_f _ (turnedT_isB hl hb p n) (by rw [turnedT_length l bs p n h]; omega)) (Ev.bind (of_f l hl (by omega)) ?_)
    rw [turned_tells l bs hl hb p n h h4]
    simp only [beq_self_eq_true]
    exact Ev.now _
  induction d with
  | zero =>
    intro n hn4 h
    refine Ev.step (fun k => ?_) (fin n (by omega) h)
    simp only [meridianlaw01_SumTells.l0]
    rw [if_neg (by omega)]
  | succ d ih =>
    intro n hn4 h
    have hw : wrap64 ((l.length : Int) - (p : Int)) = (l.length : Int) - p := w64 (by omega) (by omega)
    by_cases hlt : p + n < l.length
    · refine Ev.step (fun k => ?_) (ih (n + 1) (by omega) (by omega))
      have hlen := turnedT_length l bs p n h
      have hw2 : wrap64 ((p : Int) + (n : Int)) = ((p + n : Nat) : Int) := by rw [w64 (by omega) (by omega)]; omega
      simp only [meridianlaw01_SumTells.l0]
      rw [if_pos (by omega), hw, if_pos (by omega), hw2, if_pos (by omega), if_pos (by omega), if_pos (by omega), if_pos (by omega), w64 (x := (n : Int) + 1) (by omega) (by omega)]
      simp only [Option.bind_some, Int.toNat_natCast]
      have e1 : rd (turnedT l bs p n) ((p + n : Nat) : Int) = l.getD (p + n) 0 := by
        unfold rd
        rw [Int.toNat_natCast]
        exact turnedT_get l bs p n hlt
      have e2 : rd bs (n : Int) = bs.getD n 0 := by unfold rd; rw [Int.toNat_natCast]
      rw [e1, e2]
      have e3 : (turnedT l bs p n).set (p + n) (Go.bits .xor .u8 (l.getD (p + n) 0) (bs.getD n 0)) = turnedT l bs p (n + 1) := turnedT_succ l bs p n hlt
      rw [e3]
      show (if anyT bs n = true then _ else _) = meridianlaw01_SumTells.l0 k l (p : Int) bs (turnedT l bs p (n + 1)) (anyT bs n || bs.getD n 0 != 0) ((n + 1 : Nat) : Int)
      cases anyT bs n with
      | true => rw [if_pos rfl]; rfl
      | false => rw [if_neg (by decide)]; rfl
    · refine Ev.step (fun k => ?_) (fin n (by omega) h)
      simp only [meridianlaw01_SumTells.l0]
      rw [if_pos (by omega), hw, if_neg (by omega)]

theorem sumTells_pure (l : List Int) (a b0 b1 b2 b3 : Int) (hll : l.length ≤ 140737488351232) (hl : ∀ x ∈ l, Open.IsB x) (hb : Open.IsB b0 ∧ Open.IsB b1 ∧ Open.IsB b2 ∧ Open.IsB b3) : ∃ k, meridianlaw01_SumTells.f k l a [b0, b1, b2, b3] = some true := by
  have hl : ∀ x ∈ l, IsB x := hl
  have hb : ∀ x ∈ [b0, b1, b2, b3], IsB x := by
    intro x hx
    simp at hx
    rcases hx with rfl | rfl | rfl | rfl
    · exact hb.1
    · exact hb.2.1
    · exact hb.2.2.1
    · exact hb.2.2.2
  apply Ev.rounds
  unfold meridianlaw01_SumTells.f
  refine bind_awake ?_
  have yes : Ev (fun k => meridianlaw01_SumTells.j0 k l a [b0, b1, b2, b3] true) true := Ev.step (f := fun _ => some true) (fun k => by simp only [meridianlaw01_SumTells.j0]; rfl) (Ev.now _)
  by_cases h1 : a < 0
  · exact Ev.congr (fun k => if_pos h1) yes
  refine Ev.congr (fun k => if_neg h1) ?_
  by_cases h2 : a ≥ (l.length : Int)
  · exact Ev.congr (fun k => if_pos h2) yes
  refine Ev.congr (fun k => if_neg h2) ?_
  by_cases h3 : (l.length : Int) > 100000
  · rw [decide_eq_true h3]; exact yes
  rw [decide_eq_false h3]
  obtain ⟨p, rfl⟩ := Int.eq_ofNat_of_zero_le (Int.not_lt.1 h1)
  refine Ev.step (fun k => ?_) (tells_l0 l [b0, b1, b2, b3] hl hb rfl (by omega) p (by omega) 4 0 rfl (by omega))
  simp only [meridianlaw01_SumTells.j0]
  rw [if_neg (by decide)]
  simp only [Option.bind_some, List.length_nil, List.nil_append]
  rw [if_pos (by omega)]
  have : turnedT l [b0, b1, b2, b3] p 0 = l := by unfold turnedT; simp
  rw [this]
  rfl

end Go.Proofs.Ytiphaodokhdkgaa.PSum
namespace Go.Proofs.Ytiphaodokhdkgaa.sumTells
open Go.ChangeShapes Go.WideShapes Go.ChangeAt Go.RowKit
open Go.Proofs.Ytiphaodokhdkgaa.Open
set_option linter.unusedVariables false
set_option maxRecDepth 100000 in
theorem lifted (os : Os) (started : os.Started) (H : Type) (enc : TypeId × Value → H) :
    ReturnsInHanded {} Try.checked os 5 .any (Rows.sumTellsSpec.pre6 enc Try.prog Try.f5 Rows.sumTellsRow.domain false) (Rows.sumTellsSpec.post enc Try.prog Try.f5 false true false false) := by
  refine returnsInHanded_of_change_sized (C := Try.checked) own started (by kernel_rfl) Try.func5
    (ChangeSpec.witness6 (enc := enc) (C := Try.checked) false ⟨#[], #[.slice none 0 0, .int .i64 0, .agg #[.int .u8 0, .int .u8 0, .int .u8 0, .int .u8 0]], []⟩ 8 (by kernel_rfl) (by kernel_rfl) (by kernel_rfl) (by kernel_rfl)) ?_
  intro W base args ds gs before hval0 hW hcnd hsz0 _
  have hsz : (DataW.weightsEach Try.prog (Try.f5.params.toList ++ Rows.sumTellsSpec.plain.varTypes Try.prog) (ds ++ gs)).all (· ≤ reachBytes) = true := hsz0
  have hval : ∀ (j : Nat) t v, Try.f5.params[j]? = some t → args[j]? = some v → Value.okWide Try.prog W .any base t v := hval0
  have hW' := hW
  obtain ⟨p, q, hA0, hV, rfl, hfz, hnd⟩ := hW
  have hA : DataW.TrodAll enc Try.prog W 0 (fun _ => true) true Try.f5.params.toList args.toList ds p := hA0
  rw [Try.params5] at hA hval hsz
  obtain ⟨v0, vs0, d0, ds0, p0, q0, hargs, rfl, rfl, h0, r0⟩ := trodAll_cons hA
  obtain ⟨v1, vs1, d1, ds1, p1, q1, rfl, rfl, rfl, h1, r1⟩ := trodAll_cons r0
  obtain ⟨v2, vs2, d2, ds2, p2, q2, rfl, rfl, rfl, h2, r2⟩ := trodAll_cons r1
  obtain ⟨rfl, rfl, rfl⟩ := trodAll_nil r2
  obtain rfl : args = #[v0, v1, v2] := by cases args; simp_all
  obtain ⟨rfl, rfl⟩ := trodVars_none hV
  have k0 := h0
  have lt0 := places h0
  obtain ⟨A0, c0, l0, rfl, hr0, hc0, hl0, hb0⟩ := open_bytes (j := 0) Try.underlying22 Try.underlying5 (by kernel_rfl) (by kernel_rfl) hsz rfl rfl (hval 0 22 v0 rfl rfl) h0
  have k1 := h1
  have lt1 := places h1
  obtain ⟨a1, rfl, rfl, rfl, wa1⟩ := open_int Try.underlying3 (hval 1 3 v1 rfl rfl) h1
  have k2 := h2
  have lt2 := places h2
  obtain ⟨x2, y2, z2, u2, rfl, hb2⟩ := open_arr4 Try.underlying31 Try.underlying5 (by kernel_rfl) (by kernel_rfl) (hval 2 31 v2 rfl rfl) h2
  clear hA0 hval0 hsz0 hsz
  obtain ⟨k, hk⟩ := PSum.sumTells_pure l0 a1 x2 y2 z2 u2 hl0 hb0 hb2
  refine (PSum.meridianlaw01_SumTells.calls k _ _ l0 a1 x2 y2 z2 u2 true W hr0 hc0 hk).mono fun e W' ⟨he, bel⟩ => ?_
  subst he
  exact ⟨_, rfl, _, _, _, [], _, [], hW', trodAll_mk1 (shut_bool Try.underlying4 _), (trodAll_cons_mk (Below.trod laidOut (by kernel_rfl) (of_decide_eq_true (by kernel_rfl)) k0 bel lt0) (trodAll_cons_mk (Below.trod laidOut (by kernel_rfl) (of_decide_eq_true (by kernel_rfl)) k1 bel lt1) (trodAll_cons_mk (Below.trod laidOut (by kernel_rfl) (of_decide_eq_true (by kernel_rfl)) k2 bel lt2) trodAll_mk0))), rfl, bel.frame _, fun h => by cases h⟩
theorem over : Rows.sumTellsRow.holds Try.pinned (OpenSpec.ofChange Rows.sumTellsSpec) :=
  OpenClaim.holds_of_wide 5 Try.f5 rfl rfl rfl rfl rfl rfl rfl ⟨rfl, rfl, rfl, rfl, rfl⟩ rfl rfl rfl rfl rfl (by kernel_rfl) Try.func5 (by kernel_rfl)
    (of_decide_eq_true (by kernel_rfl)) (by unfold Func.isWrapper; first | (rw [if_pos (by decide +kernel)]; kernel_rfl) | (rw [if_neg (by decide +kernel)]; exact ⟨rfl, rfl⟩))
    (fun os started H enc _ => lifted os started H enc)
end Go.Proofs.Ytiphaodokhdkgaa.sumTells
namespace Go.Proofs.Ytiphaodokhdkgaa
theorem sumTells_holds : Rows.SumTellsSaid := sumTells.over
#print axioms sumTells_holds
end Go.Proofs.Ytiphaodokhdkgaa
