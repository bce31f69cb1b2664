/- The sums of three texts of one length, xored, are the sum of the three texts, xored. No conditions beyond what the row itself says. -/
import Derived.Test.YtiphaodokhdkgaaPSumx4
import Derived.Test.YtiphaodokhdkgaaSumA
namespace Go.Proofs.Ytiphaodokhdkgaa.Pure
open Go.RowKit Go.Proofs.Ytiphaodokhdkgaa.PSum Go.Proofs.YtiphaodokhdkgaaW.PrintWords Go.Proofs.YtiphaodokhdkgaaW.PrintLast
set_option linter.unusedVariables false

def x3 (a b c : Int) : Int := Go.bits .xor .u8 (Go.bits .xor .u8 a b) c
theorem xor_u8 (a b : Int) (ha : IsB a) (hb : IsB b) : IsB (Go.bits .xor .u8 a b) ∧ BitVec.ofInt 32 (Go.bits .xor .u8 a b) = BitVec.ofInt 32 a ^^^ BitVec.ofInt 32 b := by
  obtain ⟨a0, a1⟩ := ha
  obtain ⟨b0, b1⟩ := hb
  obtain ⟨n, rfl⟩ := Int.eq_ofNat_of_zero_le a0
  obtain ⟨m, rfl⟩ := Int.eq_ofNat_of_zero_le b0
  have hx : n ^^^ m < 256 := Nat.xor_lt_two_pow (n := 8) (by omega) (by omega)
  have e : Go.bits .xor .u8 (n : Int) (m : Int) = ((n ^^^ m : Nat) : Int) := by
    show IntKind.u8.wrap (((BitVec.ofInt 8 (n : Int) ^^^ BitVec.ofInt 8 (m : Int)).toNat : Nat) : Int) = _
    rw [Go.IntKind.wrap_u8, BitVec.toNat_xor, BitVec.toNat_ofInt, BitVec.toNat_ofInt]
    rw [show ((n : Int) % ((2 ^ 8 : Nat) : Int)).toNat = n from by omega, show ((m : Int) % ((2 ^ 8 : Nat) : Int)).toNat = m from by omega]
    omega
  rw [e]
  refine ⟨⟨by omega, by omega⟩, ?_⟩
  apply BitVec.eq_of_toNat_eq
  rw [BitVec.toNat_xor, BitVec.toNat_ofInt, BitVec.toNat_ofInt, BitVec.toNat_ofInt]
  rw [show ((n : Int) % ((2 ^ 32 : Nat) : Int)).toNat = n from by omega, show ((m : Int) % ((2 ^ 32 : Nat) : Int)).toNat = m from by omega]
  omega
theorem x3_is (a b c : Int) (ha : IsB a) (hb : IsB b) (hc : IsB c) : IsB (x3 a b c) ∧ BitVec.ofInt 32 (x3 a b c) = BitVec.ofInt 32 a ^^^ BitVec.ofInt 32 b ^^^ BitVec.ofInt 32 c := by
  obtain ⟨h1, h2⟩ := xor_u8 a b ha hb
  obtain ⟨h3, h4⟩ := xor_u8 _ c h1 hc
  exact ⟨h3, by unfold x3; rw [h4, h2]⟩
/-- the three texts, xored -/
def xs3 : List Int → List Int → List Int → List Int
  | a :: al, b :: bl, c :: cl => x3 a b c :: xs3 al bl cl
  | _, _, _ => []
theorem xs3_length : ∀ (a b c : List Int), a.length = b.length → b.length = c.length → (xs3 a b c).length = a.length
  | [], [], [], _, _ => rfl
  | a :: al, b :: bl, c :: cl, h1, h2 => by
    simp only [xs3, List.length_cons] at *
    rw [xs3_length al bl cl (by omega) (by omega)]
theorem xs3_isB : ∀ (a b c : List Int), (∀ x ∈ a, IsB x) → (∀ x ∈ b, IsB x) → (∀ x ∈ c, IsB x) → ∀ x ∈ xs3 a b c, IsB x
  | [], _, _, _, _, _, x, h => by simp [xs3] at h
  | _ :: _, [], _, _, _, _, x, h => by simp [xs3] at h
  | _ :: _, _ :: _, [], _, _, _, x, h => by simp [xs3] at h
  | a :: al, b :: bl, c :: cl, ha, hb, hc, x, h => by
    simp only [xs3, List.mem_cons] at h
    rcases h with rfl | h
    · exact (x3_is a b c (ha a List.mem_cons_self) (hb b List.mem_cons_self) (hc c List.mem_cons_self)).1
    · exact xs3_isB al bl cl (fun x hx => ha x (List.mem_cons_of_mem _ hx)) (fun x hx => hb x (List.mem_cons_of_mem _ hx)) (fun x hx => hc x (List.mem_cons_of_mem _ hx)) x h
theorem reg3 : ∀ (a b c : List Int) (r s t : B), a.length = b.length → b.length = c.length → (∀ x ∈ a, IsB x) → (∀ x ∈ b, IsB x) → (∀ x ∈ c, IsB x) →
    reg r a ^^^ reg s b ^^^ reg t c = reg (r ^^^ s ^^^ t) (xs3 a b c)
  | [], [], [], r, s, t, _, _, _, _, _ => rfl
  | a :: al, b :: bl, c :: cl, r, s, t, h1, h2, ha, hb, hc => by
    simp only [xs3, reg_cons]
    rw [reg3 al bl cl _ _ _ (by simpa using h1) (by simpa using h2) (fun x hx => ha x (List.mem_cons_of_mem _ hx)) (fun x hx => hb x (List.mem_cons_of_mem _ hx)) (fun x hx => hc x (List.mem_cons_of_mem _ hx))]
    congr 1
    unfold byt
    rw [← bits8_xor, ← bits8_xor, (x3_is a b c (ha a List.mem_cons_self) (hb b List.mem_cons_self) (hc c List.mem_cons_self)).2]
    congr 1
    ac_rfl
theorem xs3_get : ∀ (a b c : List Int) (i : Nat), a.length = b.length → b.length = c.length → i < a.length → (xs3 a b c).getD i 0 = x3 (a.getD i 0) (b.getD i 0) (c.getD i 0)
  | a :: al, b :: bl, c :: cl, 0, _, _, _ => rfl
  | a :: al, b :: bl, c :: cl, i + 1, h1, h2, h3 => by
    have := xs3_get al bl cl i (by simpa using h1) (by simpa using h2) (by simpa using h3)
    simpa [xs3] using this

theorem lin_l0 (a b c : List Int) (n : Nat) (ha : n ≤ a.length) (hb : n ≤ b.length) (hc : n ≤ c.length) (hn : n ≤ 10000) (fin : Ev (fun k => meridianlaw01_SumLinear.l0 k a b c (n : Int) (xs3 (a.take n) (b.take n) (c.take n)) (n : Int) (n : Int)) true) (d : Nat) :
    ∀ (i : Nat) (x : List Int), i + d = n → x.length = n → (∀ j, j < i → x.getD j 0 = x3 (a.getD j 0) (b.getD j 0) (c.getD j 0)) → Ev (fun k => meridianlaw01_SumLinear.l0 k a b c (n : Int) x (n : Int) (i : Int)) true := by
  induction d with
  | zero =>
    intro i x hi hx h
    obtain rfl : i = n := by omega
    have : x = xs3 (a.take i) (b.take i) (c.take i) := by
      have hl := xs3_length (a.take i) (b.take i) (c.take i) (by simp [List.length_take]; omega) (by simp [List.length_take]; omega)
      rw [List.length_take] at hl
      apply List.ext_getElem (by omega)
      intro j j1 j2
      have e1 := h j (by omega)
      have e2 := xs3_get (a.take i) (b.take i) (c.take i) j (by simp [List.length_take]; omega) (by simp [List.length_take]; omega) (by simp [List.length_take]; omega)
      rw [List.getD_eq_getElem?_getD, List.getElem?_eq_getElem j1] at e1
      rw [List.getD_eq_getElem?_getD, List.getElem?_eq_getElem j2] at e2
      simp only [Option.getD_some] at e1 e2
      rw [e1, e2]
      simp only [List.getD_eq_getElem?_getD, List.getElem?_take]
      rw [if_pos (by omega), if_pos (by omega), if_pos (by omega)]
    rw [this]
    exact fin
  | succ d ih =>
    intro i x hi hx h
    refine Ev.step (fun k => ?_) (ih (i + 1) (x.set i (x3 (rd a i) (rd b i) (rd c i))) (by omega) (by rw [List.length_set]; exact hx) (fun j hj => ?_))
    · simp only [meridianlaw01_SumLinear.l0]
      rw [if_pos (by omega), if_pos (by omega), if_pos (by omega), if_pos (by omega), if_pos (by omega), if_pos (by omega), w64 (by omega) (by omega), Int.toNat_natCast]
      rfl
    · rw [List.getD_eq_getElem?_getD, List.getElem?_set]
      by_cases e : i = j
      · subst e
        rw [if_pos rfl, if_pos (by omega)]
        unfold rd
        rw [Int.toNat_natCast]
        rfl
      · rw [if_neg e, ← List.getD_eq_getElem?_getD]
        exact h j (by omega)

theorem SumLinear : meridianlaw01_SumLinear.Pure := by
  intro a b c _ hla ha _ hlb hb _ hlc hc
  have ha := isB_of ha
  have hb := isB_of hb
  have hc := isB_of hc
  apply Ev.rounds
  unfold meridianlaw01_SumLinear.f
  refine bind_awake ?_
  obtain ⟨n, hn, h1, h2, h3, h4⟩ : ∃ n : Nat, mn (mn (mn (a.length : Int) (b.length : Int)) (c.length : Int)) 10000 = (n : Int) ∧ n ≤ a.length ∧ n ≤ b.length ∧ n ≤ c.length ∧ n ≤ 10000 := by
    refine ⟨(mn (mn (mn (a.length : Int) (b.length : Int)) (c.length : Int)) 10000).toNat, ?_, ?_, ?_, ?_, ?_⟩
    all_goals
      unfold mn
      repeat' split
      all_goals omega
  rw [hn]
  have ta : ∀ l : List Int, n ≤ l.length → (l.take n).length = n := fun l h => by rw [List.length_take]; omega
  refine Ev.congr (f := fun k => meridianlaw01_SumLinear.l0 k a b c (n : Int) (List.replicate n 0) (n : Int) ((0 : Nat) : Int)) (fun k => ?_) ?_
  · rw [if_pos (by omega), Int.toNat_natCast, if_pos (by omega)]
    simp only [Option.bind_some, List.length_replicate]
    rfl
  · refine lin_l0 a b c n h1 h2 h3 h4 ?_ n 0 _ (by omega) List.length_replicate (fun j hj => by omega)
    refine Ev.step (fun k => by simp only [meridianlaw01_SumLinear.l0]; rw [if_neg (by omega), if_pos (by omega), if_pos (by omega), Int.toNat_natCast]) ?_
    refine Ev.bind (of_f (a.take n) (fun x hx => ha x (List.mem_of_mem_take hx)) (by rw [ta a h1]; omega)) ?_
    refine Ev.congr (fun k => if_pos (by omega)) ?_
    refine Ev.bind (of_f (b.take n) (fun x hx => hb x (List.mem_of_mem_take hx)) (by rw [ta b h2]; omega)) ?_
    refine Ev.congr (fun k => if_pos (by omega)) ?_
    refine Ev.bind (of_f (c.take n) (fun x hx => hc x (List.mem_of_mem_take hx)) (by rw [ta c h3]; omega)) ?_
    have hx := xs3_isB (a.take n) (b.take n) (c.take n) (fun x hx => ha x (List.mem_of_mem_take hx)) (fun x hx => hb x (List.mem_of_mem_take hx)) (fun x hx => hc x (List.mem_of_mem_take hx))
    have hl := xs3_length (a.take n) (b.take n) (c.take n) (by rw [ta a h1, ta b h2]) (by rw [ta b h2, ta c h3])
    rw [ta a h1] at hl
    refine Ev.bind (of_f _ hx (by omega)) ?_
    have hr := reg3 (a.take n) (b.take n) (c.take n) (BitVec.allOnes 32) (BitVec.allOnes 32) (BitVec.allOnes 32) (by rw [ta a h1, ta b h2]) (by rw [ta b h2, ta c h3]) (fun x hx => ha x (List.mem_of_mem_take hx)) (fun x hx => hb x (List.mem_of_mem_take hx)) (fun x hx => hc x (List.mem_of_mem_take hx))
    rw [show (BitVec.allOnes 32 : B) ^^^ BitVec.allOnes 32 ^^^ BitVec.allOnes 32 = BitVec.allOnes 32 from by decide] at hr
    rw [V_xor, V_xor, ← hr]
    have : ∀ p q s : B, ~~~ p ^^^ ~~~ q ^^^ ~~~ s = ~~~ (p ^^^ q ^^^ s) := by
      intro p q s
      rw [← BitVec.allOnes_xor, ← BitVec.allOnes_xor, ← BitVec.allOnes_xor, ← BitVec.allOnes_xor]
      rw [show BitVec.allOnes 32 ^^^ p ^^^ (BitVec.allOnes 32 ^^^ q) ^^^ (BitVec.allOnes 32 ^^^ s) = (BitVec.allOnes 32 ^^^ BitVec.allOnes 32) ^^^ BitVec.allOnes 32 ^^^ (p ^^^ q ^^^ s) from by ac_rfl]
      simp
    rw [this]
    simp only [beq_self_eq_true]
    exact Ev.now _
end Go.Proofs.Ytiphaodokhdkgaa.Pure
