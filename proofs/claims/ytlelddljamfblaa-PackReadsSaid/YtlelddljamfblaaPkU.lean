/- The reference's Number: what it comes to is what the packer's reader reads. -/
import Derived.Test.YtlelddljamfblaaPkP
import Derived.Outline
namespace Go.Proofs.Ytlelddljamfblaa.Pk
open Go.RowKit Go.Proofs.YtlelddljamfblaaW.PrintWords Go.Proofs.YtlelddljamfblaaW.PrintLast Go.Proofs.YtlelddljamfblaaW.PrintMore Go.Proofs.Ytlelddljamfblaa.PPk
set_option linter.unusedVariables false
set_option linter.unusedSimpArgs false

def segF : List Int → Option (List Int × List Int)
  | [] => none
  | c :: t => if c < 128 then some ([c], t) else (segF t).map fun p => (c :: p.1, p.2)
def val : List Int → Int
  | [] => 0
  | d :: t => d % 128 + 128 * val t
theorem val_nonneg : ∀ l : List Int, 0 ≤ val l
  | [] => Int.le_refl 0
  | d :: t => by have := val_nonneg t; unfold val; omega
theorem val_enc : ∀ n : Nat, val (enc n) = n := by
  intro n
  induction n using Nat.strongRecOn with
  | _ n ih =>
    by_cases h : n < 128
    · rw [enc_lt h]; unfold val val; omega
    · rw [enc_ge h]
      have := ih (n / 128) (by omega)
      unfold val
      rw [this]; omega
theorem val_drop_le : ∀ (l : List Int) (k : Nat), val (l.drop k) ≤ val l
  | [], k => by simp
  | d :: t, 0 => by simp
  | d :: t, k + 1 => by
    have h1 := val_drop_le t k
    have h2 := val_nonneg t
    show val (t.drop k) ≤ d % 128 + 128 * val t
    omega
theorem val_step {l : List Int} {k : Nat} (h : k < l.length) : val (l.drop k) = l.getD k 0 % 128 + 128 * val (l.drop (k + 1)) := by
  rw [List.drop_eq_getElem_cons h]
  rw [List.getD_eq_getElem?_getD, List.getElem?_eq_getElem h]
  rfl
theorem segF_enc : ∀ (n : Nat) (t : List Int), segF (enc n ++ t) = some (enc n, t) := by
  intro n
  induction n using Nat.strongRecOn with
  | _ n ih =>
    intro t
    by_cases h : n < 128
    · rw [enc_lt h]
      show (if ((n : Nat) : Int) < 128 then _ else _) = _
      rw [if_pos (by omega)]
      rfl
    · rw [enc_ge h]
      show (if ((n : Int) % 128 + 128) < 128 then _ else _) = _
      rw [if_neg (by omega)]
      have := ih (n / 128) (by omega) t
      show Option.map _ (segF (enc (n / 128) ++ t)) = _
      rw [this]; rfl
theorem segF_some : ∀ {bs ds t : List Int}, segF bs = some (ds, t) → bs = ds ++ t ∧ 0 < ds.length ∧ (∀ i, i + 1 < ds.length → 128 ≤ ds.getD i 0) ∧ ds.getD (ds.length - 1) 0 < 128 := by
  intro bs
  induction bs with
  | nil => intro ds t h; cases h
  | cons c s ih =>
    intro ds t h
    unfold segF at h
    split at h
    · rename_i hc
      simp only [Option.some.injEq, Prod.mk.injEq] at h
      obtain ⟨rfl, rfl⟩ := h
      exact ⟨rfl, by simp, fun i hi => by simp at hi, hc⟩
    · rename_i hc
      cases hs : segF s with
      | none => rw [hs] at h; cases h
      | some p =>
        obtain ⟨d, r⟩ := p
        rw [hs] at h
        simp only [Option.map_some, Option.some.injEq, Prod.mk.injEq] at h
        obtain ⟨rfl, rfl⟩ := h
        obtain ⟨e, h1, h2, h3⟩ := ih hs
        refine ⟨by rw [e]; rfl, by simp, fun i hi => ?_, ?_⟩
        · cases i with
          | zero => simp; omega
          | succ i =>
            have := h2 i (by simpa using hi)
            simpa using this
        · have e2 : (c :: d).length - 1 = (d.length - 1) + 1 := by simp; omega
          rw [e2]
          simpa using h3
theorem segF_none : ∀ {bs : List Int}, segF bs = none → ∀ x ∈ bs, 128 ≤ x := by
  intro bs
  induction bs with
  | nil => intro _ x hx; simp at hx
  | cons c s ih =>
    intro h x hx
    unfold segF at h
    split at h
    · cases h
    · rename_i hc
      rcases List.mem_cons.1 hx with rfl | hx
      · omega
      · cases hs : segF s with
        | none => exact ih hs x hx
        | some p => rw [hs] at h; cases h
theorem seg_ok {bs ds t : List Int} (h : segF bs = some (ds, t)) (h1 : val ds ≤ 9007199254740992) (h2 : enc (val ds).toNat = ds) : rnum bs false = (val ds, t, false) := by
  obtain ⟨e, _⟩ := segF_some h
  obtain ⟨m, hm⟩ := Int.eq_ofNat_of_zero_le (val_nonneg ds)
  rw [hm] at h1 h2 ⊢
  rw [Int.toNat_natCast] at h2
  rw [e, ← h2]
  exact rnum_enc (by omega) t
theorem seg_of {bs t : List Int} {n : Int} (hb : ∀ x ∈ bs, IsB x) (h : rnum bs false = (n, t, false)) : ∃ ds, segF bs = some (ds, t) ∧ val ds = n ∧ n ≤ 9007199254740992 ∧ enc (val ds).toNat = ds ∧ ds.length ≤ 8 := by
  obtain ⟨m, e, rfl, hm⟩ := rnum_dec hb h
  refine ⟨enc m, by rw [e]; exact segF_enc m t, val_enc m, by omega, by rw [val_enc m, Int.toNat_natCast], enc_len8 hm⟩
/-- What the reference's Number answers. -/
def numR (B : List Int) (at_ : Nat) : Int × Int × Bool :=
  if (rnum (B.drop at_) false).2.2 = false then ((rnum (B.drop at_) false).1, (B.length : Int) - ((rnum (B.drop at_) false).2.1.length : Int), true) else (0, 0, false)
theorem numR_bad {B : List Int} {at_ : Nat} (h : (rnum (B.drop at_) false).2.2 ≠ false) : numR B at_ = (0, 0, false) := if_neg h
theorem numR_ok {B : List Int} {at_ : Nat} {n : Int} {t : List Int} (h : rnum (B.drop at_) false = (n, t, false)) : numR B at_ = (n, (B.length : Int) - (t.length : Int), true) := by
  unfold numR
  rw [h, if_pos rfl]
theorem not_num {bs : List Int} (hb : ∀ x ∈ bs, IsB x) (h : ∀ n ds t, segF bs = some (ds, t) → val ds = n → n ≤ 9007199254740992 → enc (val ds).toNat = ds → ds.length ≤ 8 → False) : (rnum bs false).2.2 ≠ false := by
  intro hf
  obtain ⟨ds, h1, h2, h3, h4, h5⟩ := seg_of (n := (rnum bs false).1) (t := (rnum bs false).2.1) hb (by generalize rnum bs false = R at hf ⊢; obtain ⟨a, b, c⟩ := R; simp only at hf; rw [hf])
  exact h _ ds _ h1 h2 h3 h4 h5
def IsNumR (R : Int × Int × Bool) (w : World) (e : Ending) (w' : World) : Prop := e = .returned (.tuple #[.int .i64 R.1, .int .i64 R.2.1, .bool R.2.2]) ∧ Below w.heap.size w w'
theorem IsNumR.mk {R : Int × Int × Bool} {a b : Int} {c : Bool} {w w' : World} (h : R = (a, b, c)) (hb : Below w.heap.size w w') : IsNumR R w (.returned (.tuple #[.int .i64 a, .int .i64 b, .bool c])) w' := by
  subst h; exact ⟨rfl, hb⟩
theorem rd_drop (B : List Int) (at_ j : Nat) : (B.drop at_).getD j 0 = rd B ((at_ + j : Nat) : Int) := by
  unfold rd
  rw [Int.toNat_natCast, List.getD_eq_getElem?_getD, List.getD_eq_getElem?_getD, List.getElem?_drop]
theorem rd_lt_mem {B : List Int} {i : Nat} (h : i < B.length) : rd B (i : Int) ∈ B := by
  unfold rd
  rw [Int.toNat_natCast, List.getD_eq_getElem?_getD, List.getElem?_eq_getElem h]
  exact List.getElem_mem h
end Go.Proofs.Ytlelddljamfblaa.Pk
