/- Bytes that are read without a fault are those that are written of what was read: plain laws, and the list that grows beside a reader. -/
import Derived.Test.YtlelddljamfblaaPkP
import Derived.Test.YtlelddljamfblaaPkL
import Derived.Test.YtlelddljamfblaaPkI
import Derived.Outline
namespace Go.Proofs.Ytlelddljamfblaa.Pk
open Go.RowKit Go.Proofs.YtlelddljamfblaaW.PrintWords Go.Proofs.YtlelddljamfblaaW.PrintLast Go.Proofs.YtlelddljamfblaaW.PrintMore Go.Proofs.Ytlelddljamfblaa.PPk
set_option linter.unusedVariables false
set_option linter.unusedSimpArgs false

theorem rflag_dec {bs t : List Int} {r : Bool} (hb : ∀ x ∈ bs, IsB x) (h : rflag bs false = (r, t, false)) : bs = (if r = true then 1 else 0) :: t := by
  cases bs with
  | nil => cases h
  | cons c s =>
    obtain ⟨c0, c1⟩ := hb c (by simp)
    have hd : rflag (c :: s) false = if c > 1 then (false, s, true) else (c == 1, s, false) := rfl
    rw [hd] at h
    split at h
    · cases h
    · simp only [Prod.mk.injEq] at h
      obtain ⟨rfl, rfl, _⟩ := h
      by_cases hc : c = 1
      · subst hc; rfl
      · have : (c == 1) = false := by simpa using hc
        rw [this]
        have : c = 0 := by omega
        subst this; rfl
theorem rtext_dec {most : Nat} {bs s t : List Int} (hb : ∀ x ∈ bs, IsB x) (h : rtext (most : Int) bs false = (s, t, false)) : bs = enc s.length ++ s ++ t ∧ s.length ≤ most ∧ s.length ≤ 9007199254740992 := by
  unfold rtext at h
  split at h
  · cases h
  · rename_i hq
    generalize hR : rnum bs false = R at *
    obtain ⟨n, u, b⟩ := R
    simp only at h hq
    have hb2 : b = false := by cases b; rfl; exact absurd (.inl rfl) hq
    subst hb2
    obtain ⟨m, e1, rfl, hm⟩ := rnum_dec hb hR
    rw [Int.toNat_natCast] at h
    simp only [Prod.mk.injEq] at h
    obtain ⟨rfl, rfl, _⟩ := h
    have hl : (u.take m).length = m := by rw [List.length_take]; omega
    rw [hl]
    exact ⟨by rw [List.append_assoc, List.take_append_drop, e1], by omega, hm⟩
theorem rtext_len (most : Nat) (bs : List Int) (bad : Bool) : (rtext (most : Int) bs bad).1.length ≤ most := by
  have h0 := rnum_nonneg bs bad
  unfold rtext
  split
  · simp
  · rename_i hq
    simp only [List.length_take]
    omega
theorem rtext_isB {most : Int} {bs : List Int} {bad : Bool} {p : Int → Prop} (h : ∀ x ∈ bs, p x) : ∀ x ∈ (rtext most bs bad).1, p x := by
  unfold rtext
  split
  · intro x hx; simp at hx
  · exact fun x hx => rnum_mem h x (List.mem_of_mem_take hx)
/-- What has been read so far. -/
structure Told (l0 : List Int) (items : List S46) (cs : List Int) (b : Bool) : Prop where
  eq : b = false → l0 = items.flatMap itemB ++ cs ∧ ∀ x ∈ items, good x
  sz : ∀ x ∈ items, x.f2.size ≤ 100000
  isB : ∀ x ∈ cs, IsB x
theorem Told.flag {l0 : List Int} {items : List S46} {cs : List Int} {b : Bool} (h : Told l0 items cs b) {r : Bool} {cs2 : List Int} {b2 : Bool} (hr : rflag cs b = (r, cs2, b2)) : Told l0 (items ++ [⟨1, if r = true then 1 else 0, ⟨#[]⟩⟩]) cs2 b2 := by
  refine ⟨fun hb => ?_, fun x hx => ?_, ?_⟩
  · subst hb
    cases b
    · obtain ⟨e, hg⟩ := h.eq rfl
      have := rflag_dec h.isB hr
      refine ⟨?_, fun x hx => ?_⟩
      · rw [e, this, List.flatMap_append, List.append_assoc]
        cases r <;> rfl
      · rcases List.mem_append.1 hx with hx | hx
        · exact hg x hx
        · obtain rfl := List.mem_singleton.1 hx
          unfold good; rw [if_pos rfl]; trivial
    · rw [rflag_bad] at hr; cases hr
  · rcases List.mem_append.1 hx with hx | hx
    · exact h.sz x hx
    · obtain rfl := List.mem_singleton.1 hx
      exact Nat.zero_le _
  · have := rflag_mem (bad := b) h.isB
    rw [hr] at this
    exact this
theorem Told.text {l0 : List Int} {items : List S46} {cs : List Int} {b : Bool} (h : Told l0 items cs b) {s cs2 : List Int} {b2 : Bool} (hr : rtext (10000 : Nat) cs b = (s, cs2, b2)) : Told l0 (items ++ [⟨2, 0, strOfNums s⟩]) cs2 b2 := by
  have hl := rtext_len 10000 cs b
  have hsB := rtext_isB (most := ((10000 : Nat) : Int)) (bad := b) h.isB
  rw [hr] at hl hsB
  simp only at hl hsB
  refine ⟨fun hb => ?_, fun x hx => ?_, ?_⟩
  · subst hb
    cases b
    · obtain ⟨e, hg⟩ := h.eq rfl
      obtain ⟨this, h1, h2⟩ := rtext_dec h.isB hr
      refine ⟨?_, fun x hx => ?_⟩
      · have e2 : itemB ⟨2, 0, strOfNums s⟩ = enc s.length ++ s := by
          show (if (2 : Int) = 1 then _ else if (2 : Int) = 2 then enc (strOfNums s).size ++ bytesOf (strOfNums s) else _) = _
          rw [if_neg (by decide), if_pos rfl, strOfNums_size, bytesOf_strOf hsB]
        rw [e, this]
        simp [List.flatMap_append, e2]
      · rcases List.mem_append.1 hx with hx | hx
        · exact hg x hx
        · obtain rfl := List.mem_singleton.1 hx
          unfold good; rw [if_neg (show ¬ (2 : Int) = 1 by decide), if_pos rfl]
          show (strOfNums s).size ≤ _
          rw [strOfNums_size]; exact h2
    · rw [rtext_bad] at hr; cases hr
  · rcases List.mem_append.1 hx with hx | hx
    · exact h.sz x hx
    · obtain rfl := List.mem_singleton.1 hx
      show (strOfNums s).size ≤ _
      rw [strOfNums_size]; omega
  · have := rtext_mem (most := ((10000 : Nat) : Int)) (bad := b) h.isB
    rw [hr] at this
    exact this
theorem Told.num {l0 : List Int} {items : List S46} {cs : List Int} {b : Bool} (h : Told l0 items cs b) {k : Int} (k1 : k ≠ 1) (k2 : k ≠ 2) {n : Int} {cs2 : List Int} {b2 : Bool} (hr : rnum cs b = (n, cs2, b2)) : Told l0 (items ++ [⟨k, n, ⟨#[]⟩⟩]) cs2 b2 := by
  refine ⟨fun hb => ?_, fun x hx => ?_, ?_⟩
  · subst hb
    cases b
    · obtain ⟨e, hg⟩ := h.eq rfl
      obtain ⟨m, this, rfl, hm⟩ := rnum_dec h.isB hr
      refine ⟨?_, fun x hx => ?_⟩
      · have e2 : itemB ⟨k, (m : Int), ⟨#[]⟩⟩ = enc m := by
          show (if k = 1 then _ else if k = 2 then _ else enc (m : Int).toNat) = _
          rw [if_neg k1, if_neg k2]
          rfl
        rw [e, this]
        simp [List.flatMap_append, e2]
      · rcases List.mem_append.1 hx with hx | hx
        · exact hg x hx
        · obtain rfl := List.mem_singleton.1 hx
          unfold good; rw [if_neg k1, if_neg k2]
          exact ⟨by show (0 : Int) ≤ m; omega, by show (m : Int) ≤ _; omega⟩
    · rw [rnum_bad] at hr; cases hr
  · rcases List.mem_append.1 hx with hx | hx
    · exact h.sz x hx
    · obtain rfl := List.mem_singleton.1 hx
      exact Nat.zero_le _
  · have := rnum_mem (bad := b) h.isB
    rw [hr] at this
    exact this

/-- A reader, and beside it a list of items that grows. -/
def OneAt (w wr : World) (g q : Nat) (v : Value) (items : List S46) (cs : List Int) (b : Bool) : Prop :=
  RdNew w wr g q cs b ∧ Kd.R k46 46 wr w.heap.size (fun k => k ≠ g ∧ k ≠ q) v items
theorem OneAt.turn {w wr w5 : World} {g q : Nat} {v : Value} {items : List S46} {cs cs2 : List Int} {b b2 : Bool} (h : OneAt w wr g q v items cs b) (hR : RdAt w5 g q cs2 b2) (hO : Only (· = g) wr w5) : OneAt w w5 g q v items cs2 b2 :=
  ⟨h.1.next hR hO, Kd.R_step h.2 (fun k hk hlt => hO.block k hlt (fun e => hk.1 e))⟩
theorem RdAt.lt {w : World} {g q : Nat} {bs : List Int} {bad : Bool} (h : RdAt w g q bs bad) : g < w.heap.size ∧ q < w.heap.size := by
  obtain ⟨off, c, hb, h1, h2, h3, h5, h4⟩ := h
  exact ⟨blk_lt hb, h5⟩
theorem OneAt.fresh {w wr : World} {g q : Nat} {v : Value} {items : List S46} {cs : List Int} {b : Bool} (h : OneAt w wr g q v items cs b) : ∀ k, wr.heap.size ≤ k → k ≠ g ∧ k ≠ q := fun k hk => by have := h.1.1.lt; omega
theorem OneAt.start {w w2 : World} {g q : Nat} {cs : List Int} {b : Bool} (h : RdNew w w2 g q cs b) : OneAt w (w2.alloc (.cells #[] 46)) g q (.slice (some ⟨w2.heap.size, 0, none⟩) 0 0) [] cs b := by
  have hl := h.1.lt
  refine ⟨h.below (below_alloc (Below.refl _ _) _), fun k hk => ?_, [], ?_, Reps.none _ _⟩
  · simp [Value.ownBlock] at hk
    subst hk
    omega
  · exact World.ownsRow_made w2 #[] 0 h.2.2.2.size (Nat.zero_le _) rfl
theorem OneAt.app {w W w1 : World} {g q : Nat} {v v1 : Value} {items : List S46} {p : S46} {cs : List Int} {b : Bool} (h : OneAt w W g q v items cs b) (hR : Kd.R k46 46 w1 w.heap.size (fun k => k ≠ g ∧ k ≠ q) v1 (items ++ [p])) (hg : W.grownBy w1 v.ownBlock) : OneAt w w1 g q v1 (items ++ [p]) cs b := by
  refine ⟨?_, hR⟩
  have ho : Only (fun k => v.ownBlock = some k) W w1 := (Only.refl _ _).grown hg (fun k hk => .inr hk)
  have hB : Below w.heap.size w w1 := below_only h.1.2.2.2 ho (fun k hk => own_base (Kd.R_own h.2).choose_spec k hk)
  exact ⟨h.1.1.only ho (fun e => (h.2.1 _ e).1 rfl) (fun e => (h.2.1 _ e).2 rfl), h.1.2.1, h.1.2.2.1, hB⟩
end Go.Proofs.Ytlelddljamfblaa.Pk
