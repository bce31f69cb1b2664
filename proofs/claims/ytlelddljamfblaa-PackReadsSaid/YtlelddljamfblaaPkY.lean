/- The packer's reader and the reference's answer alike: plain laws; both readers beside one another in memory. -/
import Derived.Test.YtlelddljamfblaaPkX
import Derived.Test.YtlelddljamfblaaPkR
namespace Go.Proofs.Ytlelddljamfblaa.Pk
open Go.RowKit Go.Proofs.YtlelddljamfblaaW.PrintWords Go.Proofs.YtlelddljamfblaaW.PrintLast Go.Proofs.YtlelddljamfblaaW.PrintMore Go.Proofs.Ytlelddljamfblaa.PPk
set_option linter.unusedVariables false
set_option linter.unusedSimpArgs false

def Sim (B bs : List Int) (bad : Bool) (a : Nat) : Prop := bad = false → bs = B.drop a
theorem rcount_mem {most : Int} {bs : List Int} {bad : Bool} {p : Int → Prop} (h : ∀ x ∈ bs, p x) : ∀ x ∈ (rcount most bs bad).2.1, p x := by
  unfold rcount
  split
  · exact rnum_mem h
  · exact rnum_mem h
theorem goN_fault (f : Nat) : ∀ (n b : Int) (bs : List Int), (goN f n b bs).2.2 = true → (goN f n b bs).1 = 0 := by
  induction f with
  | zero => intro n b bs _; rfl
  | succ f ih =>
    intro n b bs h
    cases bs with
    | nil => rfl
    | cons c t =>
      unfold goN at h ⊢
      split at h
      · rename_i hc
        rw [if_pos hc]
        split at h
        · rename_i h2; rw [if_pos h2]
        · cases h
      · rename_i hc
        rw [if_neg hc]
        exact ih _ _ _ h
theorem rnum_fault {bs : List Int} {bad : Bool} (h : (rnum bs bad).2.2 = true) : (rnum bs bad).1 = 0 := by
  unfold rnum at h ⊢
  split
  · rfl
  · rename_i hb; rw [if_neg hb] at h; exact goN_fault _ _ _ _ h
theorem suffix_at {B t : List Int} {a : Nat} (ha : a ≤ B.length) (h : ∃ m, t = (B.drop a).drop m) : t = B.drop (B.length - t.length) := by
  obtain ⟨m, rfl⟩ := h
  rw [List.drop_drop, List.length_drop]
  by_cases hm : a + m ≤ B.length
  · rw [show B.length - (B.length - (a + m)) = a + m by omega]
  · rw [List.drop_eq_nil_of_le (by omega), List.drop_eq_nil_of_le (by omega)]
theorem rnum_most {bs : List Int} {bad : Bool} (hb : ∀ x ∈ bs, IsB x) : (rnum bs bad).1 ≤ 9007199254740992 := by
  cases h : (rnum bs bad).2.2
  · cases bad
    · obtain ⟨m, _, e, hm⟩ := rnum_dec (n := (rnum bs false).1) (t := (rnum bs false).2.1) hb (by generalize rnum bs false = R at h ⊢; obtain ⟨x, y, z⟩ := R; simp only at h; rw [h])
      rw [e]; omega
    · rw [rnum_bad] at h; cases h
  · rw [rnum_fault h]; decide
theorem sim_most {B bs : List Int} {bad : Bool} {a : Nat} (most : Int) (ha : a ≤ B.length) (h : Sim B bs bad a) :
    (rcount most bs bad).1 = (fnum most B a bad).1 ∧ (rcount most bs bad).2.2 = (fnum most B a bad).2.2 ∧ Sim B (rcount most bs bad).2.1 (rcount most bs bad).2.2 (fnum most B a bad).2.1 := by
  cases bad
  · obtain rfl := h rfl
    unfold rcount fnum
    rw [if_neg (show ¬ (false = true) by simp)]
    have hs := suffix_at ha (rnum_suffix (B.drop a) false)
    have hf := rnum_fault (bs := B.drop a) (bad := false)
    generalize rnum (B.drop a) false = R at *
    obtain ⟨n, t, b⟩ := R
    simp only at hs hf ⊢
    by_cases hm : n > most
    · rw [if_pos hm, if_pos (.inr hm)]
      exact ⟨rfl, rfl, fun h => by cases h⟩
    · rw [if_neg hm]
      cases b
      · rw [if_neg (by simp; omega)]
        exact ⟨rfl, rfl, fun _ => hs⟩
      · rw [if_pos (.inl rfl)]
        exact ⟨hf rfl, rfl, fun h => by cases h⟩
  · unfold rcount fnum
    rw [rnum_bad, if_pos rfl]
    split
    · exact ⟨rfl, rfl, fun h => by cases h⟩
    · exact ⟨rfl, rfl, fun h => by cases h⟩
theorem sim_num {B bs : List Int} {bad : Bool} {a : Nat} (ha : a ≤ B.length) (hb : ∀ x ∈ bs, IsB x) (h : Sim B bs bad a) :
    (rnum bs bad).1 = (fnum 9007199254740992 B a bad).1 ∧ (rnum bs bad).2.2 = (fnum 9007199254740992 B a bad).2.2 ∧ Sim B (rnum bs bad).2.1 (rnum bs bad).2.2 (fnum 9007199254740992 B a bad).2.1 := by
  have e : rcount 9007199254740992 bs bad = rnum bs bad := if_neg (by have := rnum_most (bad := bad) hb; omega)
  have := sim_most 9007199254740992 ha h
  rwa [e] at this
theorem fnum_le {most : Int} {B : List Int} {a : Nat} {bad : Bool} (ha : a ≤ B.length) : (fnum most B a bad).2.1 ≤ B.length := by
  unfold fnum
  split
  · exact ha
  · split
    · exact ha
    · simp only; omega
theorem sim_text {B bs : List Int} {bad : Bool} {a : Nat} (most : Int) (ha : a ≤ B.length) (hb : ∀ x ∈ bs, IsB x) (h : Sim B bs bad a) :
    (rtext most bs bad).1 = (ftext most B a bad).1 ∧ (rtext most bs bad).2.2 = (ftext most B a bad).2.2 ∧ Sim B (rtext most bs bad).2.1 (rtext most bs bad).2.2 (ftext most B a bad).2.1 := by
  obtain ⟨e1, e2, e3⟩ := sim_num ha hb h
  have hle := fnum_le (most := 9007199254740992) (bad := bad) ha
  unfold rtext ftext
  generalize rnum bs bad = R at *
  generalize fnum 9007199254740992 B a bad = F at *
  obtain ⟨n, t, b⟩ := R
  obtain ⟨n2, a2, b2⟩ := F
  simp only at e1 e2 e3 hle ⊢
  subst e1 e2
  cases b
  · obtain rfl := e3 rfl
    have hl : ((B.drop a2).length : Int) = (B.length : Int) - (a2 : Int) := by rw [List.length_drop]; omega
    rw [hl]
    split
    · exact ⟨rfl, rfl, fun h => by cases h⟩
    · exact ⟨rfl, rfl, fun _ => by rw [List.drop_drop]⟩
  · rw [if_pos (.inl rfl), if_pos (.inl rfl)]
    exact ⟨rfl, rfl, fun h => by cases h⟩
theorem sim_flag {B bs : List Int} {bad : Bool} {a : Nat} (ha : a ≤ B.length) (h : Sim B bs bad a) :
    (rflag bs bad).1 = (fflag B a bad).1 ∧ (rflag bs bad).2.2 = (fflag B a bad).2.2 ∧ Sim B (rflag bs bad).2.1 (rflag bs bad).2.2 (fflag B a bad).2.1 := by
  cases bad
  · obtain rfl := h rfl
    unfold fflag
    rw [if_neg (show ¬ (false = true) by simp)]
    by_cases hle : B.length ≤ a
    · rw [List.drop_eq_nil_of_le hle, if_pos hle]
      exact ⟨rfl, rfl, fun h => by cases h⟩
    · rw [if_neg hle]
      have e : B.drop a = rd B a :: B.drop (a + 1) := by
        rw [List.drop_eq_getElem_cons (by omega)]
        unfold rd
        rw [Int.toNat_natCast, List.getD_eq_getElem?_getD, List.getElem?_eq_getElem (by omega)]
        rfl
      rw [e]
      have hd : rflag (rd B a :: B.drop (a + 1)) false = if rd B a > 1 then (false, B.drop (a + 1), true) else (rd B a == 1, B.drop (a + 1), false) := rfl
      rw [hd]
      split
      · exact ⟨rfl, rfl, fun h => by cases h⟩
      · exact ⟨rfl, rfl, fun _ => rfl⟩
  · exact ⟨rfl, rfl, fun h => by cases h⟩
theorem sim_end {B bs : List Int} {bad : Bool} {a : Nat} (ha : a ≤ B.length) (h : Sim B bs bad a) : (rend bs bad = 0 ∧ fwhole B a bad = true) ∨ (rend bs bad = 2 ∧ fwhole B a bad = false) := by
  unfold rend fwhole
  cases bad
  · obtain rfl := h rfl
    by_cases he : a = B.length
    · subst he
      refine .inl ⟨if_neg (by simp), by simp⟩
    · refine .inr ⟨if_pos (.inr (by rw [List.length_drop]; omega)), ?_⟩
      have : ((a : Int) == (B.length : Int)) = false := beq_eq_false_iff_ne.mpr (by omega)
      rw [this]; rfl
  · exact .inr ⟨if_pos (.inl rfl), rfl⟩

/-- Both readers, and the row that is turned beside them. -/
structure Both (w wr : World) (gr q gf qi n ci : Nat) (A : Option Addr) (c : Nat) (B : List Int) (bs : List Int) (bad : Bool) (a : Nat) : Prop where
  rd : RdNew w wr gr q bs bad
  rf : Rf w wr gf A c B a bad
  row : ∃ xs : List Int, wr.ownsRow w.heap.size 5 1 (.slice (some ⟨qi, 0, none⟩) n ci) n (nums .u8 xs)
  sim : Sim B bs bad a
  isB : ∀ x ∈ bs, IsB x
  ne : gf ≠ gr ∧ gf ≠ q ∧ qi ≠ gr ∧ qi ≠ q ∧ qi ≠ gf ∧ gr ≠ q
section
variable {w wr w2 : World} {gr q gf qi n ci : Nat} {A : Option Addr} {c : Nat} {B bs : List Int} {bad : Bool} {a : Nat}
theorem Both.bel (h : Both w wr gr q gf qi n ci A c B bs bad a) : Below w.heap.size w wr := h.rd.bel
theorem Both.below (h : Both w wr gr q gf qi n ci A c B bs bad a) (hB : Below wr.heap.size wr w2) : Both w w2 gr q gf qi n ci A c B bs bad a :=
  ⟨h.rd.below hB, h.rf.below hB, by obtain ⟨xs, hx⟩ := h.row; exact ⟨xs, pw_own_below hx hB⟩, h.sim, h.isB, h.ne⟩
theorem Both.row_step {S : Nat → Prop} (h : Both w wr gr q gf qi n ci A c B bs bad a) (hO : Only S wr w2) (hs : ¬ S qi) : ∃ xs : List Int, w2.ownsRow w.heap.size 5 1 (.slice (some ⟨qi, 0, none⟩) n ci) n (nums .u8 xs) := by
  obtain ⟨xs, hx⟩ := h.row
  refine ⟨xs, own_move hx (fun k hk => ?_)⟩
  obtain rfl : qi = k := by simpa [Value.ownBlock] using hk
  exact hO.block _ (own_lt hx _ hk) hs
/-- Both are asked, one behind the other. -/
theorem Both.step {w3 w4 : World} (h : Both w wr gr q gf qi n ci A c B bs bad a) {bs2 : List Int} {bad2 : Bool} {a2 : Nat} (hR : RdAt w3 gr q bs2 bad2) (hO : Only (· = gr) wr w3) (hF : Rf w w4 gf A c B a2 bad2) (hO2 : Only (· = gf) w3 w4) (hs : Sim B bs2 bad2 a2) (hb : ∀ x ∈ bs2, IsB x) : Both w w4 gr q gf qi n ci A c B bs2 bad2 a2 := by
  have hO4 : Only (fun k => k = gr ∨ k = gf) wr w4 := (hO.mono (fun _ _ h => .inl h)).trans hO2 (fun _ _ h => .inr h)
  have hr3 := h.rd.next hR hO
  refine ⟨⟨hR.only hO2 (fun e => h.ne.1 e.symm) (fun e => h.ne.2.1 e.symm), h.rd.2.1, h.rd.2.2.1, hF.bel⟩, hF, h.row_step hO4 ?_, hs, hb, h.ne⟩
  rintro (e | e)
  · exact h.ne.2.2.1 e
  · exact h.ne.2.2.2.2.1 e
/-- The other reader, behind the first's call. -/
theorem Both.other {w3 : World} (h : Both w wr gr q gf qi n ci A c B bs bad a) (hO : Only (· = gr) wr w3) : Rf w w3 gf A c B a bad := h.rf.only hO (fun k hk => by subst hk; exact h.rd.2.1) h.ne.1
/-- A byte of the row is turned. -/
theorem Both.put (h : Both w wr gr q gf qi n ci A c B bs bad a) (i : Nat) (y : Int) : Both w (wr.setCell ⟨qi, i, none⟩ (.int .u8 y)) gr q gf qi n ci A c B bs bad a := by
  have hO := Only.at_ wr qi i (.int .u8 y)
  have hq : w.heap.size ≤ qi := by obtain ⟨xs, hx⟩ := h.row; exact own_base hx qi rfl
  refine ⟨⟨h.rd.1.only hO (fun e => h.ne.2.2.1 e.symm) (fun e => h.ne.2.2.2.1 e.symm), h.rd.2.1, h.rd.2.2.1, below_only h.bel hO (fun k hk => by subst hk; exact hq)⟩, h.rf.only hO (fun k hk => by subst hk; exact hq) (fun e => h.ne.2.2.2.2.1 e.symm), ?_, h.sim, h.isB, h.ne⟩
  obtain ⟨xs, hx⟩ := h.row
  have := (own_store hx (i : Int) y).1
  rw [Int.toNat_natCast] at this
  exact ⟨_, this⟩
theorem Both.byte (h : Both w wr gr q gf qi n ci A c B bs bad a) {i : Nat} (hi : i < n) : ∃ y : Int, wr.cell? ⟨qi, i, none⟩ = some (.int .u8 y) ∧ wr.frozen? ⟨qi, i, none⟩ = false := by
  obtain ⟨xs, hx⟩ := h.row
  have := own_at hx (i : Int) (by omega) (by omega)
  rw [Int.toNat_natCast] at this
  exact ⟨_, this⟩
end
end Go.Proofs.Ytlelddljamfblaa.Pk
