/- What the reference of the tables of epochs comes to, and that both tell the same. -/
import Derived.Test.YtlakicaemkgejaaPureC
import Derived.Test.YtlakicaemkgejaaPAllx8
namespace Go.Proofs.Ytlakicaemkgejaa.PAll
open Go.RowKit Go.Proofs.YtlakicaemkgejaaW.PrintWords Go.Proofs.YtlakicaemkgejaaW.PrintLast Go.Proofs.YtlakicaemkgejaaW.PrintMore
set_option linter.unusedVariables false
set_option linter.unusedSimpArgs false
open Classical
def CondAt (l : List S32) (x : Nat) : Prop := OkE (el l x) ∧ (x = 0 → (el l 0).f1 = 0 ∧ (el l 0).f2 = false)

theorem ref_right_l0 (l : List S32) (hl : l.length ≤ 1000000000000000) (d : Nat) : ∀ (x : Nat) (b : Bool), x + d = l.length →
    Ev (fun k => meridianref04_Right.l0 k l b (x : Int)) (decide (b = true ∧ ∀ j, x ≤ j → j < l.length → CondAt l j)) := by
  induction d with
  | zero =>
    intro x b hx
    refine Ev.step (f := fun _ => some b) (fun k => ?_) ?_
    · simp only [meridianref04_Right.l0]; rw [if_neg (by omega)]
    · rw [show decide (b = true ∧ ∀ j, x ≤ j → j < l.length → CondAt l j) = b from by
        cases b
        · exact decide_eq_false (fun h => by cases h.1)
        · exact decide_eq_true ⟨rfl, fun j h1 h2 => by omega⟩]
      exact Ev.now _
  | succ d ih =>
    intro x b hx
    have hw : wrap64 ((x : Int) + 1) = ((x + 1 : Nat) : Int) := by rw [w64 (by omega) (by omega)]; omega
    have split_ : ∀ c : Bool, (c = true ↔ b = true ∧ CondAt l x) → decide (b = true ∧ ∀ j, x ≤ j → j < l.length → CondAt l j) = decide (c = true ∧ ∀ j, x + 1 ≤ j → j < l.length → CondAt l j) := by
      intro c hc
      apply decide_eq_decide.2
      constructor
      · rintro ⟨h1, h2⟩
        exact ⟨hc.2 ⟨h1, h2 x (Nat.le_refl _) (by omega)⟩, fun j j1 j2 => h2 j (by omega) j2⟩
      · rintro ⟨h1, h2⟩
        obtain ⟨g1, g2⟩ := hc.1 h1
        refine ⟨g1, fun j j1 j2 => ?_⟩
        by_cases e : j = x
        · rw [e]; exact g2
        · exact h2 j (by omega) j2
    have no : ¬ (b = true ∧ CondAt l x) → Ev (fun k => meridianref04_Right.l0 k l false ((x + 1 : Nat) : Int)) (decide (b = true ∧ ∀ j, x ≤ j → j < l.length → CondAt l j)) := by
      intro h
      rw [split_ false ⟨fun h => (by cases h), fun g => absurd g h⟩]
      exact ih (x + 1) false (by omega)
    have h1 : (x : Int) < (l.length : Int) := by omega
    cases b with
    | false =>
      refine Ev.step (fun k => ?_) (no (fun g => by cases g.1))
      simp only [meridianref04_Right.l0]
      rw [if_pos h1, if_pos (by omega), if_neg (by decide), hw]
    | true =>
      by_cases o1 : (el l x).f0 > 0
      rotate_left
      · refine Ev.step (fun k => ?_) (no (fun g => o1 (by have := g.2.1.1; omega)))
        simp only [meridianref04_Right.l0]
        rw [if_pos h1, if_pos (by omega), if_pos trivial, rd_nat, if_neg o1, hw]
      by_cases o2 : (el l x).f0 < 5
      rotate_left
      · refine Ev.step (fun k => ?_) (no (fun g => o2 (by have := g.2.1.2.1; omega)))
        simp only [meridianref04_Right.l0]
        rw [if_pos h1, if_pos (by omega), if_pos trivial, rd_nat, if_pos o1, if_neg o2, hw]
      by_cases o3 : (el l x).f1 ≥ 0
      rotate_left
      · refine Ev.step (fun k => ?_) (no (fun g => o3 (by have := g.2.1.2.2.1; omega)))
        simp only [meridianref04_Right.l0]
        rw [if_pos h1, if_pos (by omega), if_pos trivial, rd_nat, if_pos o1, if_pos o2, if_neg o3, hw]
      by_cases o4 : (el l x).f1 ≤ 512
      rotate_left
      · refine Ev.step (fun k => ?_) (no (fun g => o4 (by have := g.2.1.2.2.2; omega)))
        simp only [meridianref04_Right.l0]
        rw [if_pos h1, if_pos (by omega), if_pos trivial, rd_nat, if_pos o1, if_pos o2, if_pos o3, if_neg o4, hw]
      have ok : OkE (el l x) := ⟨by omega, by omega, by omega, o4⟩
      by_cases o5 : (x : Int) > 0
      · rw [split_ true ⟨fun _ => ⟨rfl, ok, fun h => by omega⟩, fun _ => rfl⟩]
        refine Ev.step (fun k => ?_) (ih (x + 1) true (by omega))
        simp only [meridianref04_Right.l0]
        rw [if_pos h1, if_pos (by omega), if_pos trivial, rd_nat, if_pos o1, if_pos o2, if_pos o3, if_pos o4, if_pos o5, hw]
      · obtain rfl : x = 0 := by omega
        by_cases o6 : (el l 0).f1 = 0
        · rw [split_ (!(el l 0).f2) ⟨fun h => ⟨rfl, ok, fun _ => ⟨o6, by simpa using h⟩⟩, fun g => by simpa using (g.2.2 rfl).2⟩]
          refine Ev.step (fun k => ?_) (ih (0 + 1) (!(el l 0).f2) (by omega))
          simp only [meridianref04_Right.l0]
          rw [if_pos h1, if_pos (by omega), if_pos trivial, rd_nat, if_pos o1, if_pos o2, if_pos o3, if_pos o4, if_neg o5, if_pos o6, hw]
        · refine Ev.step (fun k => ?_) (no (fun g => o6 (g.2.2 rfl).1))
          simp only [meridianref04_Right.l0]
          rw [if_pos h1, if_pos (by omega), if_pos trivial, rd_nat, if_pos o1, if_pos o2, if_pos o3, if_pos o4, if_neg o5, if_neg o6, hw]

theorem ref_right_f (l : List S32) (hl : l.length ≤ 1000000000000000) : Ev (fun k => meridianref04_Right.f k l) (decide (RightP l)) := by
  unfold meridianref04_Right.f
  have go : ∀ b : Bool, (decide (b = true ∧ ∀ j, 0 ≤ j → j < l.length → CondAt l j) = decide (RightP l)) → Ev (fun k => meridianref04_Right.j0 k l b) (decide (RightP l)) := by
    intro b hb
    rw [← hb]
    exact Ev.step (f := fun k => meridianref04_Right.l0 k l b ((0 : Nat) : Int)) (fun k => by simp only [meridianref04_Right.j0]; rfl) (ref_right_l0 l hl l.length 0 b (by omega))
  by_cases h : (l.length : Int) > 0
  · refine Ev.congr (fun k => if_pos h) (go _ ?_)
    apply decide_eq_decide.2
    constructor
    · rintro ⟨h1, h2⟩
      have h1 := of_decide_eq_true h1
      exact ⟨by omega, by omega, ((h2 0 (Nat.le_refl _) (by omega)).2 rfl).1, ((h2 0 (Nat.le_refl _) (by omega)).2 rfl).2, fun j hj => (h2 j (Nat.zero_le _) hj).1⟩
    · intro g
      have := g.most
      exact ⟨decide_eq_true (by omega), fun j _ hj => ⟨g.all j hj, fun _ => ⟨g.cut0, g.forced0⟩⟩⟩
  · refine Ev.congr (fun k => if_neg h) (go _ ?_)
    rw [decide_eq_false (fun g => by cases g.1), decide_eq_false (fun g : RightP l => by have := g.one; omega)]

theorem ref_is_f (l : List S32) (hl : l.length ≤ 1000) (e i : Int) : Ev (fun k => meridianref04_Is.f k l e i) (decide (IsP l e i)) := by
  unfold meridianref04_Is.f
  have go : Ev (fun k => meridianref04_Is.j0 k l (decide (e = 0 ∧ i = 0)) e i) (decide (IsP l e i)) := by
    by_cases h0 : e = 0 ∧ i = 0
    · rw [decide_eq_true h0, decide_eq_true (show IsP l e i from Or.inl h0)]
      exact Ev.step (f := fun _ => some true) (fun k => by simp only [meridianref04_Is.j0]; rfl) (Ev.now _)
    rw [decide_eq_false h0]
    by_cases h1 : e < 1
    · rw [decide_eq_false (show ¬ IsP l e i from by rintro (h | h) <;> omega)]
      refine Ev.step (f := fun _ => some false) (fun k => ?_) (Ev.now _)
      simp only [meridianref04_Is.j0]; rw [if_neg (by decide), if_pos h1]
    by_cases h2 : e > (l.length : Int)
    · rw [decide_eq_false (show ¬ IsP l e i from by rintro (h | h) <;> omega)]
      refine Ev.step (f := fun _ => some false) (fun k => ?_) (Ev.now _)
      simp only [meridianref04_Is.j0]; rw [if_neg (by decide), if_neg h1, if_pos h2]
    by_cases h3 : i > 512
    · rw [decide_eq_false (show ¬ IsP l e i from by rintro (h | h) <;> omega)]
      refine Ev.step (f := fun _ => some false) (fun k => ?_) (Ev.now _)
      simp only [meridianref04_Is.j0]; rw [if_neg (by decide), if_neg h1, if_neg h2, if_pos h3]
    refine Ev.step (f := fun _ => some (decide (i > ct l (e - 1).toNat))) (fun k => ?_) ?_
    · simp only [meridianref04_Is.j0]
      rw [if_neg (by decide), if_neg h1, if_neg h2, if_neg h3, w64 (by omega) (by omega), if_pos (by omega), if_pos (by omega), rd_int l (by omega)]
      rfl
    · rw [show decide (IsP l e i) = decide (i > ct l (e - 1).toNat) from decide_eq_decide.2 ⟨by
        rintro (h | h)
        · exact absurd h h0
        · exact h.2.2.1, fun h => Or.inr ⟨by omega, by omega, h, by omega⟩⟩]
      exact Ev.now _
  by_cases h : e = 0
  · refine Ev.congr (f := fun k => meridianref04_Is.j0 k l (decide (e = 0 ∧ i = 0)) e i) (fun k => ?_) go
    rw [if_pos h]
    congr 1
    by_cases hi : i = 0
    · rw [decide_eq_true ⟨h, hi⟩]; simp [hi]
    · rw [decide_eq_false (fun g => hi g.2)]; simp [hi]
  · refine Ev.congr (f := fun k => meridianref04_Is.j0 k l (decide (e = 0 ∧ i = 0)) e i) (fun k => ?_) go
    rw [if_neg h, decide_eq_false (fun g => h g.1)]

/-- the branch, written out up to x epochs -/
structure BrR (l : List S32) (x : Nat) (out : List Int) : Prop where
  len : out.length = 513
  zero : out.getD 0 0 = 0
  at_ : ∀ k : Nat, 1 ≤ k → k ≤ 512 → AtR (l.take x) k (out.getD k 0)

theorem rd_natI (xs : List Int) (k : Nat) : rd xs (k : Int) = xs.getD k 0 := by unfold rd; rw [Int.toNat_natCast]

theorem branch_l1 (l : List S32) (x : Nat) (r : List Int) (hx : x < 1000) (d : Nat) : ∀ (t : Nat) (o : List Int), t + d = 513 → o.length = 513 →
    (∀ o' : List Int, o'.length = 513 → (∀ k : Nat, o'.getD k 0 = if t ≤ k ∧ k ≤ 512 then (x : Int) + 1 else o.getD k 0) → Ev (fun k => meridianref04_Branch.l0 k l o' ((x + 1 : Nat) : Int)) r) →
    Ev (fun k => meridianref04_Branch.l1 k l o (x : Int) (t : Int)) r := by
  induction d with
  | zero =>
    intro t o hd ho h
    refine Ev.step (fun k => ?_) (h o ho (fun k => by rw [if_neg (by omega)]))
    simp only [meridianref04_Branch.l1]
    rw [if_neg (by omega), w64 (by omega) (by omega)]
    rfl
  | succ d ih =>
    intro t o hd ho h
    refine Ev.step (fun k => ?_) (ih (t + 1) (o.set t ((x : Int) + 1)) (by omega) (by rw [List.length_set]; exact ho) (fun o' h1 h2 => h o' h1 (fun k => ?_)))
    · simp only [meridianref04_Branch.l1]
      rw [if_pos (by omega), if_pos (by omega), if_pos (by omega), w64 (by omega) (by omega), w64 (by omega) (by omega), Int.toNat_natCast]
      rfl
    · rw [h2 k]
      by_cases hk : t + 1 ≤ k ∧ k ≤ 512
      · rw [if_pos hk, if_pos (by omega)]
      · rw [if_neg hk]
        by_cases hk2 : k = t
        · subst hk2
          rw [if_pos (by omega), List.getD_eq_getElem?_getD, List.getElem?_set, if_pos rfl, if_pos (by omega)]
          rfl
        · rw [if_neg (by omega), List.getD_eq_getElem?_getD, List.getElem?_set, if_neg (fun h => hk2 h.symm), ← List.getD_eq_getElem?_getD]

theorem branch_l0 (l : List S32) (hr : RightP l) (d : Nat) : ∀ (x : Nat) (o : List Int), x + d = l.length → BrR l x o ∨ (x = 0 ∧ o.length = 513 ∧ ∀ k : Nat, o.getD k 0 = 0) →
    ∃ out, Ev (fun k => meridianref04_Branch.l0 k l o (x : Int)) out ∧ BrR l l.length out := by
  have hm := hr.most
  induction d with
  | zero =>
    intro x o hd ho
    have h1 := hr.one
    rcases ho with ho | ho
    · obtain rfl : x = l.length := by omega
      refine ⟨o, Ev.step (f := fun _ => some o) (fun k => ?_) (Ev.now _), ho⟩
      simp only [meridianref04_Branch.l0]; rw [if_neg (by omega)]
    · omega
  | succ d ih =>
    intro x o hd ho
    have hc := hr.cuts x (by omega)
    have hlen : o.length = 513 := by rcases ho with ho | ho; exact ho.len; exact ho.2.1
    have h0 : o.getD 0 0 = 0 := by rcases ho with ho | ho; exact ho.zero; exact ho.2.2 0
    have key : ∀ o' : List Int, o'.length = 513 → (∀ k : Nat, o'.getD k 0 = if (ct l x + 1).toNat ≤ k ∧ k ≤ 512 then (x : Int) + 1 else o.getD k 0) → BrR l (x + 1) o' := by
      intro o' h1 h2
      refine ⟨h1, by rw [h2, if_neg (by omega)]; exact h0, fun k k1 k2 => ?_⟩
      have hl1 : (l.take (x + 1)).length = x + 1 := by rw [List.length_take]; omega
      rw [h2]
      by_cases hk : (ct l x + 1).toNat ≤ k ∧ k ≤ 512
      · rw [if_pos hk]
        refine ⟨by omega, by omega, ?_, fun j j1 j2 => by omega⟩
        rw [show ((x : Int) + 1 - 1).toNat = x from by omega, ct_take l _ x (by omega)]
        omega
      · rw [if_neg hk]
        rcases ho with ho | ⟨rfl, _, _⟩
        · have ha := ho.at_ k k1 k2
          have hl0 : (l.take x).length = x := by rw [List.length_take]; omega
          have g1 := ha.lo
          have g2 := ha.hi
          refine ⟨g1, by omega, ?_, fun j j1 j2 => ?_⟩
          · have := ha.cut
            rw [ct_take l _ _ (by omega)] at this ⊢
            exact this
          · by_cases hj : j = x
            · subst hj
              rw [ct_take l _ _ (by omega)]
              omega
            · have := ha.rest j j1 (by omega)
              rw [ct_take l _ _ (by omega)] at this ⊢
              exact this
        · have := hr.cut0; omega
    -- the row comes to the rest
    have hex : ∃ o' : List Int, o'.length = 513 ∧ ∀ k : Nat, o'.getD k 0 = if (ct l x + 1).toNat ≤ k ∧ k ≤ 512 then (x : Int) + 1 else o.getD k 0 := by
      refine ⟨(List.range 513).map (fun k => if (ct l x + 1).toNat ≤ k ∧ k ≤ 512 then (x : Int) + 1 else o.getD k 0), by simp, fun k => ?_⟩
      rw [List.getD_eq_getElem?_getD, List.getElem?_map]
      by_cases hk : k < 513
      · rw [List.getElem?_range hk]; rfl
      · rw [List.getElem?_eq_none (by simp; omega), if_neg (by omega), List.getD_eq_getElem?_getD, List.getElem?_eq_none (by omega)]; rfl
    obtain ⟨o', g1, g2⟩ := hex
    obtain ⟨out, e1, e2⟩ := ih (x + 1) o' (by omega) (Or.inl (key o' g1 g2))
    refine ⟨out, Ev.step (f := fun k => meridianref04_Branch.l1 k l o (x : Int) (((ct l x + 1).toNat : Nat) : Int)) (fun k => ?_) ?_, e2⟩
    · simp only [meridianref04_Branch.l0]
      rw [if_pos (by omega), if_pos (by omega), rd_nat]
      have hc' : 0 ≤ (el l x).f1 ∧ (el l x).f1 ≤ 512 := hc
      rw [w64 (by omega) (by omega)]
      rw [show (((ct l x + 1).toNat : Nat) : Int) = (el l x).f1 + 1 from by show ((((el l x).f1 + 1).toNat : Nat) : Int) = _; omega]
    · refine branch_l1 l x out (by omega) (513 - (ct l x + 1).toNat) _ o (by omega) hlen (fun o'' h1 h2 => ?_)
      have : o'' = o' := by
        apply List.ext_getElem? 
        intro k
        have a := h2 k
        have b := g2 k
        rw [← b] at a
        rw [List.getD_eq_getElem?_getD, List.getD_eq_getElem?_getD] at a
        by_cases hk : k < 513
        · rw [List.getElem?_eq_getElem (by omega), List.getElem?_eq_getElem (by omega)] at a ⊢
          exact congrArg some a
        · rw [List.getElem?_eq_none (by omega), List.getElem?_eq_none (by omega)]
      rw [this]
      exact e1

theorem branch_f (l : List S32) (hr : RightP l) : ∃ out, Ev (fun k => meridianref04_Branch.f k l) out ∧ BrR l l.length out := by
  obtain ⟨out, h1, h2⟩ := branch_l0 l hr l.length 0 (List.replicate 513 0) (by omega) (Or.inr ⟨rfl, List.length_replicate, fun k => by
    rw [List.getD_eq_getElem?_getD, List.getElem?_replicate]; split <;> rfl⟩)
  refine ⟨out, ?_, h2⟩
  unfold meridianref04_Branch.f
  refine Ev.congr (f := fun k => (meridianref04_Right.f k l).bind fun t158 => (if t158 = true then (meridianref04_Branch.l0 k l (List.replicate 513 0) 0) else (some (List.replicate 513 0)))) (fun k => rfl) ?_
  refine Ev.bind (ref_right_f l (by have := hr.most; omega)) ?_
  rw [decide_eq_true hr]
  exact Ev.congr (fun k => if_pos rfl) h1

theorem BrR.full {l : List S32} {out : List Int} (h : BrR l l.length out) (k : Nat) (h1 : 1 ≤ k) (h2 : k ≤ 512) : AtR l k (out.getD k 0) := by
  have := h.at_ k h1 h2
  rwa [List.take_length] at this

theorem ref_on_f (l : List S32) (hl : l.length ≤ 1000000000000000) (e i : Int) : Ev (fun k => meridianref04_On.f k l e i) (decide (OnP l e i)) := by
  unfold meridianref04_On.f
  refine Ev.bind (ref_right_f l hl) ?_
  by_cases hr : RightP l
  rotate_left
  · rw [decide_eq_false hr, decide_eq_false (fun g => hr g.1)]
    exact Ev.congr (f := fun k => some false) (fun k => rfl) (Ev.now _)
  rw [decide_eq_true hr]
  refine Ev.congr (fun k => if_pos rfl) ?_
  have hm := hr.most
  refine Ev.bind (ref_is_f l (by omega) e i) ?_
  by_cases hi : IsP l e i
  rotate_left
  · rw [decide_eq_false hi, decide_eq_false (fun g => hi g.2.1)]
    exact Ev.congr (f := fun k => some false) (fun k => rfl) (Ev.now _)
  rw [decide_eq_true hi]
  refine Ev.congr (fun k => if_pos rfl) ?_
  by_cases h0 : i = 0
  · have : OnP l e i := by
      rcases hi with h | h
      · rw [h.1, h.2]; exact onP_zero hr
      · have := hr.cuts (e - 1).toNat (by omega); omega
    rw [decide_eq_true this]
    exact Ev.congr (fun k => if_pos h0) (Ev.now _)
  refine Ev.congr (fun k => if_neg h0) ?_
  obtain ⟨out, b1, b2⟩ := branch_f l hr
  refine Ev.bind b1 ?_
  rcases hi with h | h
  · exact absurd h.2 h0
  have hp : 1 ≤ i := by have := hr.cuts (e - 1).toNat (by omega); omega
  have hlen := b2.len
  have hat := b2.full i.toNat (by omega) (by omega)
  rw [Int.toNat_of_nonneg (by omega)] at hat
  refine Ev.congr (f := fun k => some (out.getD i.toNat 0 == e)) (fun k => ?_) ?_
  · rw [if_pos (by omega), if_pos (by omega)]; rfl
  · rw [show decide (OnP l e i) = (out.getD i.toNat 0 == e) from ?_]
    · exact Ev.now _
    · by_cases he : out.getD i.toNat 0 = e
      · rw [he, beq_self_eq_true]
        rw [he] at hat
        exact decide_eq_true (onP_at hr hat h.2.2.2)
      · rw [beq_eq_false_iff_ne.2 he]
        refine decide_eq_false (fun ho => he ?_)
        rcases ho.cases with g | g
        · omega
        · exact hat.same g.1

theorem ref_at_no (l : List S32) (hl : l.length ≤ 1000000000000000) (i : Int) (h : ¬ (RightP l ∧ 1 ≤ i ∧ i ≤ 512)) : Ev (fun k => meridianref04_At.f k l i) (0, 0) := by
  unfold meridianref04_At.f
  refine Ev.bind (ref_right_f l hl) ?_
  by_cases hr : RightP l
  · rw [decide_eq_true hr]
    refine Ev.congr (f := fun k => some (0, 0)) (fun k => ?_) (Ev.now _)
    simp only
    rw [if_pos trivial]
    by_cases h1 : i < 1
    · rw [if_pos h1]
    · rw [if_neg h1, if_pos (by by_cases h2 : i ≤ 512; exact absurd ⟨hr, by omega, h2⟩ h; omega)]
  · rw [decide_eq_false hr]
    exact Ev.congr (f := fun k => some (0, 0)) (fun k => rfl) (Ev.now _)
theorem ref_at_f (l : List S32) (hr : RightP l) (i : Int) (h1 : 1 ≤ i) (h2 : i ≤ 512) : ∃ e, Ev (fun k => meridianref04_At.f k l i) (e, i) ∧ AtR l i e := by
  obtain ⟨out, b1, b2⟩ := branch_f l hr
  have hlen := b2.len
  have hat := b2.full i.toNat (by omega) (by omega)
  rw [Int.toNat_of_nonneg (by omega)] at hat
  refine ⟨_, ?_, hat⟩
  unfold meridianref04_At.f
  refine Ev.bind (ref_right_f l (by have := hr.most; omega)) ?_
  rw [decide_eq_true hr]
  refine Ev.congr (f := fun k => (meridianref04_Branch.f k l).bind fun t182 => (if 0 ≤ i then (if i < (t182.length : Int) then (some (rd t182 i, i)) else (none)) else (none))) (fun k => ?_) ?_
  · simp only; rw [if_pos trivial, if_neg (by omega), if_neg (by omega)]
  · refine Ev.bind b1 ?_
    refine Ev.congr (f := fun k => some (out.getD i.toNat 0, i)) (fun k => ?_) (Ev.now _)
    rw [if_pos (by omega), if_pos (by omega)]; rfl

/-- both tell the same -/
theorem at_both (l : List S32) (hl : l.length ≤ 1000000000000000) (i : Int) : ∃ r, Ev (fun k => pos_At.f k l i) r ∧ Ev (fun k => meridianref04_At.f k l i) r := by
  by_cases h : RightP l ∧ 1 ≤ i ∧ i ≤ 512
  · obtain ⟨e, a1, a2⟩ := at_f l h.1 i h.2.1 h.2.2
    obtain ⟨f, b1, b2⟩ := ref_at_f l h.1 i h.2.1 h.2.2
    obtain rfl := a2.same b2
    exact ⟨_, a1, b1⟩
  · exact ⟨_, at_f_no l i h, ref_at_no l hl i h⟩

theorem ref_covers_f (l : List S32) (hl : l.length ≤ 1000000000000000) (a b c d : Int) : Ev (fun k => meridianref04_Covers.f k l a b c d) (decide (OnP l a b ∧ OnP l c d ∧ d ≤ b)) := by
  unfold meridianref04_Covers.f
  refine Ev.bind (ref_on_f l hl a b) ?_
  by_cases h1 : OnP l a b
  · rw [decide_eq_true h1]
    refine Ev.congr (f := fun k => (meridianref04_On.f k l c d).bind fun t => if t = true then some (decide (b ≥ d)) else some false) (fun k => rfl) ?_
    refine Ev.bind (ref_on_f l hl c d) ?_
    by_cases h2 : OnP l c d
    · rw [decide_eq_true h2]
      refine Ev.congr (f := fun k => some (decide (b ≥ d))) (fun k => rfl) ?_
      rw [show decide (OnP l a b ∧ OnP l c d ∧ d ≤ b) = decide (b ≥ d) from decide_eq_decide.2 ⟨fun h => h.2.2, fun h => ⟨h1, h2, h⟩⟩]
      exact Ev.now _
    · rw [decide_eq_false h2, decide_eq_false (show ¬ (OnP l a b ∧ OnP l c d ∧ d ≤ b) from fun g => h2 g.2.1)]
      exact Ev.congr (f := fun k => some false) (fun k => rfl) (Ev.now _)
  · rw [decide_eq_false h1, decide_eq_false (show ¬ (OnP l a b ∧ OnP l c d ∧ d ≤ b) from fun g => h1 g.1)]
    exact Ev.congr (f := fun k => some false) (fun k => rfl) (Ev.now _)

theorem ref_cut_no (l : List S32) (hl : l.length ≤ 1000000000000000) (e i : Int) (h : ¬ (RightP l ∧ IsP l e i)) : Ev (fun k => meridianref04_Cut.f k l e i) (0, false) := by
  unfold meridianref04_Cut.f
  refine Ev.bind (ref_right_f l hl) ?_
  have no : Ev (fun k => meridianref04_Cut.j0 k l true e i) (0, false) := Ev.step (f := fun _ => some (0, false)) (fun k => by simp only [meridianref04_Cut.j0]; rfl) (Ev.now _)
  by_cases hr : RightP l
  · rw [decide_eq_true hr]
    refine Ev.congr (fun k => if_pos rfl) ?_
    refine Ev.bind (ref_is_f l (by have := hr.most; omega) e i) ?_
    rw [decide_eq_false (fun g => h ⟨hr, g⟩)]
    exact no
  · rw [decide_eq_false hr]
    exact Ev.congr (f := fun k => meridianref04_Cut.j0 k l true e i) (fun k => rfl) no

theorem branch_own (l : List S32) (hr : RightP l) (n : Nat) (h1 : 1 ≤ n) (h2 : n ≤ l.length) : ∃ out, Ev (fun k => meridianref04_Branch.f k (l.take n)) out ∧ BrR l n out := by
  obtain ⟨out, b1, b2⟩ := branch_f _ (hr.take n h1 h2)
  refine ⟨out, b1, b2.len, b2.zero, fun k k1 k2 => ?_⟩
  exact b2.full k k1 k2

theorem ref_cut_l0 (l : List S32) (hr : RightP l) (e i : Int) (h1 : 1 ≤ e) (h2 : e ≤ l.length) (h3 : ct l (e - 1).toNat < i) (h4 : i ≤ 512) (d : Nat) : ∀ n : Nat, e ≤ n → n + d = l.length + 1 → (∀ j : Nat, e ≤ j → (j : Int) < n - 1 → i ≤ ct l j) →
    ∃ m fb, Ev (fun k => meridianref04_Cut.l0 k l (n : Int) e i) (m, fb) ∧ CutR l e i m fb := by
  have hm := hr.most
  have hp : 1 ≤ i := by have := hr.cuts (e - 1).toNat (by omega); omega
  induction d with
  | zero =>
    intro n hn hd hb
    refine ⟨0, false, Ev.step (f := fun k => meridianref04_Cut.j2 k l (n : Int) false e i) (fun k => ?_) (Ev.step (f := fun _ => some (0, false)) (fun k => ?_) (Ev.now _)), ⟨Or.inl ⟨rfl, rfl, fun j j1 j2 => hb j j1 (by omega)⟩⟩⟩
    · simp only [meridianref04_Cut.l0]; rw [if_neg (by omega)]
    · simp only [meridianref04_Cut.j2]; rw [if_neg (by decide)]
  | succ d ih =>
    intro n hn hd hb
    obtain ⟨out, b1, b2⟩ := branch_own l hr n (by omega) (by omega)
    have hlen := b2.len
    have hat := b2.at_ i.toNat (by omega) (by omega)
    rw [Int.toNat_of_nonneg (by omega)] at hat
    have hl0 : (l.take n).length = n := by rw [List.length_take]; omega
    have start : ∀ m fb, Ev (fun k => if out.getD i.toNat 0 = e then meridianref04_Cut.l0 k l ((n + 1 : Nat) : Int) e i else some ((n : Int), (el l (n - 1)).f2)) (m, fb) → Ev (fun k => meridianref04_Cut.l0 k l (n : Int) e i) (m, fb) := by
      intro m fb h
      refine Ev.step (f := fun k => meridianref04_Cut.j2 k l (n : Int) true e i) (fun k => ?_) ?_
      · simp only [meridianref04_Cut.l0]; rw [if_pos (by omega), decide_eq_true (by omega)]
      · refine Ev.step (fun k => by simp only [meridianref04_Cut.j2]; rw [if_pos trivial, if_pos (by omega), if_pos (by omega), Int.toNat_natCast]) (Ev.bind b1 ?_)
        refine Ev.congr (fun k => ?_) h
        rw [if_pos (by omega), if_pos (by omega), show rd out i = out.getD i.toNat 0 from rfl, w64 (x := (n : Int) + 1) (by omega) (by omega), w64 (x := (n : Int) - 1) (by omega) (by omega)]
        by_cases he : out.getD i.toNat 0 = e
        · rw [if_pos he, if_pos he]; rfl
        · rw [if_neg he, if_neg he, if_pos (by omega), if_pos (by omega), rd_int l (by omega), show ((n : Int) - 1).toNat = n - 1 from by omega]
    by_cases hcut : e < n ∧ ct l (n - 1) < i
    · have hne : out.getD i.toNat 0 ≠ e := by
        intro he
        rw [he] at hat
        have := hat.rest (n - 1) (by omega) (by omega)
        rw [ct_take l n _ (by omega)] at this
        omega
      refine ⟨n, (el l (n - 1)).f2, start _ _ ?_, ⟨Or.inr ⟨hcut.1, by omega, ?_, ?_, hb⟩⟩⟩
      · exact Ev.congr (fun k => if_neg hne) (Ev.now _)
      · rw [show ((n : Int) - 1).toNat = n - 1 from by omega]; exact hcut.2
      · rw [show ((n : Int) - 1).toNat = n - 1 from by omega]
    · have hrest : ∀ j : Nat, e ≤ j → j < n → i ≤ ct l j := by
        intro j j1 j2
        by_cases hj : j = n - 1
        · subst hj; rcases Int.lt_or_le (ct l (n - 1)) i with g | g
          · exact absurd ⟨by omega, g⟩ hcut
          · exact g
        · exact hb j j1 (by omega)
      have heq : out.getD i.toNat 0 = e := by
        refine hat.same ⟨h1, by omega, ?_, fun j j1 j2 => ?_⟩
        · rw [ct_take l n _ (by omega)]; exact h3
        · rw [ct_take l n _ (by omega)]; exact hrest j j1 (by omega)
      obtain ⟨m, fb, g1, g2⟩ := ih (n + 1) (by omega) (by omega) (fun j j1 j2 => hrest j j1 (by omega))
      exact ⟨m, fb, start _ _ (Ev.congr (fun k => if_pos heq) g1), g2⟩

theorem ref_cut_f (l : List S32) (hr : RightP l) (e i : Int) (hi : IsP l e i) : ∃ n fb, Ev (fun k => meridianref04_Cut.f k l e i) (n, fb) ∧ CutR l e i n fb := by
  have hm := hr.most
  have start : ∀ r, Ev (fun k => meridianref04_Cut.l0 k l e e i) r → Ev (fun k => meridianref04_Cut.f k l e i) r := by
    intro r h
    unfold meridianref04_Cut.f
    refine Ev.bind (ref_right_f l (by omega)) ?_
    rw [decide_eq_true hr]
    refine Ev.congr (fun k => if_pos rfl) ?_
    refine Ev.bind (ref_is_f l (by omega) e i) ?_
    rw [decide_eq_true hi]
    refine Ev.step (fun k => ?_) h
    simp only [meridianref04_Cut.j0]
    exact if_neg (by decide)
  rcases hi with ⟨rfl, rfl⟩ | hi
  · refine ⟨0, false, start _ ?_, ⟨Or.inl ⟨rfl, rfl, fun j _ hj => (hr.cuts j hj).1⟩⟩⟩
    refine Ev.step (f := fun k => meridianref04_Cut.j2 k l 0 false 0 0) (fun k => ?_) (Ev.step (f := fun _ => some (0, false)) (fun k => ?_) (Ev.now _))
    · simp only [meridianref04_Cut.l0]; rw [if_pos (by omega), decide_eq_false (by omega)]
    · simp only [meridianref04_Cut.j2]; rw [if_neg (by decide)]
  · obtain ⟨n, fb, g1, g2⟩ := ref_cut_l0 l hr e i hi.1 hi.2.1 hi.2.2.1 hi.2.2.2 (l.length + 1 - e.toNat) e.toNat (by omega) (by omega) (fun j j1 j2 => by omega)
    rw [Int.toNat_of_nonneg (by omega)] at g1
    exact ⟨n, fb, start _ g1, g2⟩

theorem cut_both (l : List S32) (hl : l.length ≤ 1000000000000000) (e i : Int) : ∃ r, Ev (fun k => pos_Cut.f k l e i) r ∧ Ev (fun k => meridianref04_Cut.f k l e i) r := by
  by_cases h : RightP l ∧ IsP l e i
  · obtain ⟨n, fb, a1, a2⟩ := cut_f l h.1 e i h.2
    obtain ⟨m, gb, b1, b2⟩ := ref_cut_f l h.1 e i h.2
    obtain ⟨rfl, rfl⟩ := a2.same h.2.nonneg.1 b2
    exact ⟨_, a1, b1⟩
  · exact ⟨_, cut_f_no l e i h, ref_cut_no l hl e i h⟩

theorem ref_base_no (l : List S32) (hl : l.length ≤ 1000000000000000) (e i : Int) (h : ¬ (RightP l ∧ IsP l e i)) : Ev (fun k => meridianref04_Base.f k l e i) (0, 0) := by
  unfold meridianref04_Base.f
  refine Ev.bind (ref_right_f l hl) ?_
  have no : Ev (fun k => meridianref04_Base.j0 k l true e i) (0, 0) := Ev.step (f := fun _ => some (0, 0)) (fun k => by simp only [meridianref04_Base.j0]; rfl) (Ev.now _)
  by_cases hr : RightP l
  · rw [decide_eq_true hr]
    refine Ev.congr (fun k => if_pos rfl) ?_
    refine Ev.bind (ref_is_f l (by have := hr.most; omega) e i) ?_
    rw [decide_eq_false (fun g => h ⟨hr, g⟩)]
    exact Ev.congr (fun k => if_neg (by decide)) no
  · rw [decide_eq_false hr]
    exact Ev.congr (f := fun k => meridianref04_Base.j0 k l true e i) (fun k => rfl) no

theorem ref_base_l0 (l : List S32) (hr : RightP l) (e i : Int) (h1 : 1 ≤ e) (h2 : e ≤ l.length) (h4 : i ≤ 512) (own all : List Int) (ho : BrR l e.toNat own) (ha : BrR l l.length all) (d : Nat) : ∀ x : Nat, (x : Int) + d = i → (∀ j : Nat, e ≤ j → j < l.length → x ≤ ct l j) →
    ∃ be bi, Ev (fun k => meridianref04_Base.l0 k l own all (x : Int) e i) (be, bi) ∧ BaseR l e i be bi := by
  have hm := hr.most
  have fin : ∀ (x : Nat), (x : Int) ≤ i → (∀ j : Nat, e ≤ j → j < l.length → x ≤ ct l j) → ((x : Int) = i ∨ ∃ j : Nat, e ≤ j ∧ j < l.length ∧ (x : Int) = ct l j) →
      ∃ be bi, Ev (fun k => meridianref04_At.f k l (x : Int)) (be, bi) ∧ BaseR l e i be bi := by
    intro x g1 g2 g3
    by_cases h0 : x = 0
    · subst h0
      exact ⟨0, 0, ref_at_no l (by omega) 0 (by omega), g1, g2, g3, Or.inl ⟨rfl, rfl⟩⟩
    · obtain ⟨be, a1, a2⟩ := ref_at_f l hr x (by omega) (by omega)
      exact ⟨be, x, a1, g1, g2, g3, Or.inr ⟨by omega, by omega, a2⟩⟩
  have hl1 := ho.len
  have hl2 := ha.len
  induction d with
  | zero =>
    intro x hd hb
    obtain ⟨be, bi, g1, g2⟩ := fin x (by omega) hb (Or.inl (by omega))
    refine ⟨be, bi, Ev.step (f := fun k => (meridianref04_At.f k l (x : Int)).bind fun bt => some (bt.1, bt.2)) (fun k => ?_) (Ev.bind g1 (Ev.now _)), g2⟩
    simp only [meridianref04_Base.l0]; rw [if_neg (by omega)]
  | succ d ih =>
    intro x hd hb
    have hw : wrap64 ((x : Int) + 1) = ((x + 1 : Nat) : Int) := by rw [w64 (by omega) (by omega)]; omega
    have o1 := ho.at_ (x + 1) (by omega) (by omega)
    have a1 := ha.full (x + 1) (by omega) (by omega)
    have hl0 : (l.take e.toNat).length = e.toNat := by rw [List.length_take]; omega
    by_cases hall : ∀ j : Nat, e ≤ j → j < l.length → ((x + 1 : Nat) : Int) ≤ ct l j
    · have heq : own.getD (x + 1) 0 = all.getD (x + 1) 0 := by
        refine AtR.same ⟨o1.lo, by have := o1.hi; omega, ?_, fun j j1 j2 => ?_⟩ a1
        · have := o1.cut
          rw [ct_take l _ _ (by have := o1.lo; have := o1.hi; omega)] at this
          exact this
        · by_cases hj : e ≤ j
          · exact hall j hj j2
          · have := o1.rest j j1 (by omega)
            rw [ct_take l _ _ (by omega)] at this
            exact this
      obtain ⟨be, bi, g1, g2⟩ := ih (x + 1) (by omega) hall
      refine ⟨be, bi, Ev.step (fun k => ?_) g1, g2⟩
      simp only [meridianref04_Base.l0]
      rw [if_pos (by omega), hw, if_pos (by omega), if_pos (by omega), if_pos (by omega), rd_natI, rd_natI, if_pos heq]
    · have hne : own.getD (x + 1) 0 ≠ all.getD (x + 1) 0 := by
        intro heq
        apply hall
        intro j j1 j2
        refine a1.rest j ?_ j2
        rw [← heq]
        have := o1.hi
        omega
      obtain ⟨j, hj⟩ := Classical.not_forall.1 hall
      obtain ⟨j1, hj⟩ := Classical.not_imp.1 hj
      obtain ⟨j2, hj⟩ := Classical.not_imp.1 hj
      obtain ⟨be, bi, g1, g2⟩ := fin x (by omega) hb (Or.inr ⟨j, j1, j2, by have := hb j j1 j2; omega⟩)
      refine ⟨be, bi, Ev.step (f := fun k => (meridianref04_At.f k l (x : Int)).bind fun bt => some (bt.1, bt.2)) (fun k => ?_) (Ev.bind g1 (Ev.now _)), g2⟩
      simp only [meridianref04_Base.l0]
      rw [if_pos (by omega), hw, if_pos (by omega), if_pos (by omega), if_pos (by omega), rd_natI, rd_natI, if_neg hne]

theorem ref_base_f (l : List S32) (hr : RightP l) (e i : Int) (hi : IsP l e i) : ∃ be bi, Ev (fun k => meridianref04_Base.f k l e i) (be, bi) ∧ BaseR l e i be bi := by
  have hm := hr.most
  have start : ∀ r, Ev (fun k => meridianref04_Base.j0 k l (i == 0) e i) r → Ev (fun k => meridianref04_Base.f k l e i) r := by
    intro r h
    unfold meridianref04_Base.f
    refine Ev.bind (ref_right_f l (by omega)) ?_
    rw [decide_eq_true hr]
    refine Ev.congr (fun k => if_pos rfl) ?_
    refine Ev.bind (ref_is_f l (by omega) e i) ?_
    rw [decide_eq_true hi]
    exact Ev.congr (fun k => if_pos rfl) h
  rcases hi with ⟨rfl, rfl⟩ | hi
  · refine ⟨0, 0, start _ ?_, ⟨Int.le_refl _, fun j _ hj => (hr.cuts j hj).1, Or.inl rfl, Or.inl ⟨rfl, rfl⟩⟩⟩
    exact Ev.step (f := fun _ => some (0, 0)) (fun k => by simp only [meridianref04_Base.j0]; rfl) (Ev.now _)
  · have hp : 1 ≤ i := by have := hr.cuts (e - 1).toNat (by omega); omega
    obtain ⟨own, o1, o2⟩ := branch_own l hr e.toNat (by omega) (by omega)
    obtain ⟨all, a1, a2⟩ := branch_f l hr
    obtain ⟨be, bi, g1, g2⟩ := ref_base_l0 l hr e i hi.1 hi.2.1 hi.2.2.2 own all o2 a2 i.toNat 0 (by omega) (fun j _ hj => (hr.cuts j hj).1)
    refine ⟨be, bi, start _ ?_, g2⟩
    refine Ev.step (fun k => by simp only [meridianref04_Base.j0]; rw [if_neg (by simp; omega), if_pos (by omega), if_pos (by omega)]) ?_
    refine Ev.bind o1 ?_
    refine Ev.bind a1 ?_
    exact g1

theorem base_both (l : List S32) (hl : l.length ≤ 1000000000000000) (e i : Int) : ∃ r, Ev (fun k => pos_Base.f k l e i) r ∧ Ev (fun k => meridianref04_Base.f k l e i) r := by
  by_cases h : RightP l ∧ IsP l e i
  · obtain ⟨be, bi, a1, a2⟩ := base_f l h.1 e i h.2
    obtain ⟨ce, ci, b1, b2⟩ := ref_base_f l h.1 e i h.2
    obtain ⟨rfl, rfl⟩ := a2.same b2
    exact ⟨_, a1, b1⟩
  · exact ⟨_, base_f_no l e i h, ref_base_no l hl e i h⟩
end Go.Proofs.Ytlakicaemkgejaa.PAll
