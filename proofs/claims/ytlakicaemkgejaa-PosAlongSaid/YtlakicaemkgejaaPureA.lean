/- Plain laws of tables of epochs: what Right, is, Cut, On, At and Base come to. -/
import Derived.Test.YtlakicaemkgejaaPAllx4
namespace Go.Proofs.Ytlakicaemkgejaa.PAll
open Go.RowKit Go.Proofs.YtlakicaemkgejaaW.PrintWords Go.Proofs.YtlakicaemkgejaaW.PrintLast Go.Proofs.YtlakicaemkgejaaW.PrintMore
set_option linter.unusedVariables false
set_option linter.unusedSimpArgs false


open Classical
/-! plain words on tables -/
def el (l : List S32) (j : Nat) : S32 := l.getD j z32
def ct (l : List S32) (j : Nat) : Int := (el l j).f1
def OkE (e : S32) : Prop := 1 ≤ e.f0 ∧ e.f0 ≤ 4 ∧ 0 ≤ e.f1 ∧ e.f1 ≤ 512
instance (e : S32) : Decidable (OkE e) := by unfold OkE; infer_instance
structure RightP (l : List S32) : Prop where
  one : 1 ≤ l.length
  most : l.length ≤ 64
  cut0 : ct l 0 = 0
  forced0 : (el l 0).f2 = false
  all : ∀ j, j < l.length → OkE (el l j)

theorem w64 {x : Int} (h : -9223372036854775808 ≤ x) (h2 : x ≤ 9223372036854775807) : wrap64 x = x := by unfold wrap64; omega
theorem rd_nat (l : List S32) (j : Nat) : rd_T32 l (j : Int) = el l j := by unfold rd_T32 el; rw [Int.toNat_natCast]
theorem rd_int (l : List S32) {x : Int} (h : 0 ≤ x) : rd_T32 l x = el l x.toNat := rfl

theorem right_l0 (l : List S32) (hl : l.length ≤ 1000) (d : Nat) : ∀ i : Nat, i + d = l.length →
    Ev (fun k => pos_Right.l0 k l (l.length : Int) (i : Int)) (decide (∀ j, i ≤ j → j < l.length → OkE (el l j))) := by
  induction d with
  | zero =>
    intro i hi
    refine Ev.step (f := fun _ => some true) (fun k => ?_) ?_
    · simp only [pos_Right.l0]; rw [if_neg (by omega)]
    · rw [decide_eq_true (by intro j; omega)]; exact Ev.now _
  | succ d ih =>
    intro i hi
    have h1 : (i : Int) < (l.length : Int) := by omega
    by_cases hok : OkE (el l i)
    · have e : decide (∀ j, i ≤ j → j < l.length → OkE (el l j)) = decide (∀ j, i + 1 ≤ j → j < l.length → OkE (el l j)) := by
        apply decide_eq_decide.2
        constructor
        · intro h j hj; exact h j (by omega)
        · intro h j hj hj2
          by_cases e : j = i
          · rw [e]; exact hok
          · exact h j (by omega) hj2
      rw [e]
      refine Ev.step (fun k => ?_) (ih (i + 1) (by omega))
      obtain ⟨o1, o2, o3, o4⟩ := hok
      simp only [pos_Right.l0]
      rw [if_pos h1, if_pos (by omega), if_pos h1, rd_nat, if_neg (by omega), if_neg (by omega), if_neg (by omega), if_neg (by omega), w64 (by omega) (by omega)]
      rfl
    · rw [decide_eq_false (by intro h; exact hok (h i (by omega) (by omega)))]
      refine Ev.step (f := fun _ => some false) (fun k => ?_) (Ev.now _)
      simp only [pos_Right.l0]
      rw [if_pos h1, if_pos (by omega), if_pos h1, rd_nat]
      unfold OkE at hok
      by_cases o1 : (el l i).f0 < 1
      · rw [if_pos o1]
      · rw [if_neg o1]
        by_cases o2 : (el l i).f0 > 4
        · rw [if_pos o2]
        · rw [if_neg o2]
          by_cases o3 : (el l i).f1 < 0
          · rw [if_pos o3]
          · rw [if_neg o3, if_pos (by omega)]

theorem right_f (l : List S32) : Ev (fun k => pos_Right.f k l) (decide (RightP l)) := by
  unfold pos_Right.f
  by_cases h1 : l.length < 1
  · rw [decide_eq_false (by intro h; exact absurd h.one (by omega))]
    refine Ev.congr (f := fun k => pos_Right.j0 k l true) (fun k => by rw [if_pos (by omega)]) ?_
    exact Ev.step (f := fun _ => some false) (fun k => by simp only [pos_Right.j0]; rfl) (Ev.now _)
  by_cases h2 : l.length > 64
  · rw [decide_eq_false (by intro h; exact absurd h.most (by omega))]
    refine Ev.congr (f := fun k => pos_Right.j0 k l true) (fun k => by rw [if_neg (by omega), if_pos (by omega)]) ?_
    exact Ev.step (f := fun _ => some false) (fun k => by simp only [pos_Right.j0]; rfl) (Ev.now _)
  have hz : rd_T32 l 0 = el l 0 := rfl
  by_cases h3 : ct l 0 = 0
  · have h3' : (el l 0).f1 = 0 := h3
    refine Ev.congr (f := fun k => pos_Right.j0 k l (el l 0).f2) (fun k => by rw [if_neg (by omega), if_neg (by omega), if_pos (by omega), hz, if_pos h3']) ?_
    cases hb : (el l 0).f2 with
    | true =>
      rw [decide_eq_false (by intro h; have := h.forced0; rw [hb] at this; cases this)]
      exact Ev.step (f := fun _ => some false) (fun k => by simp only [pos_Right.j0]; rfl) (Ev.now _)
    | false =>
      refine Ev.step (f := fun k => pos_Right.l0 k l (l.length : Int) ((0 : Nat) : Int)) (fun k => by simp only [pos_Right.j0]; rfl) ?_
      rw [show decide (RightP l) = decide (∀ j, 0 ≤ j → j < l.length → OkE (el l j)) from decide_eq_decide.2
        ⟨fun h j _ hj => h.all j hj, fun h => ⟨by omega, by omega, h3, hb, fun j hj => h j (Nat.zero_le _) hj⟩⟩]
      exact right_l0 l (by omega) l.length 0 (by omega)
  · have h3' : ¬ (el l 0).f1 = 0 := h3
    rw [decide_eq_false (by intro h; exact h3 h.cut0)]
    refine Ev.congr (f := fun k => pos_Right.j0 k l true) (fun k => by rw [if_neg (by omega), if_neg (by omega), if_pos (by omega), hz, if_neg h3']) ?_
    exact Ev.step (f := fun _ => some false) (fun k => by simp only [pos_Right.j0]; rfl) (Ev.now _)

def IsP (l : List S32) (e i : Int) : Prop := (e = 0 ∧ i = 0) ∨ (1 ≤ e ∧ e ≤ l.length ∧ ct l (e - 1).toNat < i ∧ i ≤ 512)

theorem is_f (l : List S32) (hl : l.length ≤ 1000) (e i : Int) : pos_is.f l e i = some (decide (IsP l e i)) := by
  unfold pos_is.f
  by_cases h0 : e = 0 ∧ i = 0
  · obtain ⟨rfl, rfl⟩ := h0
    rw [decide_eq_true (show IsP l 0 0 from Or.inl ⟨rfl, rfl⟩)]; rfl
  rw [if_neg (by simpa using h0)]
  by_cases h1 : e ≥ 1
  · rw [if_pos h1]
    by_cases h2 : e ≤ (l.length : Int)
    · rw [if_pos h2, w64 (by omega) (by omega), if_pos (by omega), if_pos (by omega), rd_int l (by omega)]
      by_cases h3 : i > (el l (e - 1).toNat).f1
      · rw [if_pos h3]
        refine congrArg some (decide_eq_decide.2 ⟨fun h4 => Or.inr ⟨h1, h2, h3, h4⟩, fun h => ?_⟩)
        rcases h with h | h
        · omega
        · exact h.2.2.2
      · rw [if_neg h3, decide_eq_false]
        rintro (h | h)
        · omega
        · exact h3 h.2.2.1
    · rw [if_neg h2, decide_eq_false]
      rintro (h | h)
      · omega
      · omega
  · rw [if_neg h1, decide_eq_false]
    rintro (h | h)
    · omega
    · omega

/-- what Cut comes to -/
structure CutR (l : List S32) (e i n : Int) (fb : Bool) : Prop where
  out : (n = 0 ∧ fb = false ∧ ∀ j : Nat, e ≤ j → j < l.length → i ≤ ct l j) ∨
    (e < n ∧ n ≤ l.length ∧ ct l (n - 1).toNat < i ∧ fb = (el l (n - 1).toNat).f2 ∧ ∀ j : Nat, e ≤ j → (j : Int) < n - 1 → i ≤ ct l j)

theorem CutR.same {l : List S32} {e i n m : Int} {a b : Bool} (h0 : 0 ≤ e) (h : CutR l e i n a) (h' : CutR l e i m b) : n = m ∧ a = b := by
  obtain ⟨h⟩ := h; obtain ⟨h'⟩ := h'
  rcases h with ⟨rfl, rfl, h⟩ | ⟨h1, h2, h3, rfl, h5⟩
  · rcases h' with ⟨rfl, rfl, h'⟩ | ⟨k1, k2, k3, rfl, k5⟩
    · exact ⟨rfl, rfl⟩
    · exact absurd (h (m - 1).toNat (by omega) (by omega)) (by omega)
  · rcases h' with ⟨rfl, rfl, h'⟩ | ⟨k1, k2, k3, rfl, k5⟩
    · exact absurd (h' (n - 1).toNat (by omega) (by omega)) (by omega)
    · have : n = m := by
        rcases Int.lt_trichotomy n m with g | g | g
        · exact absurd (k5 (n - 1).toNat (by omega) (by omega)) (by omega)
        · exact g
        · exact absurd (h5 (m - 1).toNat (by omega) (by omega)) (by omega)
      subst this
      exact ⟨rfl, rfl⟩

theorem cut_l0 (l : List S32) (hl : l.length ≤ 1000) (e i : Int) (he : 0 ≤ e) (d : Nat) : ∀ x : Nat, e ≤ x → x + d = l.length → (∀ j : Nat, e ≤ j → j < x → i ≤ ct l j) →
    ∃ n fb, Ev (fun k => pos_Cut.l0 k l 0 (x : Int) e i) (n, fb) ∧ CutR l e i n fb := by
  induction d with
  | zero =>
    intro x hx hd hb
    refine ⟨0, false, Ev.step (f := fun _ => some (0, false)) (fun k => ?_) (Ev.now _), ⟨Or.inl ⟨rfl, rfl, fun j h1 h2 => hb j h1 (by omega)⟩⟩⟩
    simp only [pos_Cut.l0]; rw [if_neg (by omega), if_neg (by omega)]
  | succ d ih =>
    intro x hx hd hb
    by_cases hc : ct l x < i
    · refine ⟨(x : Int) + 1, (el l x).f2, Ev.step (f := fun _ => some ((x : Int) + 1, (el l x).f2)) (fun k => ?_) (Ev.now _), ⟨Or.inr ⟨by omega, by omega, ?_, ?_, fun j h1 h2 => hb j h1 (by omega)⟩⟩⟩
      · have hc' : (el l x).f1 < i := hc
        simp only [pos_Cut.l0]
        rw [if_pos (by omega), if_pos (by omega), rd_nat, if_pos hc', w64 (x := (x : Int) + 1) (by omega) (by omega), if_pos (by omega), show (x : Int) + 1 - 1 = x from by omega, w64 (by omega) (by omega), if_pos (by omega), if_pos (by omega), rd_nat]
      · rw [show ((x : Int) + 1 - 1).toNat = x from by omega]; exact hc
      · rw [show ((x : Int) + 1 - 1).toNat = x from by omega]
    · obtain ⟨n, fb, h1, h2⟩ := ih (x + 1) (by omega) (by omega) (by
        intro j hj1 hj2
        by_cases e : j = x
        · rw [e]; omega
        · exact hb j hj1 (by omega))
      refine ⟨n, fb, Ev.step (fun k => ?_) h1, h2⟩
      have hc' : ¬ (el l x).f1 < i := hc
      simp only [pos_Cut.l0]
      rw [if_pos (by omega), if_pos (by omega), rd_nat, if_neg hc', w64 (by omega) (by omega)]
      rfl

theorem IsP.nonneg {l : List S32} {e i : Int} (h : IsP l e i) : 0 ≤ e ∧ e ≤ l.length := by rcases h with h | h <;> omega

theorem cut_f_no (l : List S32) (e i : Int) (h : ¬ (RightP l ∧ IsP l e i)) : Ev (fun k => pos_Cut.f k l e i) (0, false) := by
  unfold pos_Cut.f
  refine Ev.bind (right_f l) ?_
  by_cases hr : RightP l
  · rw [decide_eq_true hr]
    refine Ev.congr (f := fun k => pos_Cut.j0 k l 0 true e i) (fun k => ?_) ?_
    · simp only [if_true]
      rw [is_f l (by have := hr.most; omega), decide_eq_false (fun g => h ⟨hr, g⟩)]
      rfl
    · exact Ev.step (f := fun _ => some (0, false)) (fun k => by simp only [pos_Cut.j0]; rfl) (Ev.now _)
  · rw [decide_eq_false hr]
    refine Ev.congr (f := fun k => pos_Cut.j0 k l 0 true e i) (fun k => rfl) ?_
    exact Ev.step (f := fun _ => some (0, false)) (fun k => by simp only [pos_Cut.j0]; rfl) (Ev.now _)

theorem cut_f (l : List S32) (hr : RightP l) (e i : Int) (hi : IsP l e i) : ∃ n fb, Ev (fun k => pos_Cut.f k l e i) (n, fb) ∧ CutR l e i n fb := by
  have hm := hr.most
  obtain ⟨g0, g1⟩ := hi.nonneg
  obtain ⟨n, fb, h1, h2⟩ := cut_l0 l (by omega) e i g0 (l.length - e.toNat) e.toNat (by omega) (by omega) (by intro j; omega)
  refine ⟨n, fb, ?_, h2⟩
  unfold pos_Cut.f
  refine Ev.bind (right_f l) ?_
  rw [decide_eq_true hr]
  refine Ev.congr (f := fun k => pos_Cut.j0 k l 0 false e i) (fun k => ?_) ?_
  · simp only [if_true]
    rw [is_f l (by omega), decide_eq_true hi]
    rfl
  · refine Ev.step (fun k => ?_) h1
    simp only [pos_Cut.j0]
    rw [if_neg (by decide), show ((e.toNat : Nat) : Int) = e from by omega]

def OnP (l : List S32) (e i : Int) : Prop := RightP l ∧ IsP l e i ∧ ∀ j : Nat, e ≤ j → j < l.length → i ≤ ct l j

theorem on_f (l : List S32) (e i : Int) : Ev (fun k => pos_On.f k l e i) (decide (OnP l e i)) := by
  unfold pos_On.f
  refine Ev.bind (right_f l) ?_
  by_cases hr : RightP l
  · rw [decide_eq_true hr]
    have hm := hr.most
    by_cases hi : IsP l e i
    · obtain ⟨n, fb, h1, h2⟩ := cut_f l hr e i hi
      refine Ev.congr (f := fun k => (pos_Cut.f k l e i).bind fun bt => some (bt.1 == 0)) (fun k => ?_) ?_
      · simp only [if_true]
        rw [is_f l (by omega), decide_eq_true hi]
        rfl
      · refine Ev.bind h1 ?_
        have : ((n, fb).1 == (0 : Int)) = decide (OnP l e i) := by
          obtain ⟨h2⟩ := h2
          rcases h2 with ⟨rfl, rfl, h⟩ | ⟨k1, k2, k3, rfl, k5⟩
          · rw [decide_eq_true ⟨hr, hi, h⟩]; rfl
          · have g0 := hi.nonneg
            rw [decide_eq_false]
            · exact beq_eq_false_iff_ne.2 (by show n ≠ 0; omega)
            · rintro ⟨_, _, h⟩
              exact absurd (h (n - 1).toNat (by omega) (by omega)) (by omega)
        rw [← this]
        exact Ev.now _
    · refine Ev.congr (f := fun k => some false) (fun k => ?_) ?_
      · simp only [if_true]
        rw [is_f l (by omega), decide_eq_false hi]
        rfl
      · rw [decide_eq_false (fun g => hi g.2.1)]; exact Ev.now _
  · rw [decide_eq_false hr, decide_eq_false (fun g => hr g.1)]
    exact Ev.congr (f := fun k => some false) (fun k => rfl) (Ev.now _)

/-- the epoch of an index -/
structure AtR (l : List S32) (i e : Int) : Prop where
  lo : 1 ≤ e
  hi : e ≤ l.length
  cut : ct l (e - 1).toNat < i
  rest : ∀ j : Nat, e ≤ j → j < l.length → i ≤ ct l j

theorem AtR.same {l : List S32} {i e f : Int} (h : AtR l i e) (k : AtR l i f) : e = f := by
  rcases Int.lt_trichotomy e f with g | g | g
  · have := h.lo; have := k.hi
    exact absurd (h.rest (f - 1).toNat (by omega) (by omega)) (by have := k.cut; omega)
  · exact g
  · have := k.lo; have := h.hi
    exact absurd (k.rest (e - 1).toNat (by omega) (by omega)) (by have := h.cut; omega)

theorem at_l0 (l : List S32) (hl : l.length ≤ 1000) (i : Int) (h0 : ct l 0 < i) : ∀ x : Nat, x < l.length → (∀ j : Nat, x < j → j < l.length → i ≤ ct l j) →
    ∃ e, Ev (fun k => pos_At.l0 k l i (x : Int)) (e, i) ∧ AtR l i e := by
  intro x
  induction x with
  | zero =>
    intro hx hb
    refine ⟨1, Ev.step (f := fun _ => some (1, i)) (fun k => ?_) (Ev.now _), ⟨by omega, by omega, by exact h0, fun j h1 h2 => hb j (by omega) h2⟩⟩
    have h0' : (el l 0).f1 < i := h0
    simp only [pos_At.l0]
    rw [if_pos (by omega), if_pos (by omega), if_pos (by omega), rd_nat, if_pos h0', w64 (by omega) (by omega)]
    rfl
  | succ x ih =>
    intro hx hb
    by_cases hc : ct l (x + 1) < i
    · refine ⟨(x : Int) + 2, Ev.step (f := fun _ => some ((x : Int) + 2, i)) (fun k => ?_) (Ev.now _), ⟨by omega, by omega, ?_, fun j h1 h2 => hb j (by omega) h2⟩⟩
      · have hc' : (el l (x + 1)).f1 < i := hc
        simp only [pos_At.l0]
        rw [if_pos (by omega), if_pos (by omega), if_pos (by omega), rd_nat, if_pos hc', w64 (by omega) (by omega)]
        rw [show ((x + 1 : Nat) : Int) + 1 = (x : Int) + 2 from by omega]
      · rw [show ((x : Int) + 2 - 1).toNat = x + 1 from by omega]; exact hc
    · obtain ⟨e, h1, h2⟩ := ih (by omega) (by
        intro j hj1 hj2
        by_cases e : j = x + 1
        · rw [e]; omega
        · exact hb j (by omega) hj2)
      refine ⟨e, Ev.step (fun k => ?_) h1, h2⟩
      have hc' : ¬ (el l (x + 1)).f1 < i := hc
      simp only [pos_At.l0]
      rw [if_pos (by omega), if_pos (by omega), if_pos (by omega), rd_nat, if_neg hc', w64 (by omega) (by omega), show ((x + 1 : Nat) : Int) - 1 = (x : Int) from by omega]

theorem at_f (l : List S32) (hr : RightP l) (i : Int) (h1 : 1 ≤ i) (h2 : i ≤ 512) : ∃ e, Ev (fun k => pos_At.f k l i) (e, i) ∧ AtR l i e := by
  have hm := hr.most
  have ho := hr.one
  obtain ⟨e, g1, g2⟩ := at_l0 l (by omega) i (by rw [hr.cut0]; omega) (l.length - 1) (by omega) (by intro j; omega)
  refine ⟨e, ?_, g2⟩
  unfold pos_At.f
  refine Ev.bind (right_f l) ?_
  rw [decide_eq_true hr]
  refine Ev.congr (f := fun k => pos_At.j0 k l i false) (fun k => ?_) ?_
  · simp only [if_true]; rw [if_neg (by omega), decide_eq_false (by omega)]
  · refine Ev.step (fun k => ?_) g1
    simp only [pos_At.j0]
    rw [if_neg (by decide), w64 (by omega) (by omega), show ((l.length - 1 : Nat) : Int) = (l.length : Int) - 1 from by omega]

theorem at_f_no (l : List S32) (i : Int) (h : ¬ (RightP l ∧ 1 ≤ i ∧ i ≤ 512)) : Ev (fun k => pos_At.f k l i) (0, 0) := by
  unfold pos_At.f
  refine Ev.bind (right_f l) ?_
  refine Ev.congr (f := fun k => pos_At.j0 k l i true) (fun k => ?_) ?_
  · by_cases hr : RightP l
    · rw [decide_eq_true hr]
      simp only [if_true]
      by_cases h1 : i < 1
      · rw [if_pos h1]
      · rw [if_neg h1, decide_eq_true (by by_cases h2 : i ≤ 512; exact absurd ⟨hr, by omega, h2⟩ h; omega)]
    · rw [decide_eq_false hr]; rfl
  · exact Ev.step (f := fun _ => some (0, 0)) (fun k => by simp only [pos_At.j0]; rfl) (Ev.now _)


theorem RightP.cuts {l : List S32} (h : RightP l) (j : Nat) (hj : j < l.length) : 0 ≤ ct l j ∧ ct l j ≤ 512 := ⟨(h.all j hj).2.2.1, (h.all j hj).2.2.2⟩
theorem onP_zero {l : List S32} (h : RightP l) : OnP l 0 0 := ⟨h, Or.inl ⟨rfl, rfl⟩, fun j _ hj => (h.cuts j hj).1⟩
theorem onP_at {l : List S32} (h : RightP l) {i e : Int} (ha : AtR l i e) (hi : i ≤ 512) : OnP l e i := ⟨h, Or.inr ⟨ha.lo, ha.hi, ha.cut, hi⟩, ha.rest⟩
theorem AtR.pos {l : List S32} (h : RightP l) {i e : Int} (ha : AtR l i e) : 1 ≤ i := by
  have := h.cuts (e - 1).toNat (by have := ha.lo; have := ha.hi; omega)
  have := ha.cut
  omega
theorem OnP.cases {l : List S32} {e i : Int} (h : OnP l e i) : (e = 0 ∧ i = 0) ∨ (AtR l i e ∧ i ≤ 512) := by
  obtain ⟨hr, hi, hb⟩ := h
  rcases hi with hi | hi
  · exact Or.inl hi
  · exact Or.inr ⟨⟨hi.1, hi.2.1, hi.2.2.1, hb⟩, hi.2.2.2⟩

/-- whatever the number: At tells a position on the branch -/
theorem at_any (l : List S32) (h : RightP l) (i : Int) : ∃ qe qi, Ev (fun k => pos_At.f k l i) (qe, qi) ∧ OnP l qe qi ∧ (1 ≤ i → i ≤ 512 → qi = i ∧ AtR l i qe) := by
  by_cases hi : 1 ≤ i ∧ i ≤ 512
  · obtain ⟨e, h1, h2⟩ := at_f l h i hi.1 hi.2
    exact ⟨e, i, h1, onP_at h h2 hi.2, fun _ _ => ⟨rfl, h2⟩⟩
  · exact ⟨0, 0, at_f_no l i (fun g => hi g.2), onP_zero h, fun a b => absurd ⟨a, b⟩ hi⟩

def least (m : Int) : List S32 → Int
  | [] => m
  | e :: t => least (mn m e.f1) t
theorem least_le (y : List S32) : ∀ m, least m y ≤ m := by
  induction y with
  | nil => intro m; exact Int.le_refl _
  | cons e t ih => intro m; have := ih (mn m e.f1); unfold least; unfold mn at *; split at this <;> (split <;> omega)
theorem least_all (y : List S32) : ∀ m e, e ∈ y → least m y ≤ e.f1 := by
  induction y with
  | nil => intro m e h; cases h
  | cons a t ih =>
    intro m e h
    unfold least
    rcases List.mem_cons.1 h with rfl | h
    · have := least_le t (mn m e.f1); unfold mn at *; split at this <;> (split <;> omega)
    · exact ih _ e h
theorem least_is (y : List S32) : ∀ m, least m y = m ∨ ∃ e ∈ y, least m y = e.f1 := by
  induction y with
  | nil => intro m; exact Or.inl rfl
  | cons a t ih =>
    intro m
    unfold least
    rcases ih (mn m a.f1) with h | ⟨e, he, h⟩
    · rw [h]; unfold mn; split
      · exact Or.inr ⟨a, List.mem_cons_self, rfl⟩
      · exact Or.inl rfl
    · exact Or.inr ⟨e, List.mem_cons_of_mem _ he, h⟩

theorem base_l0 (l y : List S32) (hy : y.length ≤ 1000) (r : Int × Int) (d : Nat) : ∀ (i : Nat) (m : Int), i + d = y.length → Ev (fun k => pos_At.f k l (least m (y.drop i))) r →
    Ev (fun k => pos_Base.l0 k l m y (y.length : Int) (i : Int)) r := by
  induction d with
  | zero =>
    intro i m hi h
    refine Ev.step (f := fun k => (pos_At.f k l m).bind fun bt => some (bt.1, bt.2)) (fun k => ?_) ?_
    · simp only [pos_Base.l0]; rw [if_neg (by omega)]
    · rw [List.drop_eq_nil_of_le (by omega)] at h
      exact Ev.bind h (Ev.now _)
  | succ d ih =>
    intro i m hi h
    have hlt : i < y.length := by omega
    have e1 : y.drop i = el y i :: y.drop (i + 1) := by
      rw [List.drop_eq_getElem_cons hlt]
      unfold el
      rw [List.getD_eq_getElem?_getD, List.getElem?_eq_getElem hlt]
      rfl
    rw [e1] at h
    refine Ev.step (fun k => ?_) (ih (i + 1) (mn m (el y i).f1) (by omega) h)
    simp only [pos_Base.l0]
    rw [if_pos (by omega), if_pos (by omega), if_pos (by omega), rd_nat, w64 (by omega) (by omega)]
    rfl

structure BaseR (l : List S32) (e i be bi : Int) : Prop where
  le : bi ≤ i
  all : ∀ j : Nat, e ≤ j → j < l.length → bi ≤ ct l j
  is : bi = i ∨ ∃ j : Nat, e ≤ j ∧ j < l.length ∧ bi = ct l j
  at_ : (bi = 0 ∧ be = 0) ∨ (1 ≤ bi ∧ bi ≤ 512 ∧ AtR l bi be)

theorem BaseR.same {l : List S32} {e i be bi ce ci : Int} (h : BaseR l e i be bi) (k : BaseR l e i ce ci) : be = ce ∧ bi = ci := by
  have h1 : bi = ci := by
    have a1 : bi ≤ ci := by
      rcases k.is with k | ⟨j, j1, j2, k⟩
      · rw [k]; exact h.le
      · rw [k]; exact h.all j j1 j2
    have a2 : ci ≤ bi := by
      rcases h.is with k' | ⟨j, j1, j2, k'⟩
      · rw [k']; exact k.le
      · rw [k']; exact k.all j j1 j2
    omega
  subst h1
  refine ⟨?_, rfl⟩
  rcases h.at_ with ⟨h1, h2⟩ | ⟨h1, h2, h3⟩
  · rcases k.at_ with ⟨k1, k2⟩ | ⟨k1, k2, k3⟩
    · omega
    · omega
  · rcases k.at_ with ⟨k1, k2⟩ | ⟨k1, k2, k3⟩
    · omega
    · exact h3.same k3
theorem BaseR.on {l : List S32} (hr : RightP l) {e i be bi : Int} (h : BaseR l e i be bi) : OnP l be bi := by
  rcases h.at_ with ⟨h1, h2⟩ | ⟨h1, h2, h3⟩
  · subst h1 h2; exact onP_zero hr
  · exact onP_at hr h3 h2

theorem mem_drop_el {l : List S32} {n : Nat} {a : S32} : a ∈ l.drop n ↔ ∃ j, n ≤ j ∧ j < l.length ∧ a = el l j := by
  constructor
  · intro h
    obtain ⟨i, hi⟩ := List.mem_iff_getElem?.1 h
    rw [List.getElem?_drop] at hi
    obtain ⟨h1, h2⟩ := List.getElem?_eq_some_iff.1 hi
    refine ⟨n + i, by omega, h1, ?_⟩
    unfold el
    rw [List.getD_eq_getElem?_getD, hi]
    rfl
  · rintro ⟨j, h1, h2, rfl⟩
    refine List.mem_iff_getElem?.2 ⟨j - n, ?_⟩
    rw [List.getElem?_drop, show n + (j - n) = j from by omega]
    unfold el
    rw [List.getD_eq_getElem?_getD, List.getElem?_eq_getElem h2]
    rfl

theorem base_f (l : List S32) (hr : RightP l) (e i : Int) (hi : IsP l e i) : ∃ be bi, Ev (fun k => pos_Base.f k l e i) (be, bi) ∧ BaseR l e i be bi := by
  have hm := hr.most
  have hen := hi.nonneg
  have start : ∀ be bi, Ev (fun k => pos_Base.j0 k l (e == 0 && (i == 0)) e i) (be, bi) → Ev (fun k => pos_Base.f k l e i) (be, bi) := by
    intro be bi h
    unfold pos_Base.f
    refine Ev.bind (right_f l) ?_
    rw [decide_eq_true hr]
    refine Ev.congr (f := fun k => pos_Base.j0 k l (e == 0 && (i == 0)) e i) (fun k => ?_) h
    simp only [if_true]
    rw [is_f l (by omega), decide_eq_true hi]
    rfl
  rcases hi with ⟨rfl, rfl⟩ | hi
  · refine ⟨0, 0, start 0 0 ?_, ⟨Int.le_refl _, fun j _ hj => (hr.cuts j hj).1, Or.inl rfl, Or.inl ⟨rfl, rfl⟩⟩⟩
    exact Ev.step (f := fun _ => some (0, 0)) (fun k => by simp only [pos_Base.j0]; rfl) (Ev.now _)
  · have hpos : 1 ≤ i := by have := hr.cuts (e - 1).toNat (by omega); omega
    have h1 : least i (l.drop e.toNat) ≤ i := least_le _ _
    have h2 : ∀ j : Nat, e ≤ j → j < l.length → least i (l.drop e.toNat) ≤ ct l j := fun j j1 j2 => least_all _ _ _ (mem_drop_el.2 ⟨j, by omega, j2, rfl⟩)
    have h3 : least i (l.drop e.toNat) = i ∨ ∃ j : Nat, e ≤ j ∧ j < l.length ∧ least i (l.drop e.toNat) = ct l j := by
      rcases least_is (l.drop e.toNat) i with h | ⟨a, ha, h⟩
      · exact Or.inl h
      · obtain ⟨j, j1, j2, rfl⟩ := mem_drop_el.1 ha
        exact Or.inr ⟨j, by omega, j2, h⟩
    have h4 : 0 ≤ least i (l.drop e.toNat) := by
      rcases h3 with h | ⟨j, j1, j2, h⟩
      · omega
      · rw [h]; exact (hr.cuts j j2).1
    have go : ∀ r, Ev (fun k => pos_At.f k l (least i (l.drop e.toNat))) r → Ev (fun k => pos_Base.f k l e i) r := by
      intro r h
      obtain ⟨r1, r2⟩ := r
      refine start r1 r2 ?_
      refine Ev.step (f := fun k => pos_Base.l0 k l i (l.drop e.toNat) ((l.drop e.toNat).length : Int) ((0 : Nat) : Int)) (fun k => ?_) ?_
      · simp only [pos_Base.j0]
        rw [if_neg (by simp; omega), if_pos (by omega), if_pos (by omega)]
        rfl
      · exact base_l0 l (l.drop e.toNat) (by rw [List.length_drop]; omega) _ (l.drop e.toNat).length 0 i (by omega) h
    by_cases h0 : least i (l.drop e.toNat) = 0
    · refine ⟨0, 0, go _ ?_, ⟨by omega, fun j j1 j2 => by have := h2 j j1 j2; omega, ?_, Or.inl ⟨rfl, rfl⟩⟩⟩
      · rw [h0]; exact at_f_no l 0 (by omega)
      · rcases h3 with h | ⟨j, j1, j2, h⟩
        · omega
        · exact Or.inr ⟨j, j1, j2, by omega⟩
    · obtain ⟨be, g1, g2⟩ := at_f l hr (least i (l.drop e.toNat)) (by omega) (by omega)
      exact ⟨be, _, go _ g1, ⟨h1, h2, h3, Or.inr ⟨by omega, by omega, g2⟩⟩⟩

theorem base_f_no (l : List S32) (e i : Int) (h : ¬ (RightP l ∧ IsP l e i)) : Ev (fun k => pos_Base.f k l e i) (0, 0) := by
  unfold pos_Base.f
  refine Ev.bind (right_f l) ?_
  refine Ev.congr (f := fun k => pos_Base.j0 k l true e i) (fun k => ?_) ?_
  · by_cases hr : RightP l
    · rw [decide_eq_true hr]
      simp only [if_true]
      rw [is_f l (by have := hr.most; omega), decide_eq_false (fun g => h ⟨hr, g⟩)]
      rfl
    · rw [decide_eq_false hr]; rfl
  · exact Ev.step (f := fun _ => some (0, 0)) (fun k => by simp only [pos_Base.j0]; rfl) (Ev.now _)

theorem el_take (l : List S32) (n j : Nat) (h : j < n) : el (l.take n) j = el l j := by
  unfold el
  rw [List.getD_eq_getElem?_getD, List.getD_eq_getElem?_getD, List.getElem?_take, if_pos h]
theorem ct_take (l : List S32) (n j : Nat) (h : j < n) : ct (l.take n) j = ct l j := congrArg S32.f1 (el_take l n j h)
theorem RightP.take {l : List S32} (h : RightP l) (n : Nat) (h1 : 1 ≤ n) (h2 : n ≤ l.length) : RightP (l.take n) := by
  have hl : (l.take n).length = n := by rw [List.length_take]; omega
  exact ⟨by omega, by have := h.most; omega, by rw [ct_take l n 0 (by omega)]; exact h.cut0, by rw [el_take l n 0 (by omega)]; exact h.forced0, fun j hj => by rw [el_take l n j (by omega)]; exact h.all j (by omega)⟩
/-- on the branch of a beginning -/
theorem onP_take {l : List S32} (hr : RightP l) {e i : Int} (n : Nat) (h1 : 1 ≤ n) (h2 : n ≤ l.length) (he : e ≤ n) (hi : IsP l e i) (hb : ∀ j : Nat, e ≤ j → j < n → i ≤ ct l j) : OnP (l.take n) e i := by
  have hl : (l.take n).length = n := by rw [List.length_take]; omega
  refine ⟨hr.take n h1 h2, ?_, fun j j1 j2 => by rw [ct_take l n j (by omega)]; exact hb j j1 (by omega)⟩
  rcases hi with hi | hi
  · exact Or.inl hi
  · exact Or.inr ⟨hi.1, by omega, by rw [ct_take l n _ (by omega)]; exact hi.2.2.1, hi.2.2.2⟩

end Go.Proofs.Ytlakicaemkgejaa.PAll
