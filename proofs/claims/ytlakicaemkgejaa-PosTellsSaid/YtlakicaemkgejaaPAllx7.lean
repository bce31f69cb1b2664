-- Laid by a program of this session over the translation of this seat; Lean checks it.
import Derived.Test.YtlakicaemkgejaaPAllx0
namespace Go.Proofs.Ytlakicaemkgejaa.PAll
open Go.RowKit Go.Proofs.YtlakicaemkgejaaW.PrintWords Go.Proofs.YtlakicaemkgejaaW.PrintLast Go.Proofs.YtlakicaemkgejaaW.PrintMore
attribute [local go_sem] max2_int min2_int max_two min_two max_three min_three max_four min_four   -- for this text's walks alone
set_option linter.unusedVariables false
set_option linter.unusedSimpArgs false

/-! ### meridianref04_Copy: function 15 -/
def meridianref04_Copy.f (l0 : List (S32)) : Option ((List (S32))) := (some (([] : List (S32)) : List (S32))).bind fun y177 => (if y177.length + l0.length < 5864062014805 then (some (y177 ++ l0)) else (none))
set_option maxHeartbeats 8000000 in
set_option maxRecDepth 100000 in
theorem meridianref04_Copy.calls (A0 : Option Addr) (c0 : Nat) (l0 : List (S32)) (r : List (S32)) (w : World) (hr0 : Kd.C k32 w A0 l0.length l0) (hc0 : l0.length ≤ c0) (h : meridianref04_Copy.f l0 = some r) :
    Calls Try.prog 15 #[.slice A0 l0.length c0] w fun e w' => ∃ v0_ : Value, e = .returned (v0_) ∧ Kd.R k32 32 w' w.heap.size (fun _ => True) v0_ r ∧ Below w.heap.size w w' := by
  have HR0 := Aside0.mk hr0
  have HC0 := Aside0.mk hc0
  clear hr0 hc0
  have HB := Aside0.mk (Below.refl w.heap.size w)
  have H : ((some (([] : List (S32)) : List (S32))).bind fun y177 => (if y177.length + l0.length < 5864062014805 then (some (y177 ++ l0)) else (none))) = some r := h
  clear h
  obtain ⟨y177, hy177⟩ : ∃ y_ : List (S32), y_ = (([] : List (S32))) := ⟨_, rfl⟩
  replace H : (if y177.length + l0.length < 5864062014805 then (some (y177 ++ l0)) else (none)) = some r := by first | (rw [hy177]; with_reducible exact H) | (have H2_ := (Option.bind_some _ _).symm.trans H; rw [hy177]; with_reducible exact H2_) | (have H2_ := (Option.bind_some _ _).symm.trans H; with_reducible exact H2_) | with_reducible exact H | (rw [hy177]; exact H) | exact H
  have Ny177 := Aside0.mk hy177
  clear hy177
  by_cases c2 : y177.length + l0.length < 5864062014805
  · rw [if_pos c2] at H
    have LMc2 := Aside0.mk c2
    clear c2
    obtain ⟨y180, hy180⟩ : ∃ y_ : List (S32), y_ = (y177 ++ l0) := ⟨_, rfl⟩
    replace H : (some y180) = some r := by first | (rw [hy180]; with_reducible exact H) | (have H2_ := (Option.bind_some _ _).symm.trans H; rw [hy180]; with_reducible exact H2_) | (have H2_ := (Option.bind_some _ _).symm.trans H; with_reducible exact H2_) | with_reducible exact H | (rw [hy180]; exact H) | exact H
    have Ny180 := Aside0.mk hy180
    clear hy180
    obtain rfl := Option.some.inj H
    go_enter Try.func15, Try.ntmps15
    go_wp2_with (first | ((with_reducible refine gate_dst (N := 3) rfl ?_); refine Kd.R_lit k32 _ 32 ?hg (N := 3) ?hd (xs := ([] : List (S32))) (inner := []) (ok := fun _ => True) (okp := fun _ => True) ?hr ?hp (fun _ hk => hk) trivial (Below.refl _ _) (Nat.le_refl _) (by simp) ?_; (case hd => rfl); (case hg => rfl); (case hr => first | (go_simp; done) | (go_simp; rfl)); (case hp => exact (Reps.none _ _)); intro v178 w3 ho4 hb hg_ hnew_; clear hg_ hnew_; (first | rw [← Ny177.out] at ho4 | (simp only [Int.reduceToNat] at ho4; rw [← Ny177.out] at ho4)); have n0_ := Aside0.mk (Kd.R_lower ho4 (below_size (by repeat (first | (with_reducible first | exact HB.out | apply below_alloc | apply pw_below_drewN | apply below_drew1) | exact HB.out)))); have n1_ := Aside0.mk (below_step (by repeat (first | (with_reducible first | exact HB.out | apply below_alloc | apply pw_below_drewN | apply below_drew1) | exact HB.out)) hb); clear HB; have HO179 := n0_; have HB := n1_; clear n0_ n1_; clear hb ho4) | ((with_reducible refine gate_builtin (b := .append) (xs := #[.tmp 3, .tmp 4]) rfl ?_); at_builtin; refine Kd.R_append_rows k32 (w0 := w) w.heap.size rfl (.tmp 3) (.tmp 4) 22 32 (.agg #[(.int .i64 0), (.int .i64 0), (.bool false)]) 24 rfl Try.underlying22 info32 rfl (by decide) (by omega) v178 y177 l0 _ _ _ (fun _ => True) (fun _ => False) rfl rfl ?aO ?aR (fun _ _ h => h) (fun _ h => h.elim) ?aF ?aB ?aS ?aL ?_; (case aR => repeat (first | exact (Kd.C_below HR0.out HB.out) | (with_reducible refine Kd.C_alloc ?_ _) | (with_reducible refine Kd.C_drewN ?_ _) | (with_reducible refine Kd.C_drew ?_))); (case aB => exact (by repeat (first | (with_reducible first | exact HB.out | apply below_alloc | apply pw_below_drewN | apply below_drew1) | exact HB.out))); (case aF => exact (fun _ _ => trivial)); (case aO => exact (by (with_reducible repeat (first | apply Kd.R_alloc | apply Kd.R_drewN | apply Kd.R_drew)); exact HO179.out)); (case aS => exact (below_size (by repeat (first | (with_reducible first | exact HB.out | apply below_alloc | apply pw_below_drewN | apply below_drew1) | exact HB.out)))); (case aL => have := LMc2.out; omega); intro v181 w5 ho hb hg hat; rw [← Ny180.out] at ho; have n0_ := Aside0.mk (hb); have n1_ := Aside0.mk (ho); clear HB; clear HO179; have HB := n0_; have HO182 := n1_; clear n0_ n1_; clear ho hb hg hat))
    go_ret
    exact ⟨_, by first | rfl | (simp [errW_none, errW_some] <;> rfl) | (simp [*, errW_none, errW_some] <;> rfl), by (with_reducible repeat (first | apply Kd.R_alloc | apply Kd.R_drewN | apply Kd.R_drew)); exact HO182.out, by repeat (first | (with_reducible first | exact HB.out | apply below_alloc | apply pw_below_drewN | apply below_drew1) | exact HB.out)⟩
  · rw [if_neg c2] at H
    exact absurd H (by simp)

/-! ### meridianref04_Right: function 17 -/
mutual
def meridianref04_Right.j0 : Nat → List (S32) → Bool → Option (Bool)
  | 0, _, _ => none
  | k + 1, x0, x3 => meridianref04_Right.l0 k x0 x3 0
def meridianref04_Right.l0 : Nat → List (S32) → Bool → Int → Option (Bool)
  | 0, _, _, _ => none
  | k + 1, x0, x3, x4 => if x4 < (x0.length : Int) then (if 0 ≤ x4 then (if x3 = true then (if ((rd_T32 x0 x4).f0) > 0 then (if ((rd_T32 x0 x4).f0) < 5 then (if ((rd_T32 x0 x4).f1) ≥ 0 then (if ((rd_T32 x0 x4).f1) ≤ 512 then (if x4 > 0 then (meridianref04_Right.l0 k x0 true (wrap64 (x4 + 1))) else (if ((rd_T32 x0 x4).f1) = 0 then (meridianref04_Right.l0 k x0 (!((rd_T32 x0 x4).f2)) (wrap64 (x4 + 1))) else (meridianref04_Right.l0 k x0 false (wrap64 (x4 + 1))))) else (meridianref04_Right.l0 k x0 false (wrap64 (x4 + 1)))) else (meridianref04_Right.l0 k x0 false (wrap64 (x4 + 1)))) else (meridianref04_Right.l0 k x0 false (wrap64 (x4 + 1)))) else (meridianref04_Right.l0 k x0 false (wrap64 (x4 + 1)))) else (meridianref04_Right.l0 k x0 false (wrap64 (x4 + 1)))) else (none)) else (some x3)
end
def meridianref04_Right.f (k : Nat) (l0 : List (S32)) : Option (Bool) := if (l0.length : Int) > 0 then (meridianref04_Right.j0 k l0 (decide ((l0.length : Int) ≤ 64))) else (meridianref04_Right.j0 k l0 false)
theorem meridianref04_Right.mono_l : ∀ k, (∀ y0 y1, LeO (meridianref04_Right.j0 k y0 y1) (meridianref04_Right.j0 (k + 1) y0 y1)) ∧ (∀ y0 y1 y2, LeO (meridianref04_Right.l0 k y0 y1 y2) (meridianref04_Right.l0 (k + 1) y0 y1 y2))
  | 0 => ⟨fun _ _ r h => by simp [meridianref04_Right.j0] at h, fun _ _ _ r h => by simp [meridianref04_Right.l0] at h⟩
  | k + 1 => by
    obtain ⟨ih0, ih1⟩ := meridianref04_Right.mono_l k
    refine ⟨?_, ?_⟩
    · intro y0 y1
      unfold meridianref04_Right.j0
      repeat' first
      | (with_reducible exact ih0 _ _)
      | (with_reducible exact ih1 _ _ _)
      | (with_reducible exact LeO.refl _)
      | (with_reducible exact LeO.none _)
      | (with_reducible refine LeO.ite ?_ ?_)
      | (with_reducible refine LeO.bind ?_ (fun _ => ?_))
      | exact ih0 _ _
      | exact ih1 _ _ _
      | exact LeO.none _
      | refine LeO.ite ?_ ?_
      | refine LeO.bind ?_ (fun _ => ?_)
    · intro y0 y1 y2
      unfold meridianref04_Right.l0
      repeat' first
      | (with_reducible exact ih0 _ _)
      | (with_reducible exact ih1 _ _ _)
      | (with_reducible exact LeO.refl _)
      | (with_reducible exact LeO.none _)
      | (with_reducible refine LeO.ite ?_ ?_)
      | (with_reducible refine LeO.bind ?_ (fun _ => ?_))
      | exact ih0 _ _
      | exact ih1 _ _ _
      | exact LeO.none _
      | refine LeO.ite ?_ ?_
      | refine LeO.bind ?_ (fun _ => ?_)
theorem meridianref04_Right.mono : ∀ a0 k, LeO (meridianref04_Right.f k a0) (meridianref04_Right.f (k + 1) a0) := by
  intro a0 k
  obtain ⟨ih0, ih1⟩ := meridianref04_Right.mono_l k
  unfold meridianref04_Right.f
  repeat' first
      | (with_reducible exact ih0 _ _)
      | (with_reducible exact ih1 _ _ _)
      | (with_reducible exact LeO.refl _)
      | (with_reducible exact LeO.none _)
      | (with_reducible refine LeO.ite ?_ ?_)
      | (with_reducible refine LeO.bind ?_ (fun _ => ?_))
      | exact ih0 _ _
      | exact ih1 _ _ _
      | exact LeO.none _
      | refine LeO.ite ?_ ?_
      | refine LeO.bind ?_ (fun _ => ?_)
set_option maxHeartbeats 8000000 in
set_option maxRecDepth 100000 in
theorem meridianref04_Right.calls (k : Nat) (A0 : Option Addr) (c0 : Nat) (l0 : List (S32)) (r : Bool) (w : World) (hr0 : Kd.C k32 w A0 l0.length l0) (hc0 : l0.length ≤ c0) (h : meridianref04_Right.f k l0 = some r) :
    Calls Try.prog 17 #[.slice A0 l0.length c0] w fun e w' => e = .returned (.bool r) ∧ Below w.heap.size w w' := by
  have hu32 := Try.underlying32
  have HR0 := Aside0.mk hr0
  have HC0 := Aside0.mk hc0
  clear hr0 hc0
  have HB := Aside0.mk (Below.refl w.heap.size w)
  have H : (if (l0.length : Int) > 0 then (meridianref04_Right.j0 k l0 (decide ((l0.length : Int) ≤ 64))) else (meridianref04_Right.j0 k l0 false)) = some r := h
  clear h
  have HC2 := Aside0.mk H
  clear H
  go_enter Try.func17, Try.ntmps17
  go_upto_region 1 with (fail)
  go_cut [3] (fun v3 wc => ∃ (kq : Nat) (x3_1 : Bool), v3 = .bool x3_1 ∧ Aside0 (meridianref04_Right.j0 kq l0 x3_1 = some r) ∧ Aside0 (kq ≤ k) ∧ Aside0 (Below w.heap.size w wc))
  case first =>
    have H := HC2.out
    clear HC2
    by_cases c3 : (l0.length : Int) > 0
    · rw [if_pos c3] at H
      have c3b0 : decide (0 < (l0.length : Int)) = true := decide_eq_true c3
      have c3b1 : decide (0 < l0.length) = true := decide_eq_true (by omega)
      clear c3
      (first | rw [c3b0] | (simp only [i64_w, i32_w]; rw [c3b0]) | skip)
      have H' := Aside0.mk H
      clear H
      go_wp2
      go_meet
      case rel => exact ⟨_, (decide ((l0.length : Int) ≤ 64)), (by first | rfl | (simp; done) | (simp [*]; done)), H', ⟨by first | omega | exact Nat.le_refl _⟩, ⟨by repeat (first | (with_reducible first | exact HB.out | apply below_alloc | apply pw_below_drewN | apply below_drew1) | exact HB.out)⟩⟩
    · rw [if_neg c3] at H
      have c3b0 : decide (0 < (l0.length : Int)) = false := decide_eq_false c3
      have c3b1 : decide (0 < l0.length) = false := decide_eq_false (by omega)
      clear c3
      (first | rw [c3b0] | (simp only [i64_w, i32_w]; rw [c3b0]) | skip)
      have H' := Aside0.mk H
      clear H
      go_wp2
      go_meet
      case rel => exact ⟨_, (false), (by first | rfl | (simp; done) | (simp [*]; done)), H', ⟨by first | omega | exact Nat.le_refl _⟩, ⟨by repeat (first | (with_reducible first | exact HB.out | apply below_alloc | apply pw_below_drewN | apply below_drew1) | exact HB.out)⟩⟩
  case rest =>
    clear HC2
    try clear c1
    try clear p2
    try clear c3
    try clear c3b0
    try clear c3b1
    obtain ⟨kq, x3_1, rfl, HA, HJ1, HB⟩ := hcut
    cases kq with
    | zero => exact absurd HA.out (by simp [meridianref04_Right.j0])
    | succ kj1 =>
      have H := HA.out
      clear HA
      simp only [meridianref04_Right.j0] at H
      have H' := Aside0.mk H
      clear H
      go_wp2
      go_loopg [3, 4] kj1 (fun kq v3 v4 w' => ∃ (x3_2 : Bool) (x4_2 : Int), v3 = .bool x3_2 ∧ v4 = .int .i64 x4_2 ∧ Aside0 (meridianref04_Right.l0 kq l0 x3_2 x4_2 = some r) ∧ Aside0 (kq ≤ kj1) ∧ Aside0 (Below w.heap.size w w'))
      case atStart => exact ⟨(x3_1), (0), (by first | rfl | (simp; done) | (simp [*]; done)), (by first | rfl | (simp; done) | (simp [*]; done)), H', ⟨Nat.le_refl _⟩, ⟨by repeat (first | (with_reducible first | exact HB.out | apply below_alloc | apply pw_below_drewN | apply below_drew1) | exact HB.out)⟩⟩
      case round =>
        clear H'
        try clear c1
        try clear p2
        try clear c3
        try clear c3b0
        try clear c3b1
        try clear p2
        obtain ⟨x3_2, x4_2, rfl, rfl, HA, HK2, HB⟩ := hrel
        cases gk with
        | zero => exact absurd HA.out (by simp [meridianref04_Right.l0])
        | succ k2 =>
          have H := HA.out
          clear HA
          simp only [meridianref04_Right.l0] at H
          by_cases c4 : x4_2 < (l0.length : Int)
          · rw [if_pos c4] at H
            have c4b0 : decide (x4_2 < (l0.length : Int)) = true := decide_eq_true c4
            clear c4
            by_cases c5 : 0 ≤ x4_2
            · rw [if_pos c5] at H
              have c5b0 : decide (0 ≤ x4_2) = true := decide_eq_true c5
              clear c5
              by_cases c6 : x3_2 = true
              · subst c6
                have H1 : (if ((rd_T32 l0 x4_2).f0) > 0 then (if ((rd_T32 l0 x4_2).f0) < 5 then (if ((rd_T32 l0 x4_2).f1) ≥ 0 then (if ((rd_T32 l0 x4_2).f1) ≤ 512 then (if x4_2 > 0 then (meridianref04_Right.l0 k2 l0 true (wrap64 (x4_2 + 1))) else (if ((rd_T32 l0 x4_2).f1) = 0 then (meridianref04_Right.l0 k2 l0 (!((rd_T32 l0 x4_2).f2)) (wrap64 (x4_2 + 1))) else (meridianref04_Right.l0 k2 l0 false (wrap64 (x4_2 + 1))))) else (meridianref04_Right.l0 k2 l0 false (wrap64 (x4_2 + 1)))) else (meridianref04_Right.l0 k2 l0 false (wrap64 (x4_2 + 1)))) else (meridianref04_Right.l0 k2 l0 false (wrap64 (x4_2 + 1)))) else (meridianref04_Right.l0 k2 l0 false (wrap64 (x4_2 + 1)))) = some r := by rw [if_pos rfl] at H; exact H
                clear H
                have H := H1
                clear H1
                by_cases c7 : ((rd_T32 l0 x4_2).f0) > 0
                · rw [if_pos c7] at H
                  have c7b0 : decide (0 < ((rd_T32 l0 x4_2).f0)) = true := decide_eq_true c7
                  clear c7
                  by_cases c8 : ((rd_T32 l0 x4_2).f0) < 5
                  · rw [if_pos c8] at H
                    have c8b0 : decide (((rd_T32 l0 x4_2).f0) < 5) = true := decide_eq_true c8
                    clear c8
                    by_cases c9 : ((rd_T32 l0 x4_2).f1) ≥ 0
                    · rw [if_pos c9] at H
                      have c9b0 : decide (0 ≤ ((rd_T32 l0 x4_2).f1)) = true := decide_eq_true c9
                      clear c9
                      by_cases c10 : ((rd_T32 l0 x4_2).f1) ≤ 512
                      · rw [if_pos c10] at H
                        have c10b0 : decide (((rd_T32 l0 x4_2).f1) ≤ 512) = true := decide_eq_true c10
                        clear c10
                        by_cases c11 : x4_2 > 0
                        · rw [if_pos c11] at H
                          have c11b0 : decide (0 < x4_2) = true := decide_eq_true c11
                          clear c11
                          have H' := Aside0.mk H
                          clear H
                          have p183 : 0 ≤ (x4_2 : Int) := of_decide_eq_true (by first | (with_reducible assumption) | assumption)
                          have q183 : x4_2 < (l0.length : Int) := of_decide_eq_true (by first | (with_reducible assumption) | assumption)
                          obtain ⟨ad183, e183, hx183_0, hx183_1, hx183_2⟩ := at_T32 HR0.out x4_2 p183 q183
                          cases e183
                          replace hx183_0 := (HB.out.cell (World.block_lt_of_cell? w _ hx183_0)).trans hx183_0
                          replace hx183_1 := (HB.out.cell (World.block_lt_of_cell? w _ hx183_1)).trans hx183_1
                          replace hx183_2 := (HB.out.cell (World.block_lt_of_cell? w _ hx183_2)).trans hx183_2
                          replace p183 := eq_true p183
                          replace q183 := eq_true q183
                          go_wp2_with (first | ((with_reducible refine gate_dst (N := 5) rfl ?_); (try (refine gate_guard (by rfl) ?_; dsimp only)); refine box_event ?hg (N := 5) ?hd (cs := #[.int .i64 0, .int .i64 0, .bool false]) (t := 32) ?hr ?_; (case hd => rfl); (case hg => rfl); (case hr => first | (go_simp; done) | (go_simp; rfl)); intro gb184 hg w12 hbox hb; have n0_ := Aside0.mk (below_step (by repeat (first | (with_reducible first | exact HB.out | apply below_alloc | apply pw_below_drewN | apply below_drew1) | exact HB.out)) hb); have n1_ := Aside0.mk (hbox); have n2_ := Aside0.mk ((by rw [hg]; exact (below_size (by repeat (first | (with_reducible first | exact HB.out | apply below_alloc | apply pw_below_drewN | apply below_drew1) | exact HB.out))) : w.heap.size ≤ gb184)); have n3_ := Aside0.mk ((by rw [hg]; exact (below_size (by repeat (first | (with_reducible first | exact HB.out | apply below_alloc | apply pw_below_drewN | apply below_drew1) | exact HB.out))) : w.heap.size ≤ gb184)); clear HB; have HB := n0_; have BK184 := n1_; have GW184 := n2_; have GE184 := n3_; clear n0_ n1_ n2_ n3_; clear hb hbox hg; have hcz13_0 : w12.cell? ⟨gb184, 0, none⟩ = some (.int .i64 0) := (blk_cell BK184.out 0).trans rfl; have hcz13_1 : w12.cell? ⟨gb184, 1, none⟩ = some (.int .i64 0) := (blk_cell BK184.out 1).trans rfl; have hcz13_2 : w12.cell? ⟨gb184, 2, none⟩ = some (.bool false) := (blk_cell BK184.out 2).trans rfl; have hfz13_0 := blk_frozen BK184.out 0; have hfz13_1 := blk_frozen BK184.out 1; have hfz13_2 := blk_frozen BK184.out 2))
                          go_roundg k2
                          case measure => have := HJ1.out; have := HK2.out; omega
                          case rel => exact ⟨(true), (wrap64 (x4_2 + 1)), (by first | rfl | (simp; done) | (simp [*]; done)), (by first | rfl | (simp; done) | (simp [*]; done)), H', ⟨by have := HJ1.out; have := HK2.out; omega⟩, ⟨by repeat (first | (with_reducible first | exact HB.out | apply below_alloc | apply pw_below_drewN | apply below_drew1 | refine below_set ?_ GE184.out) | exact HB.out)⟩⟩
                        · rw [if_neg c11] at H
                          have c11b0 : decide (0 < x4_2) = false := decide_eq_false c11
                          clear c11
                          by_cases c14 : ((rd_T32 l0 x4_2).f1) = 0
                          · rw [if_pos c14] at H
                            have c14b0 : (((rd_T32 l0 x4_2).f1) == 0) = true := beq_iff_eq.mpr c14
                            have c14b1 : (((rd_T32 l0 x4_2).f1) != 0) = false := bne_eq_false_iff_eq.mpr c14
                            clear c14
                            have H' := Aside0.mk H
                            clear H
                            have p183 : 0 ≤ (x4_2 : Int) := of_decide_eq_true (by first | (with_reducible assumption) | assumption)
                            have q183 : x4_2 < (l0.length : Int) := of_decide_eq_true (by first | (with_reducible assumption) | assumption)
                            obtain ⟨ad183, e183, hx183_0, hx183_1, hx183_2⟩ := at_T32 HR0.out x4_2 p183 q183
                            cases e183
                            replace hx183_0 := (HB.out.cell (World.block_lt_of_cell? w _ hx183_0)).trans hx183_0
                            replace hx183_1 := (HB.out.cell (World.block_lt_of_cell? w _ hx183_1)).trans hx183_1
                            replace hx183_2 := (HB.out.cell (World.block_lt_of_cell? w _ hx183_2)).trans hx183_2
                            replace p183 := eq_true p183
                            replace q183 := eq_true q183
                            go_wp2_with (first | ((with_reducible refine gate_dst (N := 5) rfl ?_); (try (refine gate_guard (by rfl) ?_; dsimp only)); refine box_event ?hg (N := 5) ?hd (cs := #[.int .i64 0, .int .i64 0, .bool false]) (t := 32) ?hr ?_; (case hd => rfl); (case hg => rfl); (case hr => first | (go_simp; done) | (go_simp; rfl)); intro gb184 hg w15 hbox hb; have n0_ := Aside0.mk (below_step (by repeat (first | (with_reducible first | exact HB.out | apply below_alloc | apply pw_below_drewN | apply below_drew1) | exact HB.out)) hb); have n1_ := Aside0.mk (hbox); have n2_ := Aside0.mk ((by rw [hg]; exact (below_size (by repeat (first | (with_reducible first | exact HB.out | apply below_alloc | apply pw_below_drewN | apply below_drew1) | exact HB.out))) : w.heap.size ≤ gb184)); have n3_ := Aside0.mk ((by rw [hg]; exact (below_size (by repeat (first | (with_reducible first | exact HB.out | apply below_alloc | apply pw_below_drewN | apply below_drew1) | exact HB.out))) : w.heap.size ≤ gb184)); clear HB; have HB := n0_; have BK184 := n1_; have GW184 := n2_; have GE184 := n3_; clear n0_ n1_ n2_ n3_; clear hb hbox hg; have hcz16_0 : w15.cell? ⟨gb184, 0, none⟩ = some (.int .i64 0) := (blk_cell BK184.out 0).trans rfl; have hcz16_1 : w15.cell? ⟨gb184, 1, none⟩ = some (.int .i64 0) := (blk_cell BK184.out 1).trans rfl; have hcz16_2 : w15.cell? ⟨gb184, 2, none⟩ = some (.bool false) := (blk_cell BK184.out 2).trans rfl; have hfz16_0 := blk_frozen BK184.out 0; have hfz16_1 := blk_frozen BK184.out 1; have hfz16_2 := blk_frozen BK184.out 2))
                            go_roundg k2
                            case measure => have := HJ1.out; have := HK2.out; omega
                            case rel => exact ⟨(!((rd_T32 l0 x4_2).f2)), (wrap64 (x4_2 + 1)), (by first | rfl | (simp; done) | (simp [*]; done)), (by first | rfl | (simp; done) | (simp [*]; done)), H', ⟨by have := HJ1.out; have := HK2.out; omega⟩, ⟨by repeat (first | (with_reducible first | exact HB.out | apply below_alloc | apply pw_below_drewN | apply below_drew1 | refine below_set ?_ GE184.out) | exact HB.out)⟩⟩
                          · rw [if_neg c14] at H
                            have c14b0 : (((rd_T32 l0 x4_2).f1) == 0) = false := beq_eq_false_iff_ne.mpr c14
                            have c14b1 : (((rd_T32 l0 x4_2).f1) != 0) = true := bne_iff_ne.mpr c14
                            have H' := Aside0.mk H
                            clear H
                            have p183 : 0 ≤ (x4_2 : Int) := of_decide_eq_true (by first | (with_reducible assumption) | assumption)
                            have q183 : x4_2 < (l0.length : Int) := of_decide_eq_true (by first | (with_reducible assumption) | assumption)
                            obtain ⟨ad183, e183, hx183_0, hx183_1, hx183_2⟩ := at_T32 HR0.out x4_2 p183 q183
                            cases e183
                            replace hx183_0 := (HB.out.cell (World.block_lt_of_cell? w _ hx183_0)).trans hx183_0
                            replace hx183_1 := (HB.out.cell (World.block_lt_of_cell? w _ hx183_1)).trans hx183_1
                            replace hx183_2 := (HB.out.cell (World.block_lt_of_cell? w _ hx183_2)).trans hx183_2
                            replace p183 := eq_true p183
                            replace q183 := eq_true q183
                            go_wp2_with (first | ((with_reducible refine gate_dst (N := 5) rfl ?_); (try (refine gate_guard (by rfl) ?_; dsimp only)); refine box_event ?hg (N := 5) ?hd (cs := #[.int .i64 0, .int .i64 0, .bool false]) (t := 32) ?hr ?_; (case hd => rfl); (case hg => rfl); (case hr => first | (go_simp; done) | (go_simp; rfl)); intro gb184 hg w17 hbox hb; have n0_ := Aside0.mk (below_step (by repeat (first | (with_reducible first | exact HB.out | apply below_alloc | apply pw_below_drewN | apply below_drew1) | exact HB.out)) hb); have n1_ := Aside0.mk (hbox); have n2_ := Aside0.mk ((by rw [hg]; exact (below_size (by repeat (first | (with_reducible first | exact HB.out | apply below_alloc | apply pw_below_drewN | apply below_drew1) | exact HB.out))) : w.heap.size ≤ gb184)); have n3_ := Aside0.mk ((by rw [hg]; exact (below_size (by repeat (first | (with_reducible first | exact HB.out | apply below_alloc | apply pw_below_drewN | apply below_drew1) | exact HB.out))) : w.heap.size ≤ gb184)); clear HB; have HB := n0_; have BK184 := n1_; have GW184 := n2_; have GE184 := n3_; clear n0_ n1_ n2_ n3_; clear hb hbox hg; have hcz18_0 : w17.cell? ⟨gb184, 0, none⟩ = some (.int .i64 0) := (blk_cell BK184.out 0).trans rfl; have hcz18_1 : w17.cell? ⟨gb184, 1, none⟩ = some (.int .i64 0) := (blk_cell BK184.out 1).trans rfl; have hcz18_2 : w17.cell? ⟨gb184, 2, none⟩ = some (.bool false) := (blk_cell BK184.out 2).trans rfl; have hfz18_0 := blk_frozen BK184.out 0; have hfz18_1 := blk_frozen BK184.out 1; have hfz18_2 := blk_frozen BK184.out 2))
                            go_roundg k2
                            case measure => have := HJ1.out; have := HK2.out; omega
                            case rel => exact ⟨(false), (wrap64 (x4_2 + 1)), (by first | rfl | (simp; done) | (simp [*]; done)), (by first | rfl | (simp; done) | (simp [*]; done)), H', ⟨by have := HJ1.out; have := HK2.out; omega⟩, ⟨by repeat (first | (with_reducible first | exact HB.out | apply below_alloc | apply pw_below_drewN | apply below_drew1 | refine below_set ?_ GE184.out) | exact HB.out)⟩⟩
                      · rw [if_neg c10] at H
                        have c10b0 : decide (((rd_T32 l0 x4_2).f1) ≤ 512) = false := decide_eq_false c10
                        clear c10
                        have H' := Aside0.mk H
                        clear H
                        have p183 : 0 ≤ (x4_2 : Int) := of_decide_eq_true (by first | (with_reducible assumption) | assumption)
                        have q183 : x4_2 < (l0.length : Int) := of_decide_eq_true (by first | (with_reducible assumption) | assumption)
                        obtain ⟨ad183, e183, hx183_0, hx183_1, hx183_2⟩ := at_T32 HR0.out x4_2 p183 q183
                        cases e183
                        replace hx183_0 := (HB.out.cell (World.block_lt_of_cell? w _ hx183_0)).trans hx183_0
                        replace hx183_1 := (HB.out.cell (World.block_lt_of_cell? w _ hx183_1)).trans hx183_1
                        replace hx183_2 := (HB.out.cell (World.block_lt_of_cell? w _ hx183_2)).trans hx183_2
                        replace p183 := eq_true p183
                        replace q183 := eq_true q183
                        go_wp2_with (first | ((with_reducible refine gate_dst (N := 5) rfl ?_); (try (refine gate_guard (by rfl) ?_; dsimp only)); refine box_event ?hg (N := 5) ?hd (cs := #[.int .i64 0, .int .i64 0, .bool false]) (t := 32) ?hr ?_; (case hd => rfl); (case hg => rfl); (case hr => first | (go_simp; done) | (go_simp; rfl)); intro gb184 hg w19 hbox hb; have n0_ := Aside0.mk (below_step (by repeat (first | (with_reducible first | exact HB.out | apply below_alloc | apply pw_below_drewN | apply below_drew1) | exact HB.out)) hb); have n1_ := Aside0.mk (hbox); have n2_ := Aside0.mk ((by rw [hg]; exact (below_size (by repeat (first | (with_reducible first | exact HB.out | apply below_alloc | apply pw_below_drewN | apply below_drew1) | exact HB.out))) : w.heap.size ≤ gb184)); have n3_ := Aside0.mk ((by rw [hg]; exact (below_size (by repeat (first | (with_reducible first | exact HB.out | apply below_alloc | apply pw_below_drewN | apply below_drew1) | exact HB.out))) : w.heap.size ≤ gb184)); clear HB; have HB := n0_; have BK184 := n1_; have GW184 := n2_; have GE184 := n3_; clear n0_ n1_ n2_ n3_; clear hb hbox hg; have hcz20_0 : w19.cell? ⟨gb184, 0, none⟩ = some (.int .i64 0) := (blk_cell BK184.out 0).trans rfl; have hcz20_1 : w19.cell? ⟨gb184, 1, none⟩ = some (.int .i64 0) := (blk_cell BK184.out 1).trans rfl; have hcz20_2 : w19.cell? ⟨gb184, 2, none⟩ = some (.bool false) := (blk_cell BK184.out 2).trans rfl; have hfz20_0 := blk_frozen BK184.out 0; have hfz20_1 := blk_frozen BK184.out 1; have hfz20_2 := blk_frozen BK184.out 2))
                        go_roundg k2
                        case measure => have := HJ1.out; have := HK2.out; omega
                        case rel => exact ⟨(false), (wrap64 (x4_2 + 1)), (by first | rfl | (simp; done) | (simp [*]; done)), (by first | rfl | (simp; done) | (simp [*]; done)), H', ⟨by have := HJ1.out; have := HK2.out; omega⟩, ⟨by repeat (first | (with_reducible first | exact HB.out | apply below_alloc | apply pw_below_drewN | apply below_drew1 | refine below_set ?_ GE184.out) | exact HB.out)⟩⟩
                    · rw [if_neg c9] at H
                      have c9b0 : decide (0 ≤ ((rd_T32 l0 x4_2).f1)) = false := decide_eq_false c9
                      clear c9
                      have H' := Aside0.mk H
                      clear H
                      have p183 : 0 ≤ (x4_2 : Int) := of_decide_eq_true (by first | (with_reducible assumption) | assumption)
                      have q183 : x4_2 < (l0.length : Int) := of_decide_eq_true (by first | (with_reducible assumption) | assumption)
                      obtain ⟨ad183, e183, hx183_0, hx183_1, hx183_2⟩ := at_T32 HR0.out x4_2 p183 q183
                      cases e183
                      replace hx183_0 := (HB.out.cell (World.block_lt_of_cell? w _ hx183_0)).trans hx183_0
                      replace hx183_1 := (HB.out.cell (World.block_lt_of_cell? w _ hx183_1)).trans hx183_1
                      replace hx183_2 := (HB.out.cell (World.block_lt_of_cell? w _ hx183_2)).trans hx183_2
                      replace p183 := eq_true p183
                      replace q183 := eq_true q183
                      go_wp2_with (first | ((with_reducible refine gate_dst (N := 5) rfl ?_); (try (refine gate_guard (by rfl) ?_; dsimp only)); refine box_event ?hg (N := 5) ?hd (cs := #[.int .i64 0, .int .i64 0, .bool false]) (t := 32) ?hr ?_; (case hd => rfl); (case hg => rfl); (case hr => first | (go_simp; done) | (go_simp; rfl)); intro gb184 hg w21 hbox hb; have n0_ := Aside0.mk (below_step (by repeat (first | (with_reducible first | exact HB.out | apply below_alloc | apply pw_below_drewN | apply below_drew1) | exact HB.out)) hb); have n1_ := Aside0.mk (hbox); have n2_ := Aside0.mk ((by rw [hg]; exact (below_size (by repeat (first | (with_reducible first | exact HB.out | apply below_alloc | apply pw_below_drewN | apply below_drew1) | exact HB.out))) : w.heap.size ≤ gb184)); have n3_ := Aside0.mk ((by rw [hg]; exact (below_size (by repeat (first | (with_reducible first | exact HB.out | apply below_alloc | apply pw_below_drewN | apply below_drew1) | exact HB.out))) : w.heap.size ≤ gb184)); clear HB; have HB := n0_; have BK184 := n1_; have GW184 := n2_; have GE184 := n3_; clear n0_ n1_ n2_ n3_; clear hb hbox hg; have hcz22_0 : w21.cell? ⟨gb184, 0, none⟩ = some (.int .i64 0) := (blk_cell BK184.out 0).trans rfl; have hcz22_1 : w21.cell? ⟨gb184, 1, none⟩ = some (.int .i64 0) := (blk_cell BK184.out 1).trans rfl; have hcz22_2 : w21.cell? ⟨gb184, 2, none⟩ = some (.bool false) := (blk_cell BK184.out 2).trans rfl; have hfz22_0 := blk_frozen BK184.out 0; have hfz22_1 := blk_frozen BK184.out 1; have hfz22_2 := blk_frozen BK184.out 2))
                      go_roundg k2
                      case measure => have := HJ1.out; have := HK2.out; omega
                      case rel => exact ⟨(false), (wrap64 (x4_2 + 1)), (by first | rfl | (simp; done) | (simp [*]; done)), (by first | rfl | (simp; done) | (simp [*]; done)), H', ⟨by have := HJ1.out; have := HK2.out; omega⟩, ⟨by repeat (first | (with_reducible first | exact HB.out | apply below_alloc | apply pw_below_drewN | apply below_drew1 | refine below_set ?_ GE184.out) | exact HB.out)⟩⟩
                  · rw [if_neg c8] at H
                    have c8b0 : decide (((rd_T32 l0 x4_2).f0) < 5) = false := decide_eq_false c8
                    clear c8
                    have H' := Aside0.mk H
                    clear H
                    have p183 : 0 ≤ (x4_2 : Int) := of_decide_eq_true (by first | (with_reducible assumption) | assumption)
                    have q183 : x4_2 < (l0.length : Int) := of_decide_eq_true (by first | (with_reducible assumption) | assumption)
                    obtain ⟨ad183, e183, hx183_0, hx183_1, hx183_2⟩ := at_T32 HR0.out x4_2 p183 q183
                    cases e183
                    replace hx183_0 := (HB.out.cell (World.block_lt_of_cell? w _ hx183_0)).trans hx183_0
                    replace hx183_1 := (HB.out.cell (World.block_lt_of_cell? w _ hx183_1)).trans hx183_1
                    replace hx183_2 := (HB.out.cell (World.block_lt_of_cell? w _ hx183_2)).trans hx183_2
                    replace p183 := eq_true p183
                    replace q183 := eq_true q183
                    go_wp2_with (first | ((with_reducible refine gate_dst (N := 5) rfl ?_); (try (refine gate_guard (by rfl) ?_; dsimp only)); refine box_event ?hg (N := 5) ?hd (cs := #[.int .i64 0, .int .i64 0, .bool false]) (t := 32) ?hr ?_; (case hd => rfl); (case hg => rfl); (case hr => first | (go_simp; done) | (go_simp; rfl)); intro gb184 hg w23 hbox hb; have n0_ := Aside0.mk (below_step (by repeat (first | (with_reducible first | exact HB.out | apply below_alloc | apply pw_below_drewN | apply below_drew1) | exact HB.out)) hb); have n1_ := Aside0.mk (hbox); have n2_ := Aside0.mk ((by rw [hg]; exact (below_size (by repeat (first | (with_reducible first | exact HB.out | apply below_alloc | apply pw_below_drewN | apply below_drew1) | exact HB.out))) : w.heap.size ≤ gb184)); have n3_ := Aside0.mk ((by rw [hg]; exact (below_size (by repeat (first | (with_reducible first | exact HB.out | apply below_alloc | apply pw_below_drewN | apply below_drew1) | exact HB.out))) : w.heap.size ≤ gb184)); clear HB; have HB := n0_; have BK184 := n1_; have GW184 := n2_; have GE184 := n3_; clear n0_ n1_ n2_ n3_; clear hb hbox hg; have hcz24_0 : w23.cell? ⟨gb184, 0, none⟩ = some (.int .i64 0) := (blk_cell BK184.out 0).trans rfl; have hcz24_1 : w23.cell? ⟨gb184, 1, none⟩ = some (.int .i64 0) := (blk_cell BK184.out 1).trans rfl; have hcz24_2 : w23.cell? ⟨gb184, 2, none⟩ = some (.bool false) := (blk_cell BK184.out 2).trans rfl; have hfz24_0 := blk_frozen BK184.out 0; have hfz24_1 := blk_frozen BK184.out 1; have hfz24_2 := blk_frozen BK184.out 2))
                    go_roundg k2
                    case measure => have := HJ1.out; have := HK2.out; omega
                    case rel => exact ⟨(false), (wrap64 (x4_2 + 1)), (by first | rfl | (simp; done) | (simp [*]; done)), (by first | rfl | (simp; done) | (simp [*]; done)), H', ⟨by have := HJ1.out; have := HK2.out; omega⟩, ⟨by repeat (first | (with_reducible first | exact HB.out | apply below_alloc | apply pw_below_drewN | apply below_drew1 | refine below_set ?_ GE184.out) | exact HB.out)⟩⟩
                · rw [if_neg c7] at H
                  have c7b0 : decide (0 < ((rd_T32 l0 x4_2).f0)) = false := decide_eq_false c7
                  clear c7
                  have H' := Aside0.mk H
                  clear H
                  have p183 : 0 ≤ (x4_2 : Int) := of_decide_eq_true (by first | (with_reducible assumption) | assumption)
                  have q183 : x4_2 < (l0.length : Int) := of_decide_eq_true (by first | (with_reducible assumption) | assumption)
                  obtain ⟨ad183, e183, hx183_0, hx183_1, hx183_2⟩ := at_T32 HR0.out x4_2 p183 q183
                  cases e183
                  replace hx183_0 := (HB.out.cell (World.block_lt_of_cell? w _ hx183_0)).trans hx183_0
                  replace hx183_1 := (HB.out.cell (World.block_lt_of_cell? w _ hx183_1)).trans hx183_1
                  replace hx183_2 := (HB.out.cell (World.block_lt_of_cell? w _ hx183_2)).trans hx183_2
                  replace p183 := eq_true p183
                  replace q183 := eq_true q183
                  go_wp2_with (first | ((with_reducible refine gate_dst (N := 5) rfl ?_); (try (refine gate_guard (by rfl) ?_; dsimp only)); refine box_event ?hg (N := 5) ?hd (cs := #[.int .i64 0, .int .i64 0, .bool false]) (t := 32) ?hr ?_; (case hd => rfl); (case hg => rfl); (case hr => first | (go_simp; done) | (go_simp; rfl)); intro gb184 hg w25 hbox hb; have n0_ := Aside0.mk (below_step (by repeat (first | (with_reducible first | exact HB.out | apply below_alloc | apply pw_below_drewN | apply below_drew1) | exact HB.out)) hb); have n1_ := Aside0.mk (hbox); have n2_ := Aside0.mk ((by rw [hg]; exact (below_size (by repeat (first | (with_reducible first | exact HB.out | apply below_alloc | apply pw_below_drewN | apply below_drew1) | exact HB.out))) : w.heap.size ≤ gb184)); have n3_ := Aside0.mk ((by rw [hg]; exact (below_size (by repeat (first | (with_reducible first | exact HB.out | apply below_alloc | apply pw_below_drewN | apply below_drew1) | exact HB.out))) : w.heap.size ≤ gb184)); clear HB; have HB := n0_; have BK184 := n1_; have GW184 := n2_; have GE184 := n3_; clear n0_ n1_ n2_ n3_; clear hb hbox hg; have hcz26_0 : w25.cell? ⟨gb184, 0, none⟩ = some (.int .i64 0) := (blk_cell BK184.out 0).trans rfl; have hcz26_1 : w25.cell? ⟨gb184, 1, none⟩ = some (.int .i64 0) := (blk_cell BK184.out 1).trans rfl; have hcz26_2 : w25.cell? ⟨gb184, 2, none⟩ = some (.bool false) := (blk_cell BK184.out 2).trans rfl; have hfz26_0 := blk_frozen BK184.out 0; have hfz26_1 := blk_frozen BK184.out 1; have hfz26_2 := blk_frozen BK184.out 2))
                  go_roundg k2
                  case measure => have := HJ1.out; have := HK2.out; omega
                  case rel => exact ⟨(false), (wrap64 (x4_2 + 1)), (by first | rfl | (simp; done) | (simp [*]; done)), (by first | rfl | (simp; done) | (simp [*]; done)), H', ⟨by have := HJ1.out; have := HK2.out; omega⟩, ⟨by repeat (first | (with_reducible first | exact HB.out | apply below_alloc | apply pw_below_drewN | apply below_drew1 | refine below_set ?_ GE184.out) | exact HB.out)⟩⟩
              · replace c6 := Bool.eq_false_iff.mpr c6
                subst c6
                have H1 : (meridianref04_Right.l0 k2 l0 false (wrap64 (x4_2 + 1))) = some r := by rw [if_neg (show ¬ (false = true) by decide)] at H; exact H
                clear H
                have H := H1
                clear H1
                have H' := Aside0.mk H
                clear H
                have p183 : 0 ≤ (x4_2 : Int) := of_decide_eq_true (by first | (with_reducible assumption) | assumption)
                have q183 : x4_2 < (l0.length : Int) := of_decide_eq_true (by first | (with_reducible assumption) | assumption)
                obtain ⟨ad183, e183, hx183_0, hx183_1, hx183_2⟩ := at_T32 HR0.out x4_2 p183 q183
                cases e183
                replace hx183_0 := (HB.out.cell (World.block_lt_of_cell? w _ hx183_0)).trans hx183_0
                replace hx183_1 := (HB.out.cell (World.block_lt_of_cell? w _ hx183_1)).trans hx183_1
                replace hx183_2 := (HB.out.cell (World.block_lt_of_cell? w _ hx183_2)).trans hx183_2
                replace p183 := eq_true p183
                replace q183 := eq_true q183
                go_wp2_with (first | ((with_reducible refine gate_dst (N := 5) rfl ?_); (try (refine gate_guard (by rfl) ?_; dsimp only)); refine box_event ?hg (N := 5) ?hd (cs := #[.int .i64 0, .int .i64 0, .bool false]) (t := 32) ?hr ?_; (case hd => rfl); (case hg => rfl); (case hr => first | (go_simp; done) | (go_simp; rfl)); intro gb184 hg w27 hbox hb; have n0_ := Aside0.mk (below_step (by repeat (first | (with_reducible first | exact HB.out | apply below_alloc | apply pw_below_drewN | apply below_drew1) | exact HB.out)) hb); have n1_ := Aside0.mk (hbox); have n2_ := Aside0.mk ((by rw [hg]; exact (below_size (by repeat (first | (with_reducible first | exact HB.out | apply below_alloc | apply pw_below_drewN | apply below_drew1) | exact HB.out))) : w.heap.size ≤ gb184)); have n3_ := Aside0.mk ((by rw [hg]; exact (below_size (by repeat (first | (with_reducible first | exact HB.out | apply below_alloc | apply pw_below_drewN | apply below_drew1) | exact HB.out))) : w.heap.size ≤ gb184)); clear HB; have HB := n0_; have BK184 := n1_; have GW184 := n2_; have GE184 := n3_; clear n0_ n1_ n2_ n3_; clear hb hbox hg; have hcz28_0 : w27.cell? ⟨gb184, 0, none⟩ = some (.int .i64 0) := (blk_cell BK184.out 0).trans rfl; have hcz28_1 : w27.cell? ⟨gb184, 1, none⟩ = some (.int .i64 0) := (blk_cell BK184.out 1).trans rfl; have hcz28_2 : w27.cell? ⟨gb184, 2, none⟩ = some (.bool false) := (blk_cell BK184.out 2).trans rfl; have hfz28_0 := blk_frozen BK184.out 0; have hfz28_1 := blk_frozen BK184.out 1; have hfz28_2 := blk_frozen BK184.out 2))
                go_roundg k2
                case measure => have := HJ1.out; have := HK2.out; omega
                case rel => exact ⟨(false), (wrap64 (x4_2 + 1)), (by first | rfl | (simp; done) | (simp [*]; done)), (by first | rfl | (simp; done) | (simp [*]; done)), H', ⟨by have := HJ1.out; have := HK2.out; omega⟩, ⟨by repeat (first | (with_reducible first | exact HB.out | apply below_alloc | apply pw_below_drewN | apply below_drew1 | refine below_set ?_ GE184.out) | exact HB.out)⟩⟩
            · rw [if_neg c5] at H
              exact absurd H (by simp)
          · rw [if_neg c4] at H
            have c4b0 : decide (x4_2 < (l0.length : Int)) = false := decide_eq_false c4
            clear c4
            obtain rfl := Option.some.inj H
            go_wp2
            go_ret
            exact ⟨by first | rfl | (simp [errW_none, errW_some] <;> rfl) | (simp [*, errW_none, errW_some] <;> rfl), by repeat (first | (with_reducible first | exact HB.out | apply below_alloc | apply pw_below_drewN | apply below_drew1) | exact HB.out)⟩

/-! ### meridianref04_Is: function 27 -/
def meridianref04_Is.j0 : Nat → List (S32) → Bool → Int → Int → Option (Bool)
  | 0, _, _, _, _ => none
  | k + 1, x0, x12, x186000, x186001 => if x12 = true then (some true) else (if x186000 < 1 then (some false) else (if x186000 > (x0.length : Int) then (some false) else (if x186001 > 512 then (some false) else (if 0 ≤ (wrap64 (x186000 - 1)) then (if (wrap64 (x186000 - 1)) < (x0.length : Int) then (some (decide (x186001 > ((rd_T32 x0 (wrap64 (x186000 - 1))).f1)))) else (none)) else (none)))))
def meridianref04_Is.f (k : Nat) (l0 : List (S32)) (a1_0 : Int) (a1_1 : Int) : Option (Bool) := if a1_0 = 0 then (meridianref04_Is.j0 k l0 (a1_1 == 0) a1_0 a1_1) else (meridianref04_Is.j0 k l0 false a1_0 a1_1)
theorem meridianref04_Is.mono_l : ∀ k, (∀ y0 y1 y2 y3, LeO (meridianref04_Is.j0 k y0 y1 y2 y3) (meridianref04_Is.j0 (k + 1) y0 y1 y2 y3))
  | 0 => fun _ _ _ _ r h => by simp [meridianref04_Is.j0] at h
  | k + 1 => by
    have ih0 := meridianref04_Is.mono_l k
    · intro y0 y1 y2 y3
      unfold meridianref04_Is.j0
      repeat' first
      | (with_reducible exact ih0 _ _ _ _)
      | (with_reducible exact LeO.refl _)
      | (with_reducible exact LeO.none _)
      | (with_reducible refine LeO.ite ?_ ?_)
      | (with_reducible refine LeO.bind ?_ (fun _ => ?_))
      | exact ih0 _ _ _ _
      | exact LeO.none _
      | refine LeO.ite ?_ ?_
      | refine LeO.bind ?_ (fun _ => ?_)
theorem meridianref04_Is.mono : ∀ a0 a1 a2 k, LeO (meridianref04_Is.f k a0 a1 a2) (meridianref04_Is.f (k + 1) a0 a1 a2) := by
  intro a0 a1 a2 k
  have ih0 := meridianref04_Is.mono_l k
  unfold meridianref04_Is.f
  repeat' first
      | (with_reducible exact ih0 _ _ _ _)
      | (with_reducible exact LeO.refl _)
      | (with_reducible exact LeO.none _)
      | (with_reducible refine LeO.ite ?_ ?_)
      | (with_reducible refine LeO.bind ?_ (fun _ => ?_))
      | exact ih0 _ _ _ _
      | exact LeO.none _
      | refine LeO.ite ?_ ?_
      | refine LeO.bind ?_ (fun _ => ?_)
set_option maxHeartbeats 8000000 in
set_option maxRecDepth 100000 in
theorem meridianref04_Is.calls (k : Nat) (A0 : Option Addr) (c0 : Nat) (l0 : List (S32)) (a1_0 : Int) (a1_1 : Int) (r : Bool) (w : World) (hr0 : Kd.C k32 w A0 l0.length l0) (hc0 : l0.length ≤ c0) (h : meridianref04_Is.f k l0 a1_0 a1_1 = some r) :
    Calls Try.prog 27 #[.slice A0 l0.length c0, .agg #[.int .i64 a1_0, .int .i64 a1_1]] w fun e w' => e = .returned (.bool r) ∧ Below w.heap.size w w' := by
  have hu26 := Try.underlying26
  have HR0 := Aside0.mk hr0
  have HC0 := Aside0.mk hc0
  clear hr0 hc0
  have HB := Aside0.mk (Below.refl w.heap.size w)
  have H : (if a1_0 = 0 then (meridianref04_Is.j0 k l0 (a1_1 == 0) a1_0 a1_1) else (meridianref04_Is.j0 k l0 false a1_0 a1_1)) = some r := h
  clear h
  have HC3 := Aside0.mk H
  clear H
  go_enter Try.func27, Try.ntmps27
  go_upto_region 1 with (first | ((with_reducible refine gate_dst (N := 3) rfl ?_); (try (refine gate_guard (by rfl) ?_; dsimp only)); refine box_event ?hg (N := 3) ?hd (cs := #[.int .i64 a1_0, .int .i64 a1_1]) (t := 26) ?hr ?_; (case hd => rfl); (case hg => rfl); (case hr => first | (go_simp; done) | (go_simp; rfl)); intro gb185 hg w4 hbox hb; have n0_ := Aside0.mk (below_step (by repeat (first | (with_reducible first | exact HB.out | apply below_alloc | apply pw_below_drewN | apply below_drew1) | exact HB.out)) hb); have n1_ := Aside0.mk (hbox); have n2_ := Aside0.mk ((by rw [hg]; exact (below_size (by repeat (first | (with_reducible first | exact HB.out | apply below_alloc | apply pw_below_drewN | apply below_drew1) | exact HB.out))) : w.heap.size ≤ gb185)); have n3_ := Aside0.mk ((by rw [hg]; exact (below_size (by repeat (first | (with_reducible first | exact HB.out | apply below_alloc | apply pw_below_drewN | apply below_drew1) | exact HB.out))) : w.heap.size ≤ gb185)); clear HB; have HB := n0_; have BK185 := n1_; have GW185 := n2_; have GE185 := n3_; clear n0_ n1_ n2_ n3_; clear hb hbox hg))
  repeat (go_quiet (first | ((with_reducible refine gate_dst (N := 3) rfl ?_); (try (refine gate_guard (by rfl) ?_; dsimp only)); refine box_event ?hg (N := 3) ?hd (cs := #[.int .i64 a1_0, .int .i64 a1_1]) (t := 26) ?hr ?_; (case hd => rfl); (case hg => rfl); (case hr => first | (go_simp; done) | (go_simp; rfl)); intro gb185 hg w4 hbox hb; have n0_ := Aside0.mk (below_step (by repeat (first | (with_reducible first | exact HB.out | apply below_alloc | apply pw_below_drewN | apply below_drew1) | exact HB.out)) hb); have n1_ := Aside0.mk (hbox); have n2_ := Aside0.mk ((by rw [hg]; exact (below_size (by repeat (first | (with_reducible first | exact HB.out | apply below_alloc | apply pw_below_drewN | apply below_drew1) | exact HB.out))) : w.heap.size ≤ gb185)); have n3_ := Aside0.mk ((by rw [hg]; exact (below_size (by repeat (first | (with_reducible first | exact HB.out | apply below_alloc | apply pw_below_drewN | apply below_drew1) | exact HB.out))) : w.heap.size ≤ gb185)); clear HB; have HB := n0_; have BK185 := n1_; have GW185 := n2_; have GE185 := n3_; clear n0_ n1_ n2_ n3_; clear hb hbox hg)); go_upto_region 1 with (first | ((with_reducible refine gate_dst (N := 3) rfl ?_); (try (refine gate_guard (by rfl) ?_; dsimp only)); refine box_event ?hg (N := 3) ?hd (cs := #[.int .i64 a1_0, .int .i64 a1_1]) (t := 26) ?hr ?_; (case hd => rfl); (case hg => rfl); (case hr => first | (go_simp; done) | (go_simp; rfl)); intro gb185 hg w4 hbox hb; have n0_ := Aside0.mk (below_step (by repeat (first | (with_reducible first | exact HB.out | apply below_alloc | apply pw_below_drewN | apply below_drew1) | exact HB.out)) hb); have n1_ := Aside0.mk (hbox); have n2_ := Aside0.mk ((by rw [hg]; exact (below_size (by repeat (first | (with_reducible first | exact HB.out | apply below_alloc | apply pw_below_drewN | apply below_drew1) | exact HB.out))) : w.heap.size ≤ gb185)); have n3_ := Aside0.mk ((by rw [hg]; exact (below_size (by repeat (first | (with_reducible first | exact HB.out | apply below_alloc | apply pw_below_drewN | apply below_drew1) | exact HB.out))) : w.heap.size ≤ gb185)); clear HB; have HB := n0_; have BK185 := n1_; have GW185 := n2_; have GE185 := n3_; clear n0_ n1_ n2_ n3_; clear hb hbox hg)))
  (try simp only [Act.put, List.setIfInBounds_toArray, List.set_cons_zero, List.set_cons_succ])
  go_cut [12] (fun v12 wc => ∃ (kq : Nat) (x12_2 : Bool), v12 = .bool x12_2 ∧ Aside0 (meridianref04_Is.j0 kq l0 x12_2 a1_0 a1_1 = some r) ∧ Aside0 (kq ≤ k) ∧ Aside0 (wc.heap[gb185]? = some (.cells #[.int .i64 a1_0, .int .i64 a1_1] 26 (0, 0))) ∧ Aside0 (Below w.heap.size w wc))
  case first =>
    have H := HC3.out
    clear HC3
    by_cases c5 : a1_0 = 0
    · rw [if_pos c5] at H
      have c5b0 : (a1_0 == 0) = true := beq_iff_eq.mpr c5
      have c5b1 : (a1_0 != 0) = false := bne_eq_false_iff_eq.mpr c5
      clear c5
      (first | rw [c5b0] | (simp only [i64_w, i32_w]; rw [c5b0]) | skip)
      have H' := Aside0.mk H
      clear H
      have hcz6_0 : w4.cell? ⟨gb185, 0, none⟩ = some (.int .i64 a1_0) := (blk_cell BK185.out 0).trans rfl
      have hcz6_1 : w4.cell? ⟨gb185, 1, none⟩ = some (.int .i64 a1_1) := (blk_cell BK185.out 1).trans rfl
      have hfz6_0 := blk_frozen BK185.out 0
      have hfz6_1 := blk_frozen BK185.out 1
      go_wp2
      repeat (go_quiet (fail); try go_wp2)
      go_meet
      case rel => exact ⟨_, ((a1_1 == 0)), (by first | rfl | (simp; done) | (simp [*]; done)), H', ⟨by first | omega | exact Nat.le_refl _⟩, ⟨by (with_reducible repeat (first | refine blk_drewN ?_ _ | refine blk_drew ?_ | refine blk_alloc ?_ _)); exact BK185.out⟩, ⟨by repeat (first | (with_reducible first | exact HB.out | apply below_alloc | apply pw_below_drewN | apply below_drew1 | refine below_set ?_ GE185.out) | exact HB.out)⟩⟩
    · rw [if_neg c5] at H
      have c5b0 : (a1_0 == 0) = false := beq_eq_false_iff_ne.mpr c5
      have c5b1 : (a1_0 != 0) = true := bne_iff_ne.mpr c5
      (first | rw [c5b0] | (simp only [i64_w, i32_w]; rw [c5b0]) | skip)
      have H' := Aside0.mk H
      clear H
      have hcz7_0 : w4.cell? ⟨gb185, 0, none⟩ = some (.int .i64 a1_0) := (blk_cell BK185.out 0).trans rfl
      have hcz7_1 : w4.cell? ⟨gb185, 1, none⟩ = some (.int .i64 a1_1) := (blk_cell BK185.out 1).trans rfl
      have hfz7_0 := blk_frozen BK185.out 0
      have hfz7_1 := blk_frozen BK185.out 1
      go_wp2
      repeat (go_quiet (fail); try go_wp2)
      go_meet
      case rel => exact ⟨_, (false), (by first | rfl | (simp; done) | (simp [*]; done)), H', ⟨by first | omega | exact Nat.le_refl _⟩, ⟨by (with_reducible repeat (first | refine blk_drewN ?_ _ | refine blk_drew ?_ | refine blk_alloc ?_ _)); exact BK185.out⟩, ⟨by repeat (first | (with_reducible first | exact HB.out | apply below_alloc | apply pw_below_drewN | apply below_drew1 | refine below_set ?_ GE185.out) | exact HB.out)⟩⟩
  case rest =>
    clear HC3
    try clear c2
    try clear p2
    try clear c5
    try clear c5b0
    try clear c5b1
    try clear hcz6_0
    try clear hcz6_1
    try clear hcz7_0
    try clear hcz7_1
    try clear hfz6_0
    try clear hfz6_1
    try clear hfz7_0
    try clear hfz7_1
    obtain ⟨kq, x12_2, rfl, HA, HJ2, BK185, HB⟩ := hcut
    cases kq with
    | zero => exact absurd HA.out (by simp [meridianref04_Is.j0])
    | succ kj2 =>
      have H := HA.out
      clear HA
      simp only [meridianref04_Is.j0] at H
      by_cases c8 : x12_2 = true
      · subst c8
        have H1 : (some true) = some r := by rw [if_pos rfl] at H; exact H
        clear H
        have H := H1
        clear H1
        obtain rfl := Option.some.inj H
        go_wp2
        repeat (go_quiet (fail); try go_wp2)
        go_ret
        exact ⟨by first | rfl | (simp [errW_none, errW_some] <;> rfl) | (simp [*, errW_none, errW_some] <;> rfl), by repeat (first | (with_reducible first | exact HB.out | apply below_alloc | apply pw_below_drewN | apply below_drew1 | refine below_set ?_ GE185.out) | exact HB.out)⟩
      · replace c8 := Bool.eq_false_iff.mpr c8
        subst c8
        have H1 : (if a1_0 < 1 then (some false) else (if a1_0 > (l0.length : Int) then (some false) else (if a1_1 > 512 then (some false) else (if 0 ≤ (wrap64 (a1_0 - 1)) then (if (wrap64 (a1_0 - 1)) < (l0.length : Int) then (some (decide (a1_1 > ((rd_T32 l0 (wrap64 (a1_0 - 1))).f1)))) else (none)) else (none))))) = some r := by rw [if_neg (show ¬ (false = true) by decide)] at H; exact H
        clear H
        have H := H1
        clear H1
        by_cases c9 : a1_0 < 1
        · rw [if_pos c9] at H
          have c9b0 : decide (a1_0 < 1) = true := decide_eq_true c9
          clear c9
          obtain rfl := Option.some.inj H
          have hcz10_0 : wc.cell? ⟨gb185, 0, none⟩ = some (.int .i64 a1_0) := (blk_cell BK185.out 0).trans rfl
          have hcz10_1 : wc.cell? ⟨gb185, 1, none⟩ = some (.int .i64 a1_1) := (blk_cell BK185.out 1).trans rfl
          have hfz10_0 := blk_frozen BK185.out 0
          have hfz10_1 := blk_frozen BK185.out 1
          go_wp2
          repeat (go_quiet (fail); try go_wp2)
          go_ret
          exact ⟨by first | rfl | (simp [errW_none, errW_some] <;> rfl) | (simp [*, errW_none, errW_some] <;> rfl), by repeat (first | (with_reducible first | exact HB.out | apply below_alloc | apply pw_below_drewN | apply below_drew1 | refine below_set ?_ GE185.out) | exact HB.out)⟩
        · rw [if_neg c9] at H
          have c9b0 : decide (a1_0 < 1) = false := decide_eq_false c9
          clear c9
          by_cases c11 : a1_0 > (l0.length : Int)
          · rw [if_pos c11] at H
            have c11b0 : decide ((l0.length : Int) < a1_0) = true := decide_eq_true c11
            clear c11
            obtain rfl := Option.some.inj H
            have hcz12_0 : wc.cell? ⟨gb185, 0, none⟩ = some (.int .i64 a1_0) := (blk_cell BK185.out 0).trans rfl
            have hcz12_1 : wc.cell? ⟨gb185, 1, none⟩ = some (.int .i64 a1_1) := (blk_cell BK185.out 1).trans rfl
            have hfz12_0 := blk_frozen BK185.out 0
            have hfz12_1 := blk_frozen BK185.out 1
            go_wp2
            repeat (go_quiet (fail); try go_wp2)
            go_ret
            exact ⟨by first | rfl | (simp [errW_none, errW_some] <;> rfl) | (simp [*, errW_none, errW_some] <;> rfl), by repeat (first | (with_reducible first | exact HB.out | apply below_alloc | apply pw_below_drewN | apply below_drew1 | refine below_set ?_ GE185.out) | exact HB.out)⟩
          · rw [if_neg c11] at H
            have c11b0 : decide ((l0.length : Int) < a1_0) = false := decide_eq_false c11
            clear c11
            by_cases c13 : a1_1 > 512
            · rw [if_pos c13] at H
              have c13b0 : decide (512 < a1_1) = true := decide_eq_true c13
              clear c13
              obtain rfl := Option.some.inj H
              have hcz14_0 : wc.cell? ⟨gb185, 0, none⟩ = some (.int .i64 a1_0) := (blk_cell BK185.out 0).trans rfl
              have hcz14_1 : wc.cell? ⟨gb185, 1, none⟩ = some (.int .i64 a1_1) := (blk_cell BK185.out 1).trans rfl
              have hfz14_0 := blk_frozen BK185.out 0
              have hfz14_1 := blk_frozen BK185.out 1
              go_wp2
              repeat (go_quiet (fail); try go_wp2)
              go_ret
              exact ⟨by first | rfl | (simp [errW_none, errW_some] <;> rfl) | (simp [*, errW_none, errW_some] <;> rfl), by repeat (first | (with_reducible first | exact HB.out | apply below_alloc | apply pw_below_drewN | apply below_drew1 | refine below_set ?_ GE185.out) | exact HB.out)⟩
            · rw [if_neg c13] at H
              have c13b0 : decide (512 < a1_1) = false := decide_eq_false c13
              clear c13
              obtain ⟨ji15, hji15⟩ : ∃ j_ : Int, (wrap64 (a1_0 - 1)) = j_ := ⟨_, rfl⟩
              replace H : (if 0 ≤ (ji15) then (if (ji15) < (l0.length : Int) then (some (decide (a1_1 > ((rd_T32 l0 (ji15)).f1)))) else (none)) else (none)) = some r := by first | (rw [hji15] at H; exact H) | (simp only [hji15] at H ⊢; exact H)
              have hji15w : (IntKind.i64.wrap (a1_0 - 1)) = ji15 := (i64_w _).trans hji15
              by_cases c16 : 0 ≤ (ji15)
              · rw [if_pos c16] at H
                have c16b0 : decide (0 ≤ (ji15)) = true := decide_eq_true c16
                clear c16
                by_cases c17 : (ji15) < (l0.length : Int)
                · rw [if_pos c17] at H
                  have c17b0 : decide ((ji15) < (l0.length : Int)) = true := decide_eq_true c17
                  clear c17
                  obtain rfl := Option.some.inj H
                  have hcz18_0 : wc.cell? ⟨gb185, 0, none⟩ = some (.int .i64 a1_0) := (blk_cell BK185.out 0).trans rfl
                  have hcz18_1 : wc.cell? ⟨gb185, 1, none⟩ = some (.int .i64 a1_1) := (blk_cell BK185.out 1).trans rfl
                  have hfz18_0 := blk_frozen BK185.out 0
                  have hfz18_1 := blk_frozen BK185.out 1
                  have p186 : 0 ≤ ((ji15) : Int) := of_decide_eq_true (by first | (with_reducible assumption) | assumption)
                  have q186 : (ji15) < (l0.length : Int) := of_decide_eq_true (by first | (with_reducible assumption) | assumption)
                  obtain ⟨ad186, e186, hx186_0, hx186_1, hx186_2⟩ := at_T32 HR0.out (ji15) p186 q186
                  cases e186
                  replace hx186_0 := (HB.out.cell (World.block_lt_of_cell? w _ hx186_0)).trans hx186_0
                  replace hx186_1 := (HB.out.cell (World.block_lt_of_cell? w _ hx186_1)).trans hx186_1
                  replace hx186_2 := (HB.out.cell (World.block_lt_of_cell? w _ hx186_2)).trans hx186_2
                  replace p186 := eq_true p186
                  replace q186 := eq_true q186
                  go_wp2
                  repeat (go_quiet (fail); try go_wp2)
                  go_ret
                  exact ⟨by first | rfl | (simp [errW_none, errW_some] <;> rfl) | (simp only [← hji15]; first | rfl | (simp [errW_none, errW_some] <;> rfl)) | (simp [*, errW_none, errW_some] <;> rfl), by repeat (first | (with_reducible first | exact HB.out | apply below_alloc | apply pw_below_drewN | apply below_drew1 | refine below_set ?_ GE185.out) | exact HB.out)⟩
                · rw [if_neg c17] at H
                  exact absurd H (by simp)
              · rw [if_neg c16] at H
                exact absurd H (by simp)

/-! ### meridianref04_Branch: function 28 -/
mutual
def meridianref04_Branch.l0 : Nat → List (S32) → List Int → Int → Option (List Int)
  | 0, _, _, _ => none
  | k + 1, x0, x3, x4 => if x4 < (x0.length : Int) then (if 0 ≤ x4 then (meridianref04_Branch.l1 k x0 x3 x4 (wrap64 (((rd_T32 x0 x4).f1) + 1))) else (none)) else (some x3)
def meridianref04_Branch.l1 : Nat → List (S32) → List Int → Int → Int → Option (List Int)
  | 0, _, _, _, _ => none
  | k + 1, x0, x3, x4, x5 => if x5 ≤ 512 then (if 0 ≤ x5 then (if x5 < (x3.length : Int) then (meridianref04_Branch.l1 k x0 (x3.set (x5 : Int).toNat (wrap64 (x4 + 1))) x4 (wrap64 (x5 + 1))) else (none)) else (none)) else (meridianref04_Branch.l0 k x0 x3 (wrap64 (x4 + 1)))
end
def meridianref04_Branch.f (k : Nat) (l0 : List (S32)) : Option (List Int) := if 513 ≤ 35184372088832 then ((some (List.replicate 513 0 : List Int)).bind fun y187 => ((meridianref04_Right.f k l0).bind fun t190 => (if t190 = true then (meridianref04_Branch.l0 k l0 y187 0) else (some y187)))) else (none)
theorem meridianref04_Branch.mono_l : ∀ k, (∀ y0 y1 y2, LeO (meridianref04_Branch.l0 k y0 y1 y2) (meridianref04_Branch.l0 (k + 1) y0 y1 y2)) ∧ (∀ y0 y1 y2 y3, LeO (meridianref04_Branch.l1 k y0 y1 y2 y3) (meridianref04_Branch.l1 (k + 1) y0 y1 y2 y3))
  | 0 => ⟨fun _ _ _ r h => by simp [meridianref04_Branch.l0] at h, fun _ _ _ _ r h => by simp [meridianref04_Branch.l1] at h⟩
  | k + 1 => by
    obtain ⟨ih0, ih1⟩ := meridianref04_Branch.mono_l k
    refine ⟨?_, ?_⟩
    · intro y0 y1 y2
      unfold meridianref04_Branch.l0
      repeat' first
      | (with_reducible exact ih0 _ _ _)
      | (with_reducible exact ih1 _ _ _ _)
      | (with_reducible exact meridianref04_Right.mono _ _)
      | (with_reducible exact LeO.refl _)
      | (with_reducible exact LeO.none _)
      | (with_reducible refine LeO.ite ?_ ?_)
      | (with_reducible refine LeO.bind ?_ (fun _ => ?_))
      | exact ih0 _ _ _
      | exact ih1 _ _ _ _
      | exact meridianref04_Right.mono _ _
      | exact LeO.none _
      | refine LeO.ite ?_ ?_
      | refine LeO.bind ?_ (fun _ => ?_)
    · intro y0 y1 y2 y3
      unfold meridianref04_Branch.l1
      repeat' first
      | (with_reducible exact ih0 _ _ _)
      | (with_reducible exact ih1 _ _ _ _)
      | (with_reducible exact meridianref04_Right.mono _ _)
      | (with_reducible exact LeO.refl _)
      | (with_reducible exact LeO.none _)
      | (with_reducible refine LeO.ite ?_ ?_)
      | (with_reducible refine LeO.bind ?_ (fun _ => ?_))
      | exact ih0 _ _ _
      | exact ih1 _ _ _ _
      | exact meridianref04_Right.mono _ _
      | exact LeO.none _
      | refine LeO.ite ?_ ?_
      | refine LeO.bind ?_ (fun _ => ?_)
theorem meridianref04_Branch.mono : ∀ a0 k, LeO (meridianref04_Branch.f k a0) (meridianref04_Branch.f (k + 1) a0) := by
  intro a0 k
  obtain ⟨ih0, ih1⟩ := meridianref04_Branch.mono_l k
  unfold meridianref04_Branch.f
  repeat' first
      | (with_reducible exact ih0 _ _ _)
      | (with_reducible exact ih1 _ _ _ _)
      | (with_reducible exact meridianref04_Right.mono _ _)
      | (with_reducible exact LeO.refl _)
      | (with_reducible exact LeO.none _)
      | (with_reducible refine LeO.ite ?_ ?_)
      | (with_reducible refine LeO.bind ?_ (fun _ => ?_))
      | exact ih0 _ _ _
      | exact ih1 _ _ _ _
      | exact meridianref04_Right.mono _ _
      | exact LeO.none _
      | refine LeO.ite ?_ ?_
      | refine LeO.bind ?_ (fun _ => ?_)
set_option maxHeartbeats 8000000 in
set_option maxRecDepth 100000 in
theorem meridianref04_Branch.calls (k : Nat) (A0 : Option Addr) (c0 : Nat) (l0 : List (S32)) (r : List Int) (w : World) (hr0 : Kd.C k32 w A0 l0.length l0) (hc0 : l0.length ≤ c0) (h : meridianref04_Branch.f k l0 = some r) :
    Calls Try.prog 28 #[.slice A0 l0.length c0] w fun e w' => ∃ v0_ : Value, e = .returned (v0_) ∧ Kd.R (Kd.int .i64) 3 w' w.heap.size (fun _ => True) v0_ r ∧ Below w.heap.size w w' := by
  have HR0 := Aside0.mk hr0
  have HC0 := Aside0.mk hc0
  clear hr0 hc0
  have HB := Aside0.mk (Below.refl w.heap.size w)
  have H : (if 513 ≤ 35184372088832 then ((some (List.replicate 513 0 : List Int)).bind fun y187 => ((meridianref04_Right.f k l0).bind fun t190 => (if t190 = true then (meridianref04_Branch.l0 k l0 y187 0) else (some y187)))) else (none)) = some r := h
  clear h
  by_cases c2 : 513 ≤ 35184372088832
  · rw [if_pos c2] at H
    have c2b0 := eq_true c2
    have c2b1 : decide (513 ≤ 35184372088832) = true := decide_eq_true c2
    clear c2
    obtain ⟨y187, hy187⟩ : ∃ y_ : List Int, y_ = (List.replicate 513 0) := ⟨_, rfl⟩
    replace H : ((meridianref04_Right.f k l0).bind fun t190 => (if t190 = true then (meridianref04_Branch.l0 k l0 y187 0) else (some y187))) = some r := by first | (rw [hy187]; with_reducible exact H) | (have H2_ := (Option.bind_some _ _).symm.trans H; rw [hy187]; with_reducible exact H2_) | (have H2_ := (Option.bind_some _ _).symm.trans H; with_reducible exact H2_) | with_reducible exact H | (rw [hy187]; exact H) | exact H
    have Ny187 := Aside0.mk hy187
    clear hy187
    replace H := Option.bind_eq_some_iff.mp H
    obtain ⟨t190, A30, H⟩ := H
    replace H : (if t190 = true then (meridianref04_Branch.l0 k l0 y187 0) else (some y187)) = some r := H
    have A3 := Aside0.mk A30
    clear A30
    by_cases c4 : t190 = true
    · subst c4
      have H1 : (meridianref04_Branch.l0 k l0 y187 0) = some r := by rw [if_pos rfl] at H; exact H
      clear H
      have H := H1
      clear H1
      have H' := Aside0.mk H
      clear H
      go_enter Try.func28, Try.ntmps28
      go_wp2_with (first | ((with_reducible refine gate_dst (N := 6) rfl ?_); refine Kd.R_make (Kd.int .i64) _ 3 rfl (N := 6) rfl 39 _ _ rfl 513 rfl rfl Try.underlying39 (.int .i64 0) 8 info3 rfl (by decide) (by omega) 0 (ok := fun _ => True) (okp := fun _ => True) rfl (fun _ hk => hk) trivial (by omega) (by omega) (Below.refl _ _) (Nat.le_refl _) ?_; intro v188 w5 ho6 hb hg_ hnew_; clear hg_ hnew_; (first | rw [← Ny187.out] at ho6 | (simp only [Int.reduceToNat] at ho6; rw [← Ny187.out] at ho6)); have n0_ := Aside0.mk (Kd.R_lower ho6 (below_size (by repeat (first | (with_reducible first | exact HB.out | apply below_alloc | apply pw_below_drewN | apply below_drew1) | exact HB.out)))); have n1_ := Aside0.mk (below_step (by repeat (first | (with_reducible first | exact HB.out | apply below_alloc | apply pw_below_drewN | apply below_drew1) | exact HB.out)) hb); clear HB; have HO189 := n0_; have HB := n1_; clear n0_ n1_; clear hb ho6) | ((with_reducible refine gate_callee (f := 17) rfl ?_); refine goesL_ (some 8) rfl rfl Try.func17 (by kernel_rfl) rfl #[.slice A0 l0.length c0] rfl (by (try simp only [List.map_toArray, List.map_cons, List.map_nil]); first | done | rfl | (simp only [List.length_drop, List.length_take]; rfl)) ?_; (with_reducible refine (meridianref04_Right.calls k _ _ l0 true _ ?side1 ?side2 A3.out).mono ?_); (case side1 => repeat (first | exact (Kd.C_below HR0.out HB.out) | (with_reducible refine Kd.C_alloc ?_ _) | (with_reducible refine Kd.C_drewN ?_ _) | (with_reducible refine Kd.C_drew ?_))); (case side2 => exact HC0.out); rintro e w7 ⟨rfl, hb⟩; refine ⟨_, rfl, ?_⟩; have n0_ := Aside0.mk (Kd.R_below (by (with_reducible repeat (first | apply Kd.R_alloc | apply Kd.R_drewN | apply Kd.R_drew)); exact HO189.out) hb); have n1_ := Aside0.mk (below_step (by repeat (first | (with_reducible first | exact HB.out | apply below_alloc | apply pw_below_drewN | apply below_drew1) | exact HB.out)) hb); clear HO189; clear HB; have HO189 := n0_; have HB := n1_; clear n0_ n1_; (try clear hb); (try clear hb2); (try clear hk); (try clear hi)))
      go_loopg [4] k (fun kq v4 w' => ∃ (x3_1 : List Int) (x4_1 : Int), v4 = .int .i64 x4_1 ∧ Aside0 (meridianref04_Branch.l0 kq l0 x3_1 x4_1 = some r) ∧ Aside0 (kq ≤ k) ∧ Aside0 (Kd.R (Kd.int .i64) 3 w' w.heap.size (fun _ => True) v188 x3_1) ∧ Aside0 (Below w.heap.size w w'))
      case atStart => exact ⟨(y187), (0), (by first | rfl | (simp; done) | (simp [*]; done)), H', ⟨Nat.le_refl _⟩, ⟨by (with_reducible repeat (first | apply Kd.R_alloc | apply Kd.R_drewN | apply Kd.R_drew)); exact HO189.out⟩, ⟨by repeat (first | (with_reducible first | exact HB.out | apply below_alloc | apply pw_below_drewN | apply below_drew1) | exact HB.out)⟩⟩
      case round =>
        clear H'
        try clear c1
        try clear c2
        try clear c2b0
        try clear c2b1
        try clear p2
        try clear c4
        obtain ⟨x3_1, x4_1, rfl, HA, HK1, HO_3, HB⟩ := hrel
        cases gk with
        | zero => exact absurd HA.out (by simp [meridianref04_Branch.l0])
        | succ k1 =>
          have H := HA.out
          clear HA
          simp only [meridianref04_Branch.l0] at H
          by_cases c8 : x4_1 < (l0.length : Int)
          · rw [if_pos c8] at H
            have c8b0 : decide (x4_1 < (l0.length : Int)) = true := decide_eq_true c8
            clear c8
            by_cases c9 : 0 ≤ x4_1
            · rw [if_pos c9] at H
              have c9b0 : decide (0 ≤ x4_1) = true := decide_eq_true c9
              clear c9
              have H' := Aside0.mk H
              clear H
              have p191 : 0 ≤ (x4_1 : Int) := of_decide_eq_true (by first | (with_reducible assumption) | assumption)
              have q191 : x4_1 < (l0.length : Int) := of_decide_eq_true (by first | (with_reducible assumption) | assumption)
              obtain ⟨ad191, e191, hx191_0, hx191_1, hx191_2⟩ := at_T32 HR0.out x4_1 p191 q191
              cases e191
              replace hx191_0 := (HB.out.cell (World.block_lt_of_cell? w _ hx191_0)).trans hx191_0
              replace hx191_1 := (HB.out.cell (World.block_lt_of_cell? w _ hx191_1)).trans hx191_1
              replace hx191_2 := (HB.out.cell (World.block_lt_of_cell? w _ hx191_2)).trans hx191_2
              replace p191 := eq_true p191
              replace q191 := eq_true q191
              go_wp2
              go_loopg [5] k1 (fun kq v5 w' => ∃ (x3_2 : List Int) (x5_2 : Int), v5 = .int .i64 x5_2 ∧ Aside0 (meridianref04_Branch.l1 kq l0 x3_2 x4_1 x5_2 = some r) ∧ Aside0 (kq ≤ k1) ∧ Aside0 (Kd.R (Kd.int .i64) 3 w' w.heap.size (fun _ => True) v188 x3_2) ∧ Aside0 (Below w.heap.size w w'))
              case atStart => exact ⟨(x3_1), (wrap64 (((rd_T32 l0 x4_1).f1) + 1)), (by first | rfl | (simp; done) | (simp [*]; done)), H', ⟨Nat.le_refl _⟩, ⟨by (with_reducible repeat (first | apply Kd.R_alloc | apply Kd.R_drewN | apply Kd.R_drew)); exact HO_3.out⟩, ⟨by repeat (first | (with_reducible first | exact HB.out | apply below_alloc | apply pw_below_drewN | apply below_drew1) | exact HB.out)⟩⟩
              case round =>
                clear H'
                try clear c1
                try clear p1
                try clear q1
                try clear hx1
                try clear c2
                try clear c2b0
                try clear c2b1
                try clear p2
                try clear c4
                try clear p6
                try clear c8
                try clear c8b0
                try clear c9
                try clear c9b0
                try clear hx191_0
                try clear hx191_1
                try clear hx191_2
                try clear p191
                try clear p2
                try clear q191
                obtain ⟨x3_2, x5_2, rfl, HA, HK2, HO_3, HB⟩ := hrel
                cases gk with
                | zero => exact absurd HA.out (by simp [meridianref04_Branch.l1])
                | succ k2 =>
                  have H := HA.out
                  clear HA
                  simp only [meridianref04_Branch.l1] at H
                  by_cases c10 : x5_2 ≤ 512
                  · rw [if_pos c10] at H
                    have c10b0 : decide (x5_2 ≤ 512) = true := decide_eq_true c10
                    clear c10
                    by_cases c11 : 0 ≤ x5_2
                    · rw [if_pos c11] at H
                      have c11b0 : decide (0 ≤ x5_2) = true := decide_eq_true c11
                      clear c11
                      by_cases c12 : x5_2 < (x3_2.length : Int)
                      · rw [if_pos c12] at H
                        have c12b0 : decide (x5_2 < (x3_2.length : Int)) = true := decide_eq_true c12
                        clear c12
                        obtain ⟨y192, hy192⟩ : ∃ y_ : List Int, y_ = (x3_2.set (x5_2 : Int).toNat (wrap64 (x4_1 + 1))) := ⟨_, rfl⟩
                        replace H : (meridianref04_Branch.l1 k2 l0 y192 x4_1 (wrap64 (x5_2 + 1))) = some r := by first | (rw [hy192]; with_reducible exact H) | (have H2_ := (Option.bind_some _ _).symm.trans H; rw [hy192]; with_reducible exact H2_) | (have H2_ := (Option.bind_some _ _).symm.trans H; with_reducible exact H2_) | with_reducible exact H | (rw [hy192]; exact H) | exact H
                        have Ny192 := Aside0.mk hy192
                        clear hy192
                        have H' := Aside0.mk H
                        clear H
                        have p13 : 0 ≤ (x5_2 : Int) := of_decide_eq_true (by first | (with_reducible assumption) | assumption)
                        have q13 : (x5_2 : Int) < ((x3_2.length : Int) : Int) := of_decide_eq_true (by first | (with_reducible assumption) | assumption)
                        obtain ⟨go13, co13, eo13, gb13, gl13, cl13, HG13⟩ := Kd.R_form HO_3.out (by omega)
                        (first | cases eo13 | (injection eo13 with ea_ en_ ec_; (first | subst ea_ | (injection ea_ with ea_; subst ea_)); subst ec_; clear en_))
                        have GB13 := Aside0.mk gb13
                        have GG13 := Aside0.mk HG13
                        clear gb13 gl13 HG13
                        obtain ⟨hx13_0, hf13_0⟩ := Kd.R_celln 0 HO_3.out (x5_2 : Int) p13 q13
                        replace p13 := eq_true p13
                        replace q13 := eq_true q13
                        have HP14 := Kd.R_putg HO_3.out (x5_2 : Int) (wrap64 (x4_1 + 1))
                        go_wp2_with (first | ((with_reducible refine gate_store (t := 3) (p := 31) rfl ?_); refine store_event (t := 3) (p := 31) (v := ?vo_w15) (w1 := (wr.setCell ⟨go13, (x5_2 : Int).toNat, none⟩ (.int .i64 (wrap64 (x4_1 + 1))))) ?hg ?ho ?hn ?hr ?_; (case ho => rfl); (case hg => rfl); (case hn => rfl); (case hr => first | (go_simp; done) | (go_simp; rfl)); intro w15 hw; have hg : wr.grownBy w15 (some go13) := (by rw [hw]; exact HP14.2); have hp_ : Kd.R (Kd.int .i64) 3 w15 w.heap.size (fun _ => True) (.slice (some ⟨go13, 0, none⟩) x3_2.length co13) y192 := (by rw [hw, Ny192.out]; exact HP14.1); clear HP14; have n0_ := Aside0.mk (hp_); have n1_ := Aside0.mk ((by rw [hw]; exact below_set (HB.out) GB13.out : Below w.heap.size w w15)); clear HO_3; clear HB; have HO_3 := n0_; have HB := n1_; clear n0_ n1_; clear hg hw hp_))
                        go_roundg k2
                        case measure => have := HK1.out; have := HK2.out; omega
                        case rel => exact ⟨(y192), (wrap64 (x5_2 + 1)), (by first | rfl | (simp; done) | (simp [*]; done)), H', ⟨by have := HK1.out; have := HK2.out; omega⟩, ⟨by (with_reducible repeat (first | apply Kd.R_alloc | apply Kd.R_drewN | apply Kd.R_drew)); exact HO_3.out⟩, ⟨by repeat (first | (with_reducible first | exact HB.out | apply below_alloc | apply pw_below_drewN | apply below_drew1) | exact HB.out)⟩⟩
                      · rw [if_neg c12] at H
                        exact absurd H (by simp)
                    · rw [if_neg c11] at H
                      exact absurd H (by simp)
                  · rw [if_neg c10] at H
                    have c10b0 : decide (x5_2 ≤ 512) = false := decide_eq_false c10
                    clear c10
                    have H' := Aside0.mk H
                    clear H
                    go_wp2
                    go_roundg k2
                    case measure => have := HK1.out; have := HK2.out; omega
                    case rel => exact ⟨(x3_2), (wrap64 (x4_1 + 1)), (by first | rfl | (simp; done) | (simp [*]; done)), H', ⟨by have := HK1.out; have := HK2.out; omega⟩, ⟨by (with_reducible repeat (first | apply Kd.R_alloc | apply Kd.R_drewN | apply Kd.R_drew)); exact HO_3.out⟩, ⟨by repeat (first | (with_reducible first | exact HB.out | apply below_alloc | apply pw_below_drewN | apply below_drew1) | exact HB.out)⟩⟩
            · rw [if_neg c9] at H
              exact absurd H (by simp)
          · rw [if_neg c8] at H
            have c8b0 : decide (x4_1 < (l0.length : Int)) = false := decide_eq_false c8
            clear c8
            obtain rfl := Option.some.inj H
            go_wp2
            go_ret
            exact ⟨_, by first | rfl | (simp [errW_none, errW_some] <;> rfl) | (simp [*, errW_none, errW_some] <;> rfl), by (with_reducible repeat (first | apply Kd.R_alloc | apply Kd.R_drewN | apply Kd.R_drew)); exact HO_3.out, by repeat (first | (with_reducible first | exact HB.out | apply below_alloc | apply pw_below_drewN | apply below_drew1) | exact HB.out)⟩
    · replace c4 := Bool.eq_false_iff.mpr c4
      subst c4
      have H1 : (some y187) = some r := by rw [if_neg (show ¬ (false = true) by decide)] at H; exact H
      clear H
      have H := H1
      clear H1
      obtain rfl := Option.some.inj H
      go_enter Try.func28, Try.ntmps28
      go_wp2_with (first | ((with_reducible refine gate_dst (N := 6) rfl ?_); refine Kd.R_make (Kd.int .i64) _ 3 rfl (N := 6) rfl 39 _ _ rfl 513 rfl rfl Try.underlying39 (.int .i64 0) 8 info3 rfl (by decide) (by omega) 0 (ok := fun _ => True) (okp := fun _ => True) rfl (fun _ hk => hk) trivial (by omega) (by omega) (Below.refl _ _) (Nat.le_refl _) ?_; intro v188 w16 ho17 hb hg_ hnew_; clear hg_ hnew_; (first | rw [← Ny187.out] at ho17 | (simp only [Int.reduceToNat] at ho17; rw [← Ny187.out] at ho17)); have n0_ := Aside0.mk (Kd.R_lower ho17 (below_size (by repeat (first | (with_reducible first | exact HB.out | apply below_alloc | apply pw_below_drewN | apply below_drew1) | exact HB.out)))); have n1_ := Aside0.mk (below_step (by repeat (first | (with_reducible first | exact HB.out | apply below_alloc | apply pw_below_drewN | apply below_drew1) | exact HB.out)) hb); clear HB; have HO189 := n0_; have HB := n1_; clear n0_ n1_; clear hb ho17) | ((with_reducible refine gate_callee (f := 17) rfl ?_); refine goesL_ (some 8) rfl rfl Try.func17 (by kernel_rfl) rfl #[.slice A0 l0.length c0] rfl (by (try simp only [List.map_toArray, List.map_cons, List.map_nil]); first | done | rfl | (simp only [List.length_drop, List.length_take]; rfl)) ?_; (with_reducible refine (meridianref04_Right.calls k _ _ l0 false _ ?side1 ?side2 A3.out).mono ?_); (case side1 => repeat (first | exact (Kd.C_below HR0.out HB.out) | (with_reducible refine Kd.C_alloc ?_ _) | (with_reducible refine Kd.C_drewN ?_ _) | (with_reducible refine Kd.C_drew ?_))); (case side2 => exact HC0.out); rintro e w18 ⟨rfl, hb⟩; refine ⟨_, rfl, ?_⟩; have n0_ := Aside0.mk (Kd.R_below (by (with_reducible repeat (first | apply Kd.R_alloc | apply Kd.R_drewN | apply Kd.R_drew)); exact HO189.out) hb); have n1_ := Aside0.mk (below_step (by repeat (first | (with_reducible first | exact HB.out | apply below_alloc | apply pw_below_drewN | apply below_drew1) | exact HB.out)) hb); clear HO189; clear HB; have HO189 := n0_; have HB := n1_; clear n0_ n1_; (try clear hb); (try clear hb2); (try clear hk); (try clear hi)))
      go_ret
      exact ⟨_, by first | rfl | (simp [errW_none, errW_some] <;> rfl) | (simp [*, errW_none, errW_some] <;> rfl), by (with_reducible repeat (first | apply Kd.R_alloc | apply Kd.R_drewN | apply Kd.R_drew)); exact HO189.out, by repeat (first | (with_reducible first | exact HB.out | apply below_alloc | apply pw_below_drewN | apply below_drew1) | exact HB.out)⟩
  · rw [if_neg c2] at H
    exact absurd H (by simp)

end Go.Proofs.Ytlakicaemkgejaa.PAll
